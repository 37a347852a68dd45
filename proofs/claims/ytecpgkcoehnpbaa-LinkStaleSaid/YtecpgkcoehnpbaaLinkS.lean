/- Layer 17: the laws' own made, comes, pop. -/
import Derived.Test.YtecpgkcoehnpbaaLinkR
import Derived.Test.YtecpgkcoehnpbaaAnyAll
namespace Go.Proofs.Ytecpgkcoehnpbaa
open Go.RowKit

set_option maxRecDepth 100000 in
set_option maxHeartbeats 800000 in
theorem made_any (c n : Int) (w : World) : Calls Try.prog 36 #[.int .i64 c, .int .i64 n] w fun e w' => ∃ P go gi gw, e = .returned (.pointer (some ⟨P, 0, none⟩)) ∧ PairAt w' (fun k => w.heap.size ≤ k) P go gi gw (pst0 c n) ∧ Below w.heap.size w w' := by
  have hin := newIn_any c n (w.alloc (.cells (outCells ⟨c, n, [], 0, 0⟩ (.slice none 0 0)) 80))
  have hwn := wireNew_any ((w.alloc (.cells (outCells ⟨c, n, [], 0, 0⟩ (.slice none 0 0)) 80)).alloc (.cells (inCells ⟨c, n, [], 0⟩ (.slice none 0 0)) 83))
  have z1 : (w.alloc (.cells (outCells ⟨c, n, [], 0, 0⟩ (.slice none 0 0)) 80)).heap.size = w.heap.size + 1 := World.size_alloc _ _
  have z2 : ((w.alloc (.cells (outCells ⟨c, n, [], 0, 0⟩ (.slice none 0 0)) 80)).alloc (.cells (inCells ⟨c, n, [], 0⟩ (.slice none 0 0)) 83)).heap.size = w.heap.size + 2 := by rw [World.size_alloc, z1]
  rw [z1] at hin
  rw [z2] at hwn
  have o1 := heap_alloc_same (heap_alloc_new w (.cells (outCells ⟨c, n, [], 0, 0⟩ (.slice none 0 0)) 80)) (.cells (inCells ⟨c, n, [], 0⟩ (.slice none 0 0)) 83)
  have i1 := heap_alloc_new (w.alloc (.cells (outCells ⟨c, n, [], 0, 0⟩ (.slice none 0 0)) 80)) (.cells (inCells ⟨c, n, [], 0⟩ (.slice none 0 0)) 83)
  rw [z1] at i1
  have b2 : Below w.heap.size w ((w.alloc (.cells (outCells ⟨c, n, [], 0, 0⟩ (.slice none 0 0)) 80)).alloc (.cells (inCells ⟨c, n, [], 0⟩ (.slice none 0 0)) 83)) := ((Below.refl _ _).alloc (Nat.le_refl _) _).alloc (by simp) _
  have HIN := Lib.hid hin
  have HWN := Lib.hid hwn
  have HZ := Lib.hid z2
  have HO := Lib.hid o1
  have HI := Lib.hid i1
  have HB := Lib.hid b2
  clear hin hwn z1 z2 o1 i1 b2
  go_enter Try.func36, Try.ntmps36
  go_wp2_with fail
  refine (newOut_any c n w).mono ?_
  rintro e w1 ⟨rfl, rfl⟩
  go_wp2_with fail
  refine HIN.out.mono ?_
  rintro e w1 ⟨rfl, rfl⟩
  generalize (w.alloc (.cells (outCells ⟨c, n, [], 0, 0⟩ (.slice none 0 0)) 80)).alloc (.cells (inCells ⟨c, n, [], 0⟩ (.slice none 0 0)) 83) = w2 at *
  go_wp2_with fail
  refine HWN.out.mono ?_
  rintro e w1 ⟨rfl, rfl⟩
  have o2 := heap_alloc_same HO.out (.cells #[.slice none 0 0] 85)
  have i2 := heap_alloc_same HI.out (.cells #[.slice none 0 0] 85)
  have wz := heap_alloc_new w2 (.cells #[.slice none 0 0] 85)
  have z3 : (w2.alloc (.cells #[.slice none 0 0] 85)).heap.size = w.heap.size + 3 := by rw [World.size_alloc, HZ.out]
  rw [HZ.out] at wz
  have b3 : Below w.heap.size w (w2.alloc (.cells #[.slice none 0 0] 85)) := HB.out.alloc HB.out.size _
  have HO2 := Lib.hid o2
  have HI2 := Lib.hid i2
  have HW2 := Lib.hid wz
  have HZ3 := Lib.hid z3
  have HB3 := Lib.hid b3
  clear o2 i2 wz z3 b3 HO HI HZ HB HIN HWN
  generalize w2.alloc (.cells #[.slice none 0 0] 85) = w3 at *
  go_wp2_with fail
  go_ret
  have z3 := HZ3.out
  refine ⟨w3.heap.size, w.heap.size, w.heap.size + 1, w.heap.size + 2, rfl, ?_, HB3.out.alloc HB3.out.size _⟩
  refine ⟨fun k => if k = w.heap.size then 1 else if k = w.heap.size + 1 then 2 else if k = w.heap.size + 2 then 3 else if k = w.heap.size + 3 then 0 else 9, .slice none 0 0, .slice none 0 0, heap_alloc_new w3 _, by simp only [z3]; simp, ⟨by simp, _, heap_alloc_same HO2.out _, Sl.nil _ _ _ _⟩, ⟨by simp, _, heap_alloc_same HI2.out _, Sl.nil _ _ _ _⟩, ⟨by simp, _, heap_alloc_same HW2.out _, Sl.nil _ _ _ _⟩, Sl.nil _ _ _ _, Sl.nil _ _ _ _, fun k hk => ?_⟩
  rw [World.size_alloc, z3]
  have hk : (if k = w.heap.size then 1 else if k = w.heap.size + 1 then 2 else if k = w.heap.size + 2 then 3 else if k = w.heap.size + 3 then 0 else 9) ≤ 5 := hk
  by_cases h1 : k = w.heap.size
  · omega
  · rw [if_neg h1] at hk
    by_cases h2 : k = w.heap.size + 1
    · omega
    · rw [if_neg h2] at hk
      by_cases h3 : k = w.heap.size + 2
      · omega
      · rw [if_neg h3] at hk
        by_cases h4 : k = w.heap.size + 3
        · omega
        · rw [if_neg h4] at hk; omega

set_option maxRecDepth 100000 in
set_option maxHeartbeats 1600000 in
/-- the k-th packet comes -/
theorem comes_any (w : World) (F : Nat → Prop) (P go gi gw N : Nat) (s : PSt) (k : Int) (h : PairAt w F P go gi gw s) (hi : Inv N s) (hN : N ≤ 100000) :
    Calls Try.prog 39 #[.pointer (some ⟨P, 0, none⟩), .int .i64 k] w fun e w' => e = .returned (.tuple #[]) ∧ PairAt w' (fun k => (F k ∧ k < w.heap.size) ∨ w.heap.size ≤ k) P go gi gw (s.comes k) ∧ Chg w w' F := by
  have h64 := hi.wire
  obtain ⟨a1, c1, a2, c2, hrow⟩ := h.row
  have p2 : w.cell? ⟨P, 2, none⟩ = some (.pointer (some ⟨gw, 0, none⟩)) := cell_at hrow rfl
  have hPlt := heap_lt hrow
  by_cases hout : k < 0 ∨ (s.l.length : Int) ≤ k
  · have es : s.comes k = s := by
      unfold PSt.comes
      split
      · rfl
      · rw [List.getElem?_eq_none (by omega)]
    rw [es]
    have HT := Lib.hid (pair_take_none h k hout)
    have HP := Lib.hid h.tight
    clear hrow es hout h hi
    go_enter Try.func39, Try.ntmps39
    go_wp2_with fail
    refine HT.out.mono ?_
    rintro e w1 ⟨rfl, hb⟩
    have HB := Lib.hid hb
    clear hb
    go_wp2_with fail
    refine bodyPost_ret (results_none rfl _ _ _) rfl ⟨rfl, ?_, ?_⟩
    · exact ((HP.out.below HB.out (Nat.le_refl _)).below ((Below.refl w1.heap.size w1).alloc (Nat.le_refl _) _) (Nat.le_refl _)).mono fun k _ hk => .inl hk
    · exact (Chg.of_below HB.out F (fun i a b => absurd a (by omega))).alloc _
  · obtain ⟨i, rfl⟩ := Int.eq_ofNat_of_zero_le (show 0 ≤ k by omega)
    have hil : i < s.l.length := by omega
    obtain ⟨x, hx⟩ : ∃ x, s.l[i]? = some x := ⟨_, List.getElem?_eq_getElem hil⟩
    have es : s.comes (i : Int) = s.got1 i x := by
      unfold PSt.comes
      rw [if_neg (by omega), Int.toNat_natCast, hx]
    rw [es]
    have gx := hi.good x (List.mem_of_getElem? hx)
    have hi2 : Inv N ⟨s.o, s.i, s.l.eraseIdx i, s.sent, s.got⟩ := hi.lose i
    have hT := pair_take h i x hx h64
    obtain ⟨z, hz⟩ : ∃ z, s.got1 i x = z := ⟨_, rfl⟩
    rw [hz]
    have HT := Lib.hid hT
    have HGX := Lib.hid gx
    have HI2 := Lib.hid hi2
    have HZ := Lib.hid hz
    have HROW := Lib.hid hrow
    have mixed : Try.prog.follows .mixedOrders = true := by kernel_rfl
    have he64 : (s.l.eraseIdx i).length ≤ 64 := Nat.le_trans (List.length_eraseIdx_le ..) h64
    clear hT gx hi2 hz hrow es hx h hi
    generalize hwl : s.l.eraseIdx i = wl at *
    have HWL := Lib.hid hwl
    clear hwl hil hout
    go_enter Try.func39, Try.ntmps39
    go_wp2_with fail
    refine HT.out.mono ?_
    rintro e w1 ⟨rfl, h1, c1, k1⟩
    have r1 := k1.trans HROW.out
    have rx := heap_alloc_new w1 (pkObj x)
    have r2 := heap_alloc_same r1 (pkObj x)
    have h2 := h1.below ((Below.refl w1.heap.size w1).alloc (Nat.le_refl _) (pkObj x)) (Nat.le_refl _)
    have c2 := c1.alloc (pkObj x)
    have hz : w.heap.size ≤ (w1.alloc (pkObj x)).heap.size := c2.size
    obtain ⟨X, hX⟩ : ∃ X, w1.heap.size = X := ⟨_, rfl⟩
    obtain ⟨wx, hwx⟩ : ∃ wx, w1.alloc (.cells #[.int .i64 x.ch, .int .i64 x.back, .int .i64 x.inc, .int .i64 x.seq, .int .i64 x.ack, .string x.load] 23) = wx := ⟨_, rfl⟩
    change (w1.alloc (.cells #[.int .i64 x.ch, .int .i64 x.back, .int .i64 x.inc, .int .i64 x.seq, .int .i64 x.ack, .string x.load] 23)).heap[_]? = _ at rx r2
    change PairAt (w1.alloc (.cells #[.int .i64 x.ch, .int .i64 x.back, .int .i64 x.inc, .int .i64 x.seq, .int .i64 x.ack, .string x.load] 23)) _ _ _ _ _ _ at h2
    change Chg _ (w1.alloc (.cells #[.int .i64 x.ch, .int .i64 x.back, .int .i64 x.inc, .int .i64 x.seq, .int .i64 x.ack, .string x.load] 23)) _ at c2
    change _ ≤ (w1.alloc (.cells #[.int .i64 x.ch, .int .i64 x.back, .int .i64 x.inc, .int .i64 x.seq, .int .i64 x.ack, .string x.load] 23)).heap.size at hz
    rw [hwx] at rx r2 h2 c2 hz
    rw [hX] at rx
    have x1 : wx.cell? ⟨X, 1, none⟩ = some (.int .i64 x.back) := cell_at rx rfl
    have HH2 := Lib.hid h2
    have HC2 := Lib.hid c2
    have HR2 := Lib.hid r2
    have HRX := Lib.hid rx
    have hXw : X < wx.heap.size := heap_lt rx
    have hXF : w.heap.size ≤ X := by rw [← hX]; exact c1.size
    clear h1 c1 k1 r1 rx r2 h2 c2 HT HROW p2
    by_cases hb : x.back = 1
    · have hbb : (x.back == 1) = true := by rw [beq_iff_eq]; exact hb
      have eg : s.got1 i x = ⟨outAck s.o x, s.i, wl, s.sent, s.got⟩ := by rw [PSt.got1, if_pos hb, HWL.out]
      rw [HZ.out] at eg
      have HK := Lib.hid (pair_ack (N := N) (w := wx.drew) (HH2.out.below (Below.refl wx.heap.size wx).drew (Nat.le_refl _)) HI2.out hN x HGX.out hb)
      have HEG := Lib.hid eg
      have hS : (fun w' => w'.cell? ⟨P, 0, none⟩ = some (.pointer (some ⟨go, 0, none⟩)) ∧ w'.cell? ⟨X, 0, none⟩ = some (.int .i64 x.ch) ∧ w'.cell? ⟨X, 1, none⟩ = some (.int .i64 x.back) ∧ w'.cell? ⟨X, 2, none⟩ = some (.int .i64 x.inc) ∧ w'.cell? ⟨X, 3, none⟩ = some (.int .i64 x.seq) ∧ w'.cell? ⟨X, 4, none⟩ = some (.int .i64 x.ack) ∧ w'.cell? ⟨X, 5, none⟩ = some (.string x.load) : World → Prop) wx.drew := ⟨cell_at HR2.out rfl, cell_at HRX.out rfl, cell_at HRX.out rfl, cell_at HRX.out rfl, cell_at HRX.out rfl, cell_at HRX.out rfl, cell_at HRX.out rfl⟩
      clear eg hb
      go_wp2_with fail
      try rw [hwx]
      try rw [hX]
      clear hwx hX
      go_wp2_with fail
      refine AnyTo.region (m := 99) (S := fun w' => w'.cell? ⟨P, 0, none⟩ = some (.pointer (some ⟨go, 0, none⟩)) ∧ w'.cell? ⟨X, 0, none⟩ = some (.int .i64 x.ch) ∧ w'.cell? ⟨X, 1, none⟩ = some (.int .i64 x.back) ∧ w'.cell? ⟨X, 2, none⟩ = some (.int .i64 x.inc) ∧ w'.cell? ⟨X, 3, none⟩ = some (.int .i64 x.seq) ∧ w'.cell? ⟨X, 4, none⟩ = some (.int .i64 x.ack) ∧ w'.cell? ⟨X, 5, none⟩ = some (.string x.load)) mixed ?_
      refine AnyTo.takeA (i := 0) (v := ?va0) rfl (by kernel_rfl) (of_decide_eq_true (by kernel_rfl)) (by kernel_rfl) (by kernel_rfl) (fun _ _ _ h => h) (Or.inl ⟨by rfl, ?hya0⟩) hS ?resta0
      case hya0 => (intro w' hw'; (try dsimp only at hw'); go_simp; try (with_reducible rfl))
      refine AnyTo.takeA (i := 1) (v := ?va1) rfl (by kernel_rfl) (of_decide_eq_true (by kernel_rfl)) (by kernel_rfl) (by kernel_rfl) (fun _ _ _ h => h) (Or.inl ⟨by rfl, ?hya1⟩) hS ?resta1
      case hya1 => (intro w' hw'; (try dsimp only at hw'); go_simp; try (with_reducible rfl))
      refine AnyTo.takeA (i := 2) (v := ?va2) rfl (by kernel_rfl) (of_decide_eq_true (by kernel_rfl)) (by kernel_rfl) (by kernel_rfl) (fun _ _ _ h => h) (Or.inl ⟨by rfl, ?hya2⟩) hS ?resta2
      case hya2 => (intro w' hw'; (try dsimp only at hw'); go_simp; try (with_reducible rfl))
      refine AnyTo.takeA (i := 3) (v := ?va3) rfl (by kernel_rfl) (of_decide_eq_true (by kernel_rfl)) (by kernel_rfl) (by kernel_rfl) (fun _ _ _ h => h) (Or.inl ⟨by rfl, ?hya3⟩) hS ?resta3
      case hya3 => (intro w' hw'; (try dsimp only at hw'); go_simp; try (with_reducible rfl))
      refine AnyTo.takeA (i := 4) (v := ?va4) rfl (by kernel_rfl) (of_decide_eq_true (by kernel_rfl)) (by kernel_rfl) (by kernel_rfl) (fun _ _ _ h => h) (Or.inl ⟨by rfl, ?hya4⟩) hS ?resta4
      case hya4 => (intro w' hw'; (try dsimp only at hw'); go_simp; try (with_reducible rfl))
      try simp only [Act.put, List.setIfInBounds_toArray, List.set_cons_zero, List.set_cons_succ]
      refine AnyTo.step (i := 5) (by kernel_rfl) rfl (fun K hK => ?_)
      go_simp
      go_at_call 12
      refine HK.out.mono ?_
      rintro e w3 ⟨rfl, h3, c3, k3⟩
      have r3 := k3.trans HR2.out
      have rx3 := c3.heap (w := wx.drew) HRX.out (fun a => absurd a.2 (by omega))
      have HP3 := Lib.hid h3
      have HC3 := Lib.hid c3
      clear h3 c3 k3
      go_wp2_with fail
      refine hK.out _ _ (fun _ => ⟨cell_at r3 rfl, cell_at rx3 rfl, cell_at rx3 rfl, cell_at rx3 rfl, cell_at rx3 rfl, cell_at rx3 rfl, cell_at rx3 rfl⟩) ?_
      clear hK K
      try simp only [Act.put, List.setIfInBounds_toArray, List.set_cons_zero, List.set_cons_succ]
      refine AnyTo.done (by kernel_rfl) ?_
      go_wp2_with fail
      go_end0
      refine ⟨rfl, ?_, ?_⟩
      · rw [HEG.out]
        exact HP3.out.mono fun k _ hk => by
          rcases hk with ⟨a, _⟩ | hk
          · exact .inl a
          · exact .inr (Nat.le_trans hz hk)
      · exact HC2.out.drew.trans HC3.out fun _ _ a => a.1
    · have hbb : (x.back == 1) = false := by rw [beq_eq_false_iff_ne]; exact hb
      have eg : s.got1 i x = ⟨s.o, inTook s.i x, cutPks (wl ++ inAcks s.i x), s.sent, s.got⟩ := by rw [PSt.got1, if_neg hb, HWL.out]
      rw [HZ.out] at eg
      have HK := Lib.hid (pair_in (N := N) (w := wx.drew) (HH2.out.below (Below.refl wx.heap.size wx).drew (Nat.le_refl _)) HI2.out hN x HGX.out hb)
      have HEG := Lib.hid eg
      have hal : (inAcks s.i x).length ≤ 1 := by unfold inAcks; split <;> simp
      have hS : (fun w' => w'.cell? ⟨P, 2, none⟩ = some (.pointer (some ⟨gw, 0, none⟩)) ∧ w'.cell? ⟨P, 1, none⟩ = some (.pointer (some ⟨gi, 0, none⟩)) ∧ w'.cell? ⟨X, 0, none⟩ = some (.int .i64 x.ch) ∧ w'.cell? ⟨X, 1, none⟩ = some (.int .i64 x.back) ∧ w'.cell? ⟨X, 2, none⟩ = some (.int .i64 x.inc) ∧ w'.cell? ⟨X, 3, none⟩ = some (.int .i64 x.seq) ∧ w'.cell? ⟨X, 4, none⟩ = some (.int .i64 x.ack) ∧ w'.cell? ⟨X, 5, none⟩ = some (.string x.load) : World → Prop) wx.drew := ⟨cell_at HR2.out rfl, cell_at HR2.out rfl, cell_at HRX.out rfl, cell_at HRX.out rfl, cell_at HRX.out rfl, cell_at HRX.out rfl, cell_at HRX.out rfl, cell_at HRX.out rfl⟩
      clear eg hb
      go_wp2_with fail
      try rw [hwx]
      try rw [hX]
      clear hwx hX
      go_wp2_with fail
      refine AnyTo.region (m := 99) (S := fun w' => w'.cell? ⟨P, 2, none⟩ = some (.pointer (some ⟨gw, 0, none⟩)) ∧ w'.cell? ⟨P, 1, none⟩ = some (.pointer (some ⟨gi, 0, none⟩)) ∧ w'.cell? ⟨X, 0, none⟩ = some (.int .i64 x.ch) ∧ w'.cell? ⟨X, 1, none⟩ = some (.int .i64 x.back) ∧ w'.cell? ⟨X, 2, none⟩ = some (.int .i64 x.inc) ∧ w'.cell? ⟨X, 3, none⟩ = some (.int .i64 x.seq) ∧ w'.cell? ⟨X, 4, none⟩ = some (.int .i64 x.ack) ∧ w'.cell? ⟨X, 5, none⟩ = some (.string x.load)) mixed ?_
      refine AnyTo.takeA (i := 0) (v := ?vb0) rfl (by kernel_rfl) (of_decide_eq_true (by kernel_rfl)) (by kernel_rfl) (by kernel_rfl) (fun _ _ _ h => h) (Or.inl ⟨by rfl, ?hyb0⟩) hS ?restb0
      case hyb0 => (intro w' hw'; (try dsimp only at hw'); go_simp; try (with_reducible rfl))
      refine AnyTo.takeA (i := 1) (v := ?vb1) rfl (by kernel_rfl) (of_decide_eq_true (by kernel_rfl)) (by kernel_rfl) (by kernel_rfl) (fun _ _ _ h => h) (Or.inl ⟨by rfl, ?hyb1⟩) hS ?restb1
      case hyb1 => (intro w' hw'; (try dsimp only at hw'); go_simp; try (with_reducible rfl))
      refine AnyTo.takeA (i := 2) (v := ?vb2) rfl (by kernel_rfl) (of_decide_eq_true (by kernel_rfl)) (by kernel_rfl) (by kernel_rfl) (fun _ _ _ h => h) (Or.inl ⟨by rfl, ?hyb2⟩) hS ?restb2
      case hyb2 => (intro w' hw'; (try dsimp only at hw'); go_simp; try (with_reducible rfl))
      refine AnyTo.takeA (i := 3) (v := ?vb3) rfl (by kernel_rfl) (of_decide_eq_true (by kernel_rfl)) (by kernel_rfl) (by kernel_rfl) (fun _ _ _ h => h) (Or.inl ⟨by rfl, ?hyb3⟩) hS ?restb3
      case hyb3 => (intro w' hw'; (try dsimp only at hw'); go_simp; try (with_reducible rfl))
      refine AnyTo.takeA (i := 4) (v := ?vb4) rfl (by kernel_rfl) (of_decide_eq_true (by kernel_rfl)) (by kernel_rfl) (by kernel_rfl) (fun _ _ _ h => h) (Or.inl ⟨by rfl, ?hyb4⟩) hS ?restb4
      case hyb4 => (intro w' hw'; (try dsimp only at hw'); go_simp; try (with_reducible rfl))
      refine AnyTo.takeA (i := 5) (v := ?vb5) rfl (by kernel_rfl) (of_decide_eq_true (by kernel_rfl)) (by kernel_rfl) (by kernel_rfl) (fun _ _ _ h => h) (Or.inl ⟨by rfl, ?hyb5⟩) hS ?restb5
      case hyb5 => (intro w' hw'; (try dsimp only at hw'); go_simp; try (with_reducible rfl))
      refine AnyTo.takeA (i := 6) (v := ?vb6) rfl (by kernel_rfl) (of_decide_eq_true (by kernel_rfl)) (by kernel_rfl) (by kernel_rfl) (fun _ _ _ h => h) (Or.inl ⟨by rfl, ?hyb6⟩) hS ?restb6
      case hyb6 => (intro w' hw'; (try dsimp only at hw'); go_simp; try (with_reducible rfl))
      refine AnyTo.takeA (i := 7) (v := ?vb7) rfl (by kernel_rfl) (of_decide_eq_true (by kernel_rfl)) (by kernel_rfl) (by kernel_rfl) (fun _ _ _ h => h) (Or.inl ⟨by rfl, ?hyb7⟩) hS ?restb7
      case hyb7 => (intro w' hw'; (try dsimp only at hw'); go_simp; try (with_reducible rfl))
      refine AnyTo.takeA (i := 8) (v := ?vb8) rfl (by kernel_rfl) (of_decide_eq_true (by kernel_rfl)) (by kernel_rfl) (by kernel_rfl) (fun _ _ _ h => h) (Or.inl ⟨by rfl, ?hyb8⟩) hS ?restb8
      case hyb8 => (intro w' hw'; (try dsimp only at hw'); go_simp; try (with_reducible rfl))
      try simp only [Act.put, List.setIfInBounds_toArray, List.set_cons_zero, List.set_cons_succ]
      refine AnyTo.step (i := 9) (by kernel_rfl) rfl (fun K hK => ?_)
      go_simp
      go_at_call 20
      refine HK.out.mono ?_
      rintro e w3 ⟨v3, rfl, n3, h3, c3, k3⟩
      have r3 := k3.trans HR2.out
      have rx3 := c3.heap (w := wx.drew) HRX.out (fun a => absurd a.2 (by omega))
      have HK4 := Lib.hid (pair_send h3 (inAcks s.i x) v3 n3 (by simp only; omega))
      have HP3 := Lib.hid h3
      have HC3 := Lib.hid c3
      clear h3 c3 k3 n3
      go_wp2_with fail
      refine hK.out _ _ (fun _ => ⟨cell_at r3 rfl, cell_at r3 rfl, cell_at rx3 rfl, cell_at rx3 rfl, cell_at rx3 rfl, cell_at rx3 rfl, cell_at rx3 rfl, cell_at rx3 rfl⟩) ?_
      clear hK K
      try simp only [Act.put, List.setIfInBounds_toArray, List.set_cons_zero, List.set_cons_succ]
      refine AnyTo.step (i := 10) (by kernel_rfl) rfl (fun K hK => ?_)
      go_simp
      go_at_call 23
      refine HK4.out.mono ?_
      rintro e w4 ⟨rfl, h4, c4, k4⟩
      have r4 := k4.trans r3
      have rx4 := c4.heap rx3 (fun a => by rcases a with ⟨a, _⟩ | a; exact absurd a.2 (by omega); exact absurd a (by show ¬ wx.heap.size ≤ X; omega))
      have HP4 := Lib.hid h4
      have HC4 := Lib.hid c4
      clear h4 c4 k4
      go_wp2_with fail
      refine hK.out _ _ (fun _ => ⟨cell_at r4 rfl, cell_at r4 rfl, cell_at rx4 rfl, cell_at rx4 rfl, cell_at rx4 rfl, cell_at rx4 rfl, cell_at rx4 rfl, cell_at rx4 rfl⟩) ?_
      clear hK K
      try simp only [Act.put, List.setIfInBounds_toArray, List.set_cons_zero, List.set_cons_succ]
      refine AnyTo.done (by kernel_rfl) ?_
      go_wp2_with fail
      go_end0
      refine ⟨rfl, ?_, ?_⟩
      · rw [HEG.out]
        exact HP4.out.mono fun k _ hk => by
          rcases hk with ⟨(⟨a, _⟩ | hk), _⟩ | hk
          · exact .inl a
          · exact .inr (Nat.le_trans hz hk)
          · exact .inr (Nat.le_trans (Nat.le_trans hz HC3.out.size) hk)
      · refine (HC2.out.drew.trans HC3.out fun _ _ a => a.1).trans HC4.out fun k hk a => ?_
        rcases a with ⟨a, _⟩ | a
        · exact a.1
        · exact absurd a (by show ¬ wx.heap.size ≤ k; omega)
end Go.Proofs.Ytecpgkcoehnpbaa
