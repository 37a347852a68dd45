/- Behind anything, if packets come, in any order, and are popped, and ticks go on, all that was sent comes within 40 rounds: the law LinkAll answers true at every input. No condition. -/
import Derived.Test.YtecpgkcoehnpbaaLinkX
import Derived.Test.YtecpgkcoehnpbaaLinkH
import Derived.Test.YtecpgkcoehnpbaaLinkL
import Derived.Deep.LoopGhost
namespace Go.Proofs.Ytecpgkcoehnpbaa
open Go.ChangeShapes Go.WideShapes Go.ChangeAt Go.RowKit

theorem under_ints17 : Try.prog.underlying 50 = some (.slice 3) := by kernel_rfl
theorem rdInts17 {H : Type} {enc : TypeId × Value → H} {W : World} {base : Nat} {spare : Nat → Bool} {held : Bool} (fuel : Nat) (cs : List Value) (y : DataW H × List MemPlace) (h : DataW.trod enc Try.prog W base spare held fuel 3 cs = some y) : ∃ n : Int, cs = [.int .i64 n] ∧ inI64 n := by
  obtain ⟨n, h1, _, h3⟩ := DataW.trod_int under_int h
  exact ⟨n, h1, bounds_i64 h3⟩
theorem and63 (n : Int) : bits .and .i64 n 63 = n % 64 := by
  have h63 : (BitVec.ofInt 64 63).toNat = 2 ^ 6 - 1 := by decide
  have key : (BitVec.ofInt 64 n &&& BitVec.ofInt 64 63).toNat = (n % ((2 ^ 64 : Nat) : Int)).toNat % 2 ^ 6 := by
    rw [BitVec.toNat_and, BitVec.toNat_ofInt, h63, Nat.and_two_pow_sub_one_eq_mod]
  show IntKind.i64.wrap ((BitVec.ofInt 64 n &&& BitVec.ofInt 64 63).toNat : Nat) = n % 64
  rw [key, IntKind.wrap_i64]
  omega

set_option maxRecDepth 100000 in
set_option maxHeartbeats 1600000 in
theorem linkAll_big (so : Option Addr) (sb soff n scap : Nat) (os : List LOp) (to : Option Addr) (tb toff tn tcap : Nat) (ts : List Int) (w : World) (hn : n ≤ maxLen) (hl : os.length = n) (hao : 0 < n → so = some ⟨sb, soff, none⟩) (hb : 0 < n → sb < w.heap.size) (hok : ∀ o ∈ os, LOpOk o)
    (hc : ∀ i o, os[i]? = some o → ∀ j u, (lopCells o)[j]? = some u → w.cell? ⟨sb, soff + i * 10 + j, none⟩ = some u) (hbig : Big17 os) :
    Calls Try.prog 10 #[.slice so n scap, .slice to tn tcap] w fun e w' => e = .returned (.bool true) ∧ Below w.heap.size w w' := by
  have HGR : ∀ w' : World, Below w.heap.size w w' → Calls Try.prog 35 #[.slice so n scap] w' fun e w'' => e = .returned (.bool true) ∧ Below w'.heap.size w' w'' := fun w' hb' =>
    great17_any so sb soff n scap os w' hn hl hao (fun h => Nat.lt_of_lt_of_le (hb h) hb'.size) hok (fun i o ho j u hj => (hb'.cell (by exact hb (by have := (List.getElem?_eq_some_iff.1 ho).1; omega))).trans (hc i o ho j u hj)) true (by simp [hbig])
  have HGRT := Lib.hid HGR
  clear hao hb hl hc hok hbig HGR hn
  go_enter Try.func10, Try.ntmps10
  go_wp2_with fail
  refine (linkAwake w).mono ?_
  rintro e w0 ⟨rfl, hb0⟩
  have HB0 := Lib.hid hb0
  clear hb0
  go_wp2_with fail
  refine (HGRT.out w0 HB0.out).mono ?_
  rintro e w1 ⟨rfl, hb1⟩
  have z1 : w.heap.size ≤ w1.heap.size := Nat.le_trans HB0.out.size hb1.size
  have HB1 : Hid (Below w.heap.size w w1) := HB0.out.trans (hb1.mono HB0.out.size)
  clear hb1 HB0 HGRT
  go_wp2_with fail
  go_ret
  exact ⟨rfl, HB1.out⟩
set_option maxRecDepth 100000 in
set_option maxHeartbeats 1600000 in
theorem linkAll_many (so : Option Addr) (sb soff n scap : Nat) (os : List LOp) (to : Option Addr) (tb toff tn tcap : Nat) (ts : List Int) (w : World) (hn : n ≤ maxLen) (hl : os.length = n) (hao : 0 < n → so = some ⟨sb, soff, none⟩) (hb : 0 < n → sb < w.heap.size) (hok : ∀ o ∈ os, LOpOk o)
    (hc : ∀ i o, os[i]? = some o → ∀ j u, (lopCells o)[j]? = some u → w.cell? ⟨sb, soff + i * 10 + j, none⟩ = some u) (hbig : ¬ Big17 os) (ht : 200 < tn) (htn : tn ≤ maxLen) :
    Calls Try.prog 10 #[.slice so n scap, .slice to tn tcap] w fun e w' => e = .returned (.bool true) ∧ Below w.heap.size w w' := by
  have HGR : ∀ w' : World, Below w.heap.size w w' → Calls Try.prog 35 #[.slice so n scap] w' fun e w'' => e = .returned (.bool false) ∧ Below w'.heap.size w' w'' := fun w' hb' =>
    great17_any so sb soff n scap os w' hn hl hao (fun h => Nat.lt_of_lt_of_le (hb h) hb'.size) hok (fun i o ho j u hj => (hb'.cell (by exact hb (by have := (List.getElem?_eq_some_iff.1 ho).1; omega))).trans (hc i o ho j u hj)) false (by simp [hbig])
  have HGRT := Lib.hid HGR
  unfold maxLen at htn
  clear hao hb hl hc hok hbig HGR hn
  go_enter Try.func10, Try.ntmps10
  go_wp2_with fail
  refine (linkAwake w).mono ?_
  rintro e w0 ⟨rfl, hb0⟩
  have HB0 := Lib.hid hb0
  clear hb0
  go_wp2_with fail
  refine (HGRT.out w0 HB0.out).mono ?_
  rintro e w1 ⟨rfl, hb1⟩
  have z1 : w.heap.size ≤ w1.heap.size := Nat.le_trans HB0.out.size hb1.size
  have HB1 : Hid (Below w.heap.size w w1) := HB0.out.trans (hb1.mono HB0.out.size)
  clear hb1 HB0 HGRT
  go_wp2_with fail
  go_ret
  exact ⟨rfl, HB1.out⟩

set_option maxRecDepth 100000 in
set_option maxHeartbeats 6400000 in
theorem linkAll_law (so : Option Addr) (sb soff n scap : Nat) (os : List LOp) (to : Option Addr) (tb toff tn tcap : Nat) (ts : List Int) (w : World) (hn : n ≤ maxLen) (hl : os.length = n) (hao : 0 < n → so = some ⟨sb, soff, none⟩) (hb : 0 < n → sb < w.heap.size) (hok : ∀ o ∈ os, LOpOk o)
    (hc : ∀ i o, os[i]? = some o → ∀ j u, (lopCells o)[j]? = some u → w.cell? ⟨sb, soff + i * 10 + j, none⟩ = some u) (hbig : ¬ Big17 os) (ht : tn ≤ 200) (hto : 0 < tn → to = some ⟨tb, toff, none⟩) (htb : 0 < tn → tb < w.heap.size) (htl : ts.length = tn)
    (htc : ∀ i x, ts[i]? = some x → w.cell? ⟨tb, toff + i, none⟩ = some (.int .i64 x)) :
    Calls Try.prog 10 #[.slice so n scap, .slice to tn tcap] w fun e w' => e = .returned (.bool true) ∧ Below w.heap.size w w' := by
  have HGR : ∀ w' : World, Below w.heap.size w w' → Calls Try.prog 35 #[.slice so n scap] w' fun e w'' => e = .returned (.bool false) ∧ Below w'.heap.size w' w'' := fun w' hb' =>
    great17_any so sb soff n scap os w' hn hl hao (fun h => Nat.lt_of_lt_of_le (hb h) hb'.size) hok (fun i o ho j u hj => (hb'.cell (by exact hb (by have := (List.getElem?_eq_some_iff.1 ho).1; omega))).trans (hc i o ho j u hj)) false (by simp [hbig])
  have hn200 : n ≤ 200 := by
    have h : ¬ 200 < os.length := fun h => hbig (.inl h)
    omega
  have HGRT := Lib.hid HGR
  have HAO := Lib.hid hao
  have HB := Lib.hid hb
  have HL := Lib.hid hl
  have HC := Lib.hid hc
  have HTO := Lib.hid hto
  have HTB := Lib.hid htb
  have HTL := Lib.hid htl
  have HTC := Lib.hid htc
  have mixed : Try.prog.follows .mixedOrders = true := by kernel_rfl
  clear hao hb hl hc hok hbig HGR hn hto htb htl htc
  go_enter Try.func10, Try.ntmps10
  go_wp2_with fail
  refine (linkAwake w).mono ?_
  rintro e w0 ⟨rfl, hb0⟩
  have HB0 := Lib.hid hb0
  clear hb0
  go_wp2_with fail
  refine (HGRT.out w0 HB0.out).mono ?_
  rintro e w1 ⟨rfl, hb1⟩
  have z1 : w.heap.size ≤ w1.heap.size := Nat.le_trans HB0.out.size hb1.size
  have HB1 : Hid (Below w.heap.size w w1) := HB0.out.trans (hb1.mono HB0.out.size)
  clear hb1 HB0 HGRT
  go_wp2_with fail
  refine (made_any 1 1 w1).mono ?_
  rintro e w2 ⟨P, go, gi, gw, rfl, hp2, hb2⟩
  have HR0 : Hid (PairAt w2 (fun k => w.heap.size ≤ k) P go gi gw (pst0 1 1) ∧ Below w.heap.size w w2) := ⟨hp2.mono (fun k _ hk => Nat.le_trans z1 hk), HB1.out.trans (hb2.mono z1)⟩
  clear hp2 hb2 HB1
  go_wp2_with fail
  go_loopw [23] (fun i wr => ∃ (j : Nat) (s : PSt), j ≤ n ∧ i = .int .i64 j ∧ Hid (Inv j s ∧ s.o.ch = 1 ∧ s.o.inc = 1) ∧ Hid (PairAt wr (fun k => w.heap.size ≤ k) P go gi gw s ∧ Below w.heap.size w wr)) (fun i _ => n - (intOf i).toNat)
  case atStart => exact ⟨0, pst0 1 1, by omega, rfl, ⟨inv0 1 1, rfl, rfl⟩, HR0.out⟩
  case round =>
    obtain ⟨j, s, hj, rfl, HI, HR⟩ := hrel
    clear HR0
    by_cases hlt : j < n
    · obtain rfl := HAO.out (by omega)
      obtain ⟨⟨ok, oa, ob, ox, op⟩, ho⟩ : ∃ o, os[j]? = some o := ⟨_, List.getElem?_eq_getElem (by rw [HL.out]; exact hlt)⟩
      have hc : ∀ k u, (lopCells ⟨ok, oa, ob, ox, op⟩)[k]? = some u → wr.cell? ⟨sb, soff + j * 10 + k, none⟩ = some u := fun k u hk => (HR.out.2.cell (by exact HB.out (by omega))).trans (HC.out j _ ho k u hk)
      have q0 : wr.cell? ⟨sb, soff + j * 10, none⟩ = some (.int .i64 ok) := hc 0 _ rfl
      have q1 : wr.cell? ⟨sb, soff + j * 10 + 1, none⟩ = some (.int .i64 oa) := hc 1 _ rfl
      have q2 : wr.cell? ⟨sb, soff + j * 10 + 2, none⟩ = some (.int .i64 ob) := hc 2 _ rfl
      have q3 : wr.cell? ⟨sb, soff + j * 10 + 3, none⟩ = some (.string ox) := hc 3 _ rfl
      have q4 : wr.cell? ⟨sb, soff + j * 10 + 4, none⟩ = some (.int .i64 op.ch) := hc 4 _ rfl
      have q5 : wr.cell? ⟨sb, soff + j * 10 + 5, none⟩ = some (.int .i64 op.back) := hc 5 _ rfl
      have q6 : wr.cell? ⟨sb, soff + j * 10 + 6, none⟩ = some (.int .i64 op.inc) := hc 6 _ rfl
      have q7 : wr.cell? ⟨sb, soff + j * 10 + 7, none⟩ = some (.int .i64 op.seq) := hc 7 _ rfl
      have q8 : wr.cell? ⟨sb, soff + j * 10 + 8, none⟩ = some (.int .i64 op.ack) := hc 8 _ rfl
      have q9 : wr.cell? ⟨sb, soff + j * 10 + 9, none⟩ = some (.string op.load) := hc 9 _ rfl
      have hz := HR.out.2.size
      clear hc ho
      obtain ⟨wb, hwb⟩ : ∃ wb, wr.alloc (.cells #[.int .i64 ok, .int .i64 oa, .int .i64 ob, .string ox, .int .i64 op.ch, .int .i64 op.back, .int .i64 op.inc, .int .i64 op.seq, .int .i64 op.ack, .string op.load] 66) = wb := ⟨_, rfl⟩
      have hbx : wb.heap[wr.heap.size]? = some (.cells #[.int .i64 ok, .int .i64 oa, .int .i64 ob, .string ox, .int .i64 op.ch, .int .i64 op.back, .int .i64 op.inc, .int .i64 op.seq, .int .i64 op.ack, .string op.load] 66) := by rw [← hwb]; exact heap_alloc_new wr _
      have HPB : Hid (PairAt wb (fun k => w.heap.size ≤ k ∧ k < wr.heap.size) P go gi gw s) := by rw [← hwb]; exact HR.out.1.tight.below ((Below.refl wr.heap.size wr).alloc (Nat.le_refl _) _) (Nat.le_refl _)
      have HBW : Hid (Below w.heap.size w wb) := by rw [← hwb]; exact HR.out.2.alloc hz _
      have HOP := Lib.hid (op_any wb _ P go gi gw j s 1 1 ⟨ok, oa, ob, ox, op⟩ HPB.out HI.out.1 (by omega) HI.out.2.1 HI.out.2.2)
      have HI2 : Hid (Inv (j + 1) (s.op ⟨ok, oa, ob, ox, op⟩) ∧ (s.op ⟨ok, oa, ob, ox, op⟩).o.ch = 1 ∧ (s.op ⟨ok, oa, ob, ox, op⟩).o.inc = 1) := ⟨HI.out.1.op _, (op_o s _).1.trans HI.out.2.1, (op_o s _).2.trans HI.out.2.2⟩
      generalize s.op ⟨ok, oa, ob, ox, op⟩ = s' at *
      have k0 : wb.cell? ⟨wr.heap.size, 0, none⟩ = some (.int .i64 ok) := cell_at hbx rfl
      have k1 : wb.cell? ⟨wr.heap.size, 1, none⟩ = some (.int .i64 oa) := cell_at hbx rfl
      have k2 : wb.cell? ⟨wr.heap.size, 2, none⟩ = some (.int .i64 ob) := cell_at hbx rfl
      have k3 : wb.cell? ⟨wr.heap.size, 3, none⟩ = some (.string ox) := cell_at hbx rfl
      have k4 : wb.cell? ⟨wr.heap.size, 4, none⟩ = some (.int .i64 op.ch) := cell_at hbx rfl
      have k5 : wb.cell? ⟨wr.heap.size, 5, none⟩ = some (.int .i64 op.back) := cell_at hbx rfl
      have k6 : wb.cell? ⟨wr.heap.size, 6, none⟩ = some (.int .i64 op.inc) := cell_at hbx rfl
      have k7 : wb.cell? ⟨wr.heap.size, 7, none⟩ = some (.int .i64 op.seq) := cell_at hbx rfl
      have k8 : wb.cell? ⟨wr.heap.size, 8, none⟩ = some (.int .i64 op.ack) := cell_at hbx rfl
      have k9 : wb.cell? ⟨wr.heap.size, 9, none⟩ = some (.string op.load) := cell_at hbx rfl
      have hzb := HBW.out.size
      clear hbx HR
      go_wp2_with fail
      try rw [hwb]
      refine HOP.out.mono ?_
      rintro e w3 ⟨rfl, h3, c3⟩
      have HP3 : Hid (PairAt w3 (fun k => w.heap.size ≤ k) P go gi gw s' ∧ Below w.heap.size w w3) := ⟨h3.mono fun k _ hk => by
        rcases hk with ⟨a, _⟩ | a
        · exact a.1
        · exact Nat.le_trans hzb a, HBW.out.trans (c3.below hzb (fun i hi a => by omega))⟩
      clear hwb h3 c3 HOP k0 k1 k2 k3 k4 k5 k6 k7 k8 k9 q0 q1 q2 q3 q4 q5 q6 q7 q8 q9 HPB HBW
      go_wp2_with fail
      go_roundw
      case rel => exact ⟨j + 1, s', by omega, by go_num, HI2.out, HP3.out⟩
      case measure => simp [intOf]; omega
    · have hi0 := HI.out.1.mono (M := 200) (by omega)
      have HI0 := Lib.hid hi0
      obtain ⟨s0, hs0⟩ : ∃ s0, s0 = s := ⟨_, rfl⟩
      have HRS : Hid (Rounds 0 s0 s) := hs0.symm
      rw [← hs0] at HI0
      clear hi0 HI hs0 HAO HB HL HC
      obtain ⟨wo, hwo⟩ : ∃ wo : World, wo = wr := ⟨_, rfl⟩
      rw [← hwo] at HR ⊢
      clear hwo
      go_wp2_with fail
      go_loopw [8] (fun i wr => ∃ (r : Nat) (s : PSt), r ≤ 40 ∧ i = .int .i64 r ∧ Hid (Rounds r s0 s) ∧ Hid (PairAt wr (fun k => w.heap.size ≤ k) P go gi gw s ∧ Below w.heap.size w wr)) (fun i _ => 40 - (intOf i).toNat)
      case atStart => exact ⟨0, s, by omega, rfl, HRS.out, HR.out⟩
      case round =>
        obtain ⟨r, s, hr, rfl, HRD, HR⟩ := hrel
        clear HRS
        obtain ⟨wq, hwq⟩ : ∃ wq : World, wq = wr := ⟨_, rfl⟩
        rw [← hwq] at HR ⊢
        clear hwq
        have HI := Lib.hid ((HRD.out.inv HI0.out).mono (M := 240) (by omega))
        have h64 := HI.out.wire
        by_cases hlt : r < 40
        · obtain ⟨a1, c1, a2, c2, hrow⟩ := HR.out.1.row
          have hPlt := heap_lt hrow
          have HROW := Lib.hid hrow
          have hzq := HR.out.2.size
          have htick := pair_tick (w := wq.drew) (HR.out.1.below (Below.refl wq.heap.size wq).drew (Nat.le_refl _)) HI.out (by omega)
          have htl : (tickPks s.o).length ≤ 6 := by
            unfold tickPks; split
            · rw [outPks_length]; exact HI.out.w6
            · simp
          have HK := Lib.hid htick
          have hS : (fun w' => w'.cell? ⟨P, 2, none⟩ = some (.pointer (some ⟨gw, 0, none⟩)) ∧ w'.cell? ⟨P, 0, none⟩ = some (.pointer (some ⟨go, 0, none⟩)) : World → Prop) wq.drew := ⟨cell_at hrow rfl, cell_at hrow rfl⟩
          clear htick hrow
          go_wp2_with fail
          refine AnyTo.region (m := 99) (S := fun w' => w'.cell? ⟨P, 2, none⟩ = some (.pointer (some ⟨gw, 0, none⟩)) ∧ w'.cell? ⟨P, 0, none⟩ = some (.pointer (some ⟨go, 0, none⟩))) mixed ?_
          refine AnyTo.takeA (i := 0) (v := ?va0) rfl (by kernel_rfl) (of_decide_eq_true (by kernel_rfl)) (by kernel_rfl) (by kernel_rfl) (fun _ _ _ h => h) (Or.inl ⟨by rfl, ?hya0⟩) hS ?resta0
          case hya0 => (intro w' hw'; (try dsimp only at hw'); go_simp; try (with_reducible rfl))
          refine AnyTo.takeA (i := 1) (v := ?va1) rfl (by kernel_rfl) (of_decide_eq_true (by kernel_rfl)) (by kernel_rfl) (by kernel_rfl) (fun _ _ _ h => h) (Or.inl ⟨by rfl, ?hya1⟩) hS ?resta1
          case hya1 => (intro w' hw'; (try dsimp only at hw'); go_simp; try (with_reducible rfl))
          refine AnyTo.takeA (i := 2) (v := ?va2) rfl (by kernel_rfl) (of_decide_eq_true (by kernel_rfl)) (by kernel_rfl) (by kernel_rfl) (fun _ _ _ h => h) (Or.inl ⟨by rfl, ?hya2⟩) hS ?resta2
          case hya2 => (intro w' hw'; (try dsimp only at hw'); go_simp; try (with_reducible rfl))
          refine AnyTo.takeA (i := 3) (v := ?va3) rfl (by kernel_rfl) (of_decide_eq_true (by kernel_rfl)) (by kernel_rfl) (by kernel_rfl) (fun _ _ _ h => h) (Or.inl ⟨by rfl, ?hya3⟩) hS ?resta3
          case hya3 => (intro w' hw'; (try dsimp only at hw'); go_simp; try (with_reducible rfl))
          refine AnyTo.takeA (i := 4) (v := ?va4) rfl (by kernel_rfl) (of_decide_eq_true (by kernel_rfl)) (by kernel_rfl) (by kernel_rfl) (fun _ _ _ h => h) (Or.inl ⟨by rfl, ?hya4⟩) hS ?resta4
          case hya4 => (intro w' hw'; (try dsimp only at hw'); go_simp; try (with_reducible rfl))
          refine AnyTo.takeA (i := 5) (v := ?va5) rfl (by kernel_rfl) (of_decide_eq_true (by kernel_rfl)) (by kernel_rfl) (by kernel_rfl) (fun _ _ _ h => h) (Or.inl ⟨by rfl, ?hya5⟩) hS ?resta5
          case hya5 => (intro w' hw'; (try dsimp only at hw'); go_simp; try (with_reducible rfl))
          refine AnyTo.takeA (i := 6) (v := ?va6) rfl (by kernel_rfl) (of_decide_eq_true (by kernel_rfl)) (by kernel_rfl) (by kernel_rfl) (fun _ _ _ h => h) (Or.inl ⟨by rfl, ?hya6⟩) hS ?resta6
          case hya6 => (intro w' hw'; (try dsimp only at hw'); go_simp; try (with_reducible rfl))
          refine AnyTo.takeA (i := 7) (v := ?va7) rfl (by kernel_rfl) (of_decide_eq_true (by kernel_rfl)) (by kernel_rfl) (by kernel_rfl) (fun _ _ _ h => h) (Or.inl ⟨by rfl, ?hya7⟩) hS ?resta7
          case hya7 => (intro w' hw'; (try dsimp only at hw'); go_simp; try (with_reducible rfl))
          try simp only [Act.put, List.setIfInBounds_toArray, List.set_cons_zero, List.set_cons_succ]
          refine AnyTo.step (i := 8) (by kernel_rfl) rfl (fun K hK => ?_)
          go_simp
          go_at_call 16
          refine HK.out.mono ?_
          rintro e w3 ⟨v3, rfl, n3, h3, c3, k3⟩
          have r3 := k3.trans HROW.out
          have HK4 := Lib.hid (pair_send h3 (tickPks s.o) v3 n3 (by simp only; omega))
          have HC3 := Lib.hid c3
          clear h3 c3 k3 n3
          go_wp2_with fail
          refine hK.out _ _ (fun _ => ⟨cell_at r3 rfl, cell_at r3 rfl⟩) ?_
          clear hK K
          try simp only [Act.put, List.setIfInBounds_toArray, List.set_cons_zero, List.set_cons_succ]
          refine AnyTo.step (i := 9) (by kernel_rfl) rfl (fun K hK => ?_)
          go_simp
          go_at_call 23
          refine HK4.out.mono ?_
          rintro e w4 ⟨rfl, h4, c4, k4⟩
          have r4 := k4.trans r3
          have HP4 := Lib.hid h4
          have HC4 := Lib.hid c4
          clear h4 c4 k4
          go_wp2_with fail
          refine hK.out _ _ (fun _ => ⟨cell_at r4 rfl, cell_at r4 rfl⟩) ?_
          clear hK K
          try simp only [Act.put, List.setIfInBounds_toArray, List.set_cons_zero, List.set_cons_succ]
          refine AnyTo.done (by kernel_rfl) ?_
          obtain ⟨s1, hs1⟩ : ∃ s1, s1 = s.tick := ⟨_, rfl⟩
          have HP5 : Hid (PairAt w4 (fun k => w.heap.size ≤ k) P go gi gw s1) := by
            rw [hs1]
            exact (show PairAt w4 _ P go gi gw s.tick from HP4.out).mono fun k _ hk => by
              rcases hk with ⟨⟨a, _⟩ | a, _⟩ | a
              · exact a
              · exact Nat.le_trans hzq a
              · exact Nat.le_trans (Nat.le_trans hzq HC3.out.size) a
          have HB5 : Hid (Below w.heap.size w w4) := (HR.out.2.drew.trans (HC3.out.below (w := wq.drew) hzq (fun i hi a => by omega))).trans (HC4.out.below (Nat.le_trans hzq HC3.out.size) (fun i hi a => by
            rcases a with ⟨a, _⟩ | a
            · omega
            · exact absurd a (by show ¬ wq.heap.size ≤ i; omega)))
          have HI1 : Hid (Inv 241 s1) := by rw [hs1]; exact HI.out.tick
          have HS1 := Lib.hid hs1
          clear hs1 HP4 HC3 HC4 HK4 HK hS r3 r4 HROW HR htl
          obtain ⟨L, hL⟩ : ∃ L, s1.l.length = L := ⟨_, rfl⟩
          have HLL := Lib.hid hL
          have hlen := pair_wlen HP5.out
          rw [hL] at hlen
          have HLN := Lib.hid hlen
          have hL64 : L ≤ 64 := by rw [← hL]; exact HI1.out.wire
          obtain ⟨a1, c1, a2, c2, hrow⟩ := HP5.out.row
          have p2 : w4.cell? ⟨P, 2, none⟩ = some (.pointer (some ⟨gw, 0, none⟩)) := cell_at hrow rfl
          clear hL hlen hrow
          go_wp2_with fail
          refine HLN.out.mono ?_
          rintro e w5 ⟨rfl, rfl⟩
          clear HLN p2
          go_wp2_with fail
          go_loopw [9] (fun kk wr => ∃ (j i : Nat) (sp : PSt), j ≤ L ∧ kk = .int .i64 j ∧ i ≤ L - j ∧ L ≤ j + i ∧ Hid (Steps i s1 sp) ∧ Hid (PairAt wr (fun k => w.heap.size ≤ k) P go gi gw sp ∧ Below w.heap.size w wr)) (fun kk _ => (intOf kk).toNat)
          case atStart => exact ⟨L, 0, s1, by omega, rfl, by omega, by omega, rfl, HP5.out, HB5.out⟩
          case round =>
            obtain ⟨j, i, sp, hj, rfl, hi1, hi2, HST, HR⟩ := hrel
            clear HP5 HB5
            have HIP := Lib.hid (HST.out.inv HI1.out)
            obtain ⟨wi, hwi⟩ : ∃ wi : World, wi = wr := ⟨_, rfl⟩
            rw [← hwi] at HR ⊢
            clear hwi
            by_cases hj0 : 0 < j
            · have hlen := (HST.out.went HI1.out).len
              rw [HLL.out] at hlen
              obtain ⟨Lp, hLp⟩ : ∃ Lp, sp.l.length = Lp := ⟨_, rfl⟩
              have hLp64 : Lp ≤ 64 := by rw [← hLp]; exact HIP.out.wire
              rw [hLp] at hlen
              have hLp0 : 0 < Lp := by omega
              have HLP := Lib.hid hLp
              have hzi := HR.out.2.size
              clear hlen hLp
              by_cases htn : 0 < tn
              · obtain rfl := HTO.out htn
                obtain ⟨x, hx⟩ : ∃ x : Nat, r + j = x := ⟨_, rfl⟩
                obtain ⟨y, hy⟩ : ∃ y : Nat, x % tn = y := ⟨_, rfl⟩
                have hyt : y < tn := by rw [← hy]; exact Nat.mod_lt _ htn
                obtain ⟨t, htt⟩ : ∃ t, ts[y]? = some t := ⟨_, List.getElem?_eq_getElem (by rw [HTL.out]; exact hyt)⟩
                obtain ⟨q, hq⟩ : ∃ q : Nat, t % 64 = (q : Int) := ⟨(t % 64).toNat, by omega⟩
                obtain ⟨z, hzz⟩ : ∃ z : Nat, q % Lp = z := ⟨_, rfl⟩
                have hzL : z < Lp := by rw [← hzz]; exact Nat.mod_lt _ hLp0
                have e1 : IntKind.i64.wrap ((r : Int) + (j : Int)) = (x : Int) := by rw [IntWalk.i64_in _ (by omega)]; omega
                have e2 : (x : Int).tmod (tn : Int) = (y : Int) := by rw [← hy]; rfl
                have e3 : bits .and .i64 t 63 = (q : Int) := by rw [and63, hq]
                have e4 : (q : Int).tmod (Lp : Int) = (z : Int) := by rw [← hzz]; rfl
                have g1 : wi.cell? ⟨tb, toff + y, none⟩ = some (.int .i64 t) := (HR.out.2.cell (by exact HTB.out htn)).trans (HTC.out y t htt)
                obtain ⟨a1, c1, a2, c2, hrow⟩ := HR.out.1.row
                have p2 : wi.cell? ⟨P, 2, none⟩ = some (.pointer (some ⟨gw, 0, none⟩)) := cell_at hrow rfl
                have HWL : Hid (∀ n, Calls Try.prog 26 #[.pointer (some ⟨gw, 0, none⟩)] (wi.drewN n) fun e w' => e = .returned (.int .i64 (Lp : Nat)) ∧ wi.drewN n = w') := fun n => by
                  have := pair_wlen (HR.out.1.below (bl_drewN (Below.refl _ _) n) (Nat.le_refl _))
                  rw [HLP.out] at this; exact this
                have g2 : (y : Int) < tn := by omega
                clear hx hy htt hq hzz hrow
                go_wp2_with fail
                go_quiet ((go_at_call 26; exact quietL (HWL.out _)))
                clear e1 e2 e3 e4 g1 g2 p2 HWL
                have HCM := Lib.hid (comes_any (wi.drewN nq) _ P go gi gw 241 sp ((z : Nat) : Int) (HR.out.1.below (bl_drewN (Below.refl wi.heap.size wi) nq) (Nat.le_refl _)) HIP.out (by omega))
                have HST2 : Hid (Steps (i + 1) s1 (sp.comes ((z : Nat) : Int))) := ⟨sp, z, HST.out, by rw [HLP.out]; omega, rfl⟩
                have HB6 : Hid (Below w.heap.size w (wi.drewN nq)) := bl_drewN HR.out.2 nq
                have hz6 := HB6.out.size
                go_wp2_with fail
                refine HCM.out.mono ?_
                rintro e w7 ⟨rfl, h7, c7⟩
                have HR7 : Hid (PairAt w7 (fun k => w.heap.size ≤ k) P go gi gw (sp.comes ((z : Nat) : Int)) ∧ Below w.heap.size w w7) := ⟨h7.mono fun k _ hk => by
                  rcases hk with ⟨a, _⟩ | a
                  · exact a
                  · exact Nat.le_trans hz6 a, HB6.out.trans (c7.below hz6 (fun i hi a => by omega))⟩
                clear h7 c7 HCM HB6
                go_wp2_with fail
                go_roundw
                case rel => exact ⟨j - 1, i + 1, _, by omega, by go_num, by omega, by omega, HST2.out, HR7.out⟩
                case measure => simp [intOf]; omega
              · have d0 : decide ((0 : Int) < (tn : Int)) = false := by simp; omega
                have d1 : decide (0 < tn) = false := by simp; omega
                have HCM := Lib.hid (comes_any wi _ P go gi gw 241 sp ((0 : Nat) : Int) HR.out.1 HIP.out (by omega))
                have HST2 : Hid (Steps (i + 1) s1 (sp.comes ((0 : Nat) : Int))) := ⟨sp, 0, HST.out, by rw [HLP.out]; omega, rfl⟩
                have HB6 : Hid (Below w.heap.size w wi) := HR.out.2
                have hz6 := HB6.out.size
                go_wp2_with fail
                refine HCM.out.mono ?_
                rintro e w7 ⟨rfl, h7, c7⟩
                have HR7 : Hid (PairAt w7 (fun k => w.heap.size ≤ k) P go gi gw (sp.comes ((0 : Nat) : Int)) ∧ Below w.heap.size w w7) := ⟨h7.mono fun k _ hk => by
                  rcases hk with ⟨a, _⟩ | a
                  · exact a
                  · exact Nat.le_trans hz6 a, HB6.out.trans (c7.below hz6 (fun i hi a => by omega))⟩
                clear h7 c7 HCM HB6
                go_wp2_with fail
                go_roundw
                case rel => exact ⟨j - 1, i + 1, _, by omega, by go_num, by omega, by omega, HST2.out, HR7.out⟩
                case measure => simp [intOf]; omega
            · obtain rfl : j = 0 := by omega
              have HSTL : Hid (Steps s1.l.length s1 sp) := by
                have e : i = s1.l.length := by rw [HLL.out]; omega
                rw [← e]; exact HST.out
              go_wp2_with fail
              go_loopg [83] sp.i.loads.length (fun k _ wr => ∃ m, Hid ((popN m sp).i.loads.length = k) ∧ Hid (PairAt wr (fun k => w.heap.size ≤ k) P go gi gw (popN m sp) ∧ Below w.heap.size w wr))
              case atStart => exact ⟨0, rfl, HR.out⟩
              case round =>
                obtain ⟨m, HM, HR⟩ := hrel
                obtain ⟨wp, hwp⟩ : ∃ wp : World, wp = wr := ⟨_, rfl⟩
                rw [← hwp] at HR ⊢
                clear hwp
                have hipm : Inv 241 (popN m sp) := popN_inv HIP.out
                obtain ⟨a1, c1, a2, c2, hrow⟩ := HR.out.1.row
                have p1 : wp.cell? ⟨P, 1, none⟩ = some (.pointer (some ⟨gi, 0, none⟩)) := cell_at hrow rfl
                have hlen := pair_inlen HR.out.1
                rw [HM.out] at hlen
                have HLN := Lib.hid hlen
                have HIM := Lib.hid hipm
                have hzp := HR.out.2.size
                clear hipm hrow hlen
                by_cases hk : 0 < gk
                · have HPP := Lib.hid (pop_any wp _ P go gi gw 241 _ HR.out.1 HIM.out (by omega))
                  have hne : (popN m sp).i.loads ≠ [] := fun e => by have := HM.out; rw [e] at this; simp at this; omega
                  have HM2 : Hid ((popN (m + 1) sp).i.loads.length = gk - 1) := by
                    show (popN m sp).pop.i.loads.length = gk - 1
                    rw [← HM.out]
                    unfold PSt.pop
                    cases hl : (popN m sp).i.loads with
                    | nil => exact absurd hl hne
                    | cons x r => simp
                  clear hne
                  go_wp2_with fail
                  refine HLN.out.mono ?_
                  rintro e w8 ⟨rfl, rfl⟩
                  go_wp2_with fail
                  refine HPP.out.mono ?_
                  rintro e w9 ⟨rfl, h9, c9⟩
                  have HR9 : Hid (PairAt w9 (fun k => w.heap.size ≤ k) P go gi gw (popN (m + 1) sp) ∧ Below w.heap.size w w9) := ⟨(show PairAt w9 _ P go gi gw (popN (m + 1) sp) from h9).mono fun k _ hk => by
                    rcases hk with ⟨a, _⟩ | a
                    · exact a
                    · exact Nat.le_trans hzp a, HR.out.2.trans (c9.below hzp (fun i hi a => by omega))⟩
                  clear h9 c9 HPP HLN p1
                  go_wp2_with fail
                  go_roundg (gk - 1)
                  case measure => omega
                  case rel => exact ⟨m + 1, HM2, HR9⟩
                · obtain rfl : gk = 0 := by omega
                  have HRD2 : Hid (Rounds (r + 1) s0 (popN m sp)) := ⟨s, HRD.out, sp, m, by rw [← HS1.out]; exact HSTL.out, rfl, List.eq_nil_of_length_eq_zero HM.out⟩
                  go_wp2_with fail
                  refine HLN.out.mono ?_
                  rintro e w8 ⟨rfl, rfl⟩
                  go_wp2_with fail
                  go_roundw
                  case rel => exact ⟨r + 1, _, by omega, by go_num, HRD2.out, HR.out⟩
                  case measure => simp [intOf]; omega
        · obtain rfl : r = 40 := by omega
          obtain ⟨hw0, hgs⟩ := all_come HI0.out HRD.out
          have hwl : s.o.waits.length = 0 := by rw [hw0]; rfl
          obtain ⟨a1, c1, a2, c2, hrow⟩ := HR.out.1.row
          rw [hgs] at hrow
          have p0 := rcell (i := 0) (.pointer (some ⟨go, 0, none⟩)) hrow rfl
          have p3 := rcell (i := 3) (.slice a1 s.sent.length c1) hrow rfl
          have p4 := rcell (i := 4) (.slice a2 s.sent.length c2) hrow rfl
          have HWT : Hid (∀ d os, Calls Try.prog 17 #[.pointer (some ⟨go, 0, none⟩)] (Go.Sort.grow (redrawn wq d) os) fun e w'' => e = .returned (.int .i64 ((0 : Nat) : Int)) ∧ ∃ p : Regrown, w'' = Go.Sort.grow (redrawn wq p.d) p.os) := fun d os => by
            have h := pair_waits (HR.out.1.below (below_regrown wq d os) (Nat.le_refl _))
            rw [hwl] at h
            exact Calls.regrown_of (h.mono fun e w' ⟨a, b⟩ => ⟨a, by subst b; exact Below.refl _ _⟩)
          have HFN : Hid (∀ d os, Calls Try.prog 38 #[.pointer (some ⟨P, 0, none⟩)] (Go.Sort.grow (redrawn wq d) os) fun e w'' => e = .returned (.bool true) ∧ ∃ p : Regrown, w'' = Go.Sort.grow (redrawn wq p.d) p.os) := fun d os =>
            Calls.regrown_of (fine_any _ _ P go gi gw 240 s (HR.out.1.below (below_regrown wq d os) (Nat.le_refl _)) HI.out (by omega))
          clear hrow hw0 hgs hwl
          go_wp2_with fail
          refine wp_region_quiet_below (by kernel_rfl) (by kernel_rfl) ?_
          repeat (go_big_quiet_step (first | exact HWT.out _ _ | exact HFN.out _ _))
          refine wpQuiet_nil ?_
          intro _ hw'
          obtain ⟨⟨dq, osq⟩, rfl⟩ := hw'
          have HBE : Hid (Below w.heap.size w (Go.Sort.grow (redrawn wq dq) osq)) := HR.out.2.trans ((below_regrown wq dq osq).mono HR.out.2.size)
          clear p0 p3 p4
          go_wp2_with fail
          go_ret
          exact ⟨rfl, HBE.out⟩

set_option maxRecDepth 100000 in
theorem linkAll_lawful : Lawful 10 Try.f10 := by
  intro H enc W base args ds p hval hA hlt hsz
  rw [Try.params10] at hA hval hsz
  obtain ⟨v0, v1, d0, d1, p0, p1, rfl, rfl, rfl, h0, h1⟩ := trodAll_two hA
  obtain ⟨os, b, off, ao, n, cap, rfl, _, hn, hl, hok, hao, hb, hc⟩ := sliceArg lopCells LOpOk 10 (by omega) under_lops cells_lop rdLOp (hval 0 61 v0 rfl rfl) h0 (weights_in (j := 0) hsz rfl rfl) hlt (fun x hx => by simp [hx])
  obtain ⟨ts, tb, toff, to, tn, tcap, rfl, _, htn, htl, _, hto, htb, htc⟩ := sliceArg (fun x : Int => [.int .i64 x]) inI64 1 (by omega) under_ints17 cells_int (fun fuel cs y a1 _ _ => rdInts17 fuel cs y a1) (hval 1 50 v1 rfl rfl) h1 (weights_in (j := 1) hsz rfl rfl) hlt (fun x hx => by simp [hx])
  by_cases hlet : Big17 os
  · exact linkAll_big ao b off n cap os to tb toff tn tcap ts W hn hl hao hb hok hc hlet
  · by_cases ht : 200 < tn
    · exact linkAll_many ao b off n cap os to tb toff tn tcap ts W hn hl hao hb hok hc hlet ht htn
    · exact linkAll_law ao b off n cap os to tb toff tn tcap ts W hn hl hao hb hok hc hlet (by omega) hto htb htl (fun i x hx => by have := htc i x hx 0 _ rfl; rwa [Nat.mul_one, Nat.add_zero] at this)

theorem linkAll_holds : Rows.LinkAllSaid :=
  OpenClaim.holds_of_wide 10 Try.f10 rfl rfl rfl rfl rfl rfl rfl ⟨rfl, rfl, rfl, rfl, rfl⟩ rfl rfl rfl rfl rfl (by kernel_rfl) Try.func10 (by kernel_rfl)
    (of_decide_eq_true (by kernel_rfl)) (by unfold Func.isWrapper; rw [if_neg (of_decide_eq_false (by kernel_rfl))]; exact ⟨rfl, rfl⟩)
    (fun os started H enc _ => law_lift (s := Rows.linkAllSpec) Try.func10 (by kernel_rfl) rfl rfl rfl (by rw [Try.params10]; intro t ht; simp at ht; rcases ht with rfl | rfl <;> exact ⟨by kernel_rfl, of_decide_eq_true (by kernel_rfl)⟩)
      (by rw [Try.params10]; intro H ds hds; match ds, hds with | [d1, d2], _ => exact ⟨rfl, rfl, rfl⟩) linkAll_lawful os started H enc
      (ChangeSpec.witness6 (enc := enc) (C := Try.checked) false ⟨#[], #[.slice none 0 0, .slice none 0 0], []⟩ 8 (by kernel_rfl) (by kernel_rfl) (by kernel_rfl) (by kernel_rfl)))
end Go.Proofs.Ytecpgkcoehnpbaa
