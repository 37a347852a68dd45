/- Layer 17: the laws' own op, kind by kind. -/
import Derived.Test.YtecpgkcoehnpbaaLinkPop
namespace Go.Proofs.Ytecpgkcoehnpbaa
open Go.RowKit

/-- an op, as the laws have it -/
structure LOp where
  k : Int
  a : Int
  b : Int
  x : ByteArray
  p : Pk
def lopCells (o : LOp) : List Value := [.int .i64 o.k, .int .i64 o.a, .int .i64 o.b, .string o.x, .int .i64 o.p.ch, .int .i64 o.p.back, .int .i64 o.p.inc, .int .i64 o.p.seq, .int .i64 o.p.ack, .string o.p.load]
def PSt.put (s : PSt) (x : ByteArray) : PSt := if x.toList = [] then s else if s.o.waits.length = 6 then s else s.send x
def PSt.lose (s : PSt) (a : Int) : PSt := if a < 0 ∨ (s.l.length : Int) ≤ a then s else ⟨s.o, s.i, s.l.eraseIdx a.toNat, s.sent, s.got⟩
def PSt.twice (s : PSt) (a : Int) : PSt := if a < 0 then s else match s.l[a.toNat]? with | none => s | some x => ⟨s.o, s.i, cutPks (s.l ++ [x]), s.sent, s.got⟩
def PSt.turn (s : PSt) (a b : Int) : PSt := if a < 0 then s else match s.l[a.toNat]? with | none => s | some x => ⟨s.o, s.i, insPk (s.l.eraseIdx a.toNat) (turnTo b (s.l.length - 1)) x, s.sent, s.got⟩
def PSt.op (s : PSt) (o : LOp) : PSt :=
  if o.k = 0 then s.put o.x else if o.k = 1 then s.tick else if o.k = 2 then s.comes o.a else if o.k = 3 then s.lose o.a else if o.k = 4 then s.twice o.a else if o.k = 5 then s.turn o.a o.b else if o.k = 6 then s.pop else s

theorem Inv.put {N : Nat} {s : PSt} (h : Inv N s) (x : ByteArray) : Inv (N + 1) (s.put x) := by
  unfold PSt.put
  split
  · exact h.mono (by omega)
  · split
    · exact h.mono (by omega)
    · rename_i h1 h2
      exact h.send x h1 (by have := h.w6; omega)
theorem Inv.loseI {N : Nat} {s : PSt} (h : Inv N s) (a : Int) : Inv N (s.lose a) := by
  unfold PSt.lose
  split
  · exact h
  · exact h.lose _
theorem Inv.twiceI {N : Nat} {s : PSt} (h : Inv N s) (a : Int) : Inv N (s.twice a) := by
  unfold PSt.twice
  split
  · exact h
  · split
    · exact h
    · rename_i hx; exact h.twice hx
theorem Inv.turnI {N : Nat} {s : PSt} (h : Inv N s) (a b : Int) : Inv N (s.turn a b) := by
  unfold PSt.turn
  split
  · exact h
  · split
    · exact h
    · rename_i hx; exact h.turn hx _ (turnTo_le _ _)
theorem Inv.op {N : Nat} {s : PSt} (h : Inv N s) (o : LOp) : Inv (N + 1) (s.op o) := by
  unfold PSt.op
  split
  · exact h.put _
  · split
    · exact h.tick
    · refine Inv.mono (N := N) ?_ (by omega)
      split
      · exact h.comes _
      · split
        · exact h.loseI _
        · split
          · exact h.twiceI _
          · split
            · exact h.turnI _ _
            · split
              · exact h.pop
              · exact h

/-- what an op leaves -/
def OpPost (w : World) (F : Nat → Prop) (P go gi gw : Nat) (s : PSt) (e : Ending) (w' : World) : Prop :=
  e = .returned (.bool true) ∧ PairAt w' (fun k => (F k ∧ k < w.heap.size) ∨ w.heap.size ≤ k) P go gi gw s ∧ Chg w w' F
theorem OpPost.mk2 {w wb w' : World} {F : Nat → Prop} {P go gi gw : Nat} {s : PSt} (hz : w.heap.size ≤ wb.heap.size) (hcb : Chg w wb F) (h : PairAt w' (fun k => ((F k ∧ k < w.heap.size) ∧ k < wb.heap.size) ∨ wb.heap.size ≤ k) P go gi gw s) (hc : Chg wb w' (fun k => F k ∧ k < w.heap.size)) :
    OpPost w F P go gi gw s (.returned (.bool true)) w' :=
  ⟨rfl, h.mono fun k _ hk => by
    rcases hk with ⟨a, _⟩ | hk
    · exact .inl a
    · exact .inr (Nat.le_trans hz hk), hcb.trans hc fun _ _ a => a.1⟩
theorem OpPost.mk0 {w wb w' : World} {F : Nat → Prop} {P go gi gw : Nat} {s : PSt} (hcb : Chg w wb F) (h : PairAt wb (fun k => F k ∧ k < w.heap.size) P go gi gw s) (hb : Below wb.heap.size wb w') : OpPost w F P go gi gw s (.returned (.bool true)) w' :=
  ⟨rfl, (h.below hb (Nat.le_refl _)).mono fun k _ hk => .inl hk, hcb.trans (Chg.of_below hb (fun _ => False) (fun i a b => absurd a (by omega))) fun _ _ a => a.elim⟩
/-- two steps -/
theorem OpPost.mk3 {w wb w1 w' : World} {F : Nat → Prop} {P go gi gw : Nat} {s : PSt} (hz : w.heap.size ≤ wb.heap.size) (hcb : Chg w wb F) (c1 : Chg wb w1 (fun k => F k ∧ k < w.heap.size)) {G : Nat → Prop} (hG : ∀ k, G k → (F k ∧ k < w.heap.size) ∨ wb.heap.size ≤ k)
    (h : PairAt w' (fun k => (G k ∧ k < w1.heap.size) ∨ w1.heap.size ≤ k) P go gi gw s) (hc : Chg w1 w' G) : OpPost w F P go gi gw s (.returned (.bool true)) w' :=
  ⟨rfl, h.mono fun k _ hk => by
    have z1 := c1.size
    rcases hk with ⟨a, _⟩ | hk
    · rcases hG k a with a | a
      · exact .inl a
      · exact .inr (Nat.le_trans hz a)
    · exact .inr (Nat.le_trans (Nat.le_trans hz z1) hk), (hcb.trans c1 fun _ _ a => a.1).trans hc fun k hk a => by
      rcases hG k a with a | a
      · exact a.1
      · exact absurd a (by omega)⟩

set_option maxRecDepth 100000 in
set_option maxHeartbeats 1600000 in
theorem op_1 (w : World) (F : Nat → Prop) (P go gi gw N : Nat) (s : PSt) (c n a b : Int) (x : ByteArray) (p : Pk) (h : PairAt w F P go gi gw s) (hi : Inv N s) (hN : N ≤ 1000) :
    Calls Try.prog 37 #[.pointer (some ⟨P, 0, none⟩), .agg #[.int .i64 1, .int .i64 a, .int .i64 b, .string x, .int .i64 p.ch, .int .i64 p.back, .int .i64 p.inc, .int .i64 p.seq, .int .i64 p.ack, .string p.load], .int .i64 c, .int .i64 n] w (OpPost w F P go gi gw s.tick) := by
  have h64 := hi.wire
  obtain ⟨wb, hwb⟩ : ∃ wb, w.alloc (.cells #[.int .i64 1, .int .i64 a, .int .i64 b, .string x, .int .i64 p.ch, .int .i64 p.back, .int .i64 p.inc, .int .i64 p.seq, .int .i64 p.ack, .string p.load] 66) = wb := ⟨_, rfl⟩
  have hbx : wb.heap[w.heap.size]? = some (.cells #[.int .i64 1, .int .i64 a, .int .i64 b, .string x, .int .i64 p.ch, .int .i64 p.back, .int .i64 p.inc, .int .i64 p.seq, .int .i64 p.ack, .string p.load] 66) := by rw [← hwb]; exact heap_alloc_new w _
  have hpb : PairAt wb (fun k => F k ∧ k < w.heap.size) P go gi gw s := by rw [← hwb]; exact h.tight.below ((Below.refl w.heap.size w).alloc (Nat.le_refl _) _) (Nat.le_refl _)
  have hcb : Chg w wb F := by rw [← hwb]; exact (Chg.refl w F).alloc _
  have hzb : w.heap.size ≤ wb.heap.size := hcb.size
  have hXb : w.heap.size < wb.heap.size := heap_lt hbx
  obtain ⟨a1, c1, a2, c2, hrow⟩ := hpb.row
  have hPlt := heap_lt hrow
  have mixed : Try.prog.follows .mixedOrders = true := by kernel_rfl
  have q0 : wb.cell? ⟨w.heap.size, 0, none⟩ = some (.int .i64 1) := cell_at hbx rfl
  have p0 : wb.cell? ⟨P, 0, none⟩ = some (.pointer (some ⟨go, 0, none⟩)) := cell_at hrow rfl
  have p2 : wb.cell? ⟨P, 2, none⟩ = some (.pointer (some ⟨gw, 0, none⟩)) := cell_at hrow rfl
  have htick := pair_tick (w := wb.drew) (hpb.below (Below.refl wb.heap.size wb).drew (Nat.le_refl _)) hi (by omega)
  have htl : (tickPks s.o).length ≤ 6 := by
    unfold tickPks; split
    · rw [outPks_length]; exact hi.w6
    · simp
  have HK := Lib.hid htick
  clear htick
  have hS : (fun w' => w'.cell? ⟨P, 2, none⟩ = some (.pointer (some ⟨gw, 0, none⟩)) ∧ w'.cell? ⟨P, 0, none⟩ = some (.pointer (some ⟨go, 0, none⟩)) : World → Prop) wb.drew := ⟨p2, p0⟩
  have HBX := Lib.hid hbx
  have HPB := Lib.hid hpb
  have HCB := Lib.hid hcb
  have HROW := Lib.hid hrow
  clear h hi hbx hpb hcb hrow
  go_enter Try.func37, Try.ntmps37
  go_wp2_with fail
  try rw [hwb]
  clear hwb
  refine AnyTo.region (m := 99) (S := fun w' => w'.cell? ⟨P, 2, none⟩ = some (.pointer (some ⟨gw, 0, none⟩)) ∧ w'.cell? ⟨P, 0, none⟩ = some (.pointer (some ⟨go, 0, none⟩))) mixed ?_
  refine AnyTo.takeA (i := 0) (v := ?va0) rfl (by kernel_rfl) (of_decide_eq_true (by kernel_rfl)) (by kernel_rfl) (by kernel_rfl) (fun _ _ _ h => h) (Or.inl ⟨by rfl, ?hya0⟩) hS ?resta0
  case hya0 => (intro w' hw'; (try dsimp only at hw'); go_simp; try (with_reducible rfl))
  refine AnyTo.takeA (i := 1) (v := ?va1) rfl (by kernel_rfl) (of_decide_eq_true (by kernel_rfl)) (by kernel_rfl) (by kernel_rfl) (fun _ _ _ h => h) (Or.inl ⟨by rfl, ?hya1⟩) hS ?resta1
  case hya1 => (intro w' hw'; (try dsimp only at hw'); go_simp; try (with_reducible rfl))
  refine AnyTo.takeA (i := 2) (v := ?va2) rfl (by kernel_rfl) (of_decide_eq_true (by kernel_rfl)) (by kernel_rfl) (by kernel_rfl) (fun _ _ _ h => h) (Or.inl ⟨by rfl, ?hya2⟩) hS ?resta2
  case hya2 => (intro w' hw'; (try dsimp only at hw'); go_simp; try (with_reducible rfl))
  refine AnyTo.takeA (i := 3) (v := ?va3) rfl (by kernel_rfl) (of_decide_eq_true (by kernel_rfl)) (by kernel_rfl) (by kernel_rfl) (fun _ _ _ h => h) (Or.inl ⟨by rfl, ?hya3⟩) hS ?resta3
  case hya3 => (intro w' hw'; (try dsimp only at hw'); go_simp; try (with_reducible rfl))
  refine AnyTo.takeA (i := 4) (v := ?va4) rfl (by kernel_rfl) (of_decide_eq_true (by kernel_rfl)) (by kernel_rfl) (by kernel_rfl) (fun _ _ _ h => h) (Or.inl ⟨by rfl, ?hya4⟩) hS ?resta4
  case hya4 => (intro w' hw'; (try dsimp only at hw'); go_simp; try (with_reducible rfl))
  refine AnyTo.takeA (i := 5) (v := ?va5) rfl (by kernel_rfl) (of_decide_eq_true (by kernel_rfl)) (by kernel_rfl) (by kernel_rfl) (fun _ _ _ h => h) (Or.inl ⟨by rfl, ?hya5⟩) hS ?resta5
  case hya5 => (intro w' hw'; (try dsimp only at hw'); go_simp; try (with_reducible rfl))
  refine AnyTo.takeA (i := 6) (v := ?va6) rfl (by kernel_rfl) (of_decide_eq_true (by kernel_rfl)) (by kernel_rfl) (by kernel_rfl) (fun _ _ _ h => h) (Or.inl ⟨by rfl, ?hya6⟩) hS ?resta6
  case hya6 => (intro w' hw'; (try dsimp only at hw'); go_simp; try (with_reducible rfl))
  refine AnyTo.takeA (i := 7) (v := ?va7) rfl (by kernel_rfl) (of_decide_eq_true (by kernel_rfl)) (by kernel_rfl) (by kernel_rfl) (fun _ _ _ h => h) (Or.inl ⟨by rfl, ?hya7⟩) hS ?resta7
  case hya7 => (intro w' hw'; (try dsimp only at hw'); go_simp; try (with_reducible rfl))
  try simp only [Act.put, List.setIfInBounds_toArray, List.set_cons_zero, List.set_cons_succ]
  refine AnyTo.step (i := 8) (by kernel_rfl) rfl (fun K hK => ?_)
  go_simp
  go_at_call 16
  refine HK.out.mono ?_
  rintro e w3 ⟨v3, rfl, n3, h3, c3, k3⟩
  have r3 := k3.trans HROW.out
  have HK4 := Lib.hid (pair_send h3 (tickPks s.o) v3 n3 (by simp only; omega))
  have HC3 := Lib.hid c3
  clear h3 c3 k3 n3
  go_wp2_with fail
  refine hK.out _ _ (fun _ => ⟨cell_at r3 rfl, cell_at r3 rfl⟩) ?_
  clear hK K
  try simp only [Act.put, List.setIfInBounds_toArray, List.set_cons_zero, List.set_cons_succ]
  refine AnyTo.step (i := 9) (by kernel_rfl) rfl (fun K hK => ?_)
  go_simp
  go_at_call 23
  refine HK4.out.mono ?_
  rintro e w4 ⟨rfl, h4, c4, k4⟩
  have r4 := k4.trans r3
  have HP4 := Lib.hid h4
  have HC4 := Lib.hid c4
  clear h4 c4 k4
  go_wp2_with fail
  refine hK.out _ _ (fun _ => ⟨cell_at r4 rfl, cell_at r4 rfl⟩) ?_
  clear hK K
  try simp only [Act.put, List.setIfInBounds_toArray, List.set_cons_zero, List.set_cons_succ]
  refine AnyTo.done (by kernel_rfl) ?_
  go_wp2_with fail
  go_ret
  exact OpPost.mk3 hzb HCB.out (Chg.mono (a := wb) ⟨HC3.out.os, HC3.out.tape, HC3.out.output, HC3.out.size, HC3.out.block⟩ fun _ _ a => a) (fun k hk => hk.imp (fun a => a.1) id) HP4.out HC4.out

set_option maxRecDepth 100000 in
set_option maxHeartbeats 1600000 in
theorem op_2 (w : World) (F : Nat → Prop) (P go gi gw N : Nat) (s : PSt) (c n a b : Int) (x : ByteArray) (p : Pk) (h : PairAt w F P go gi gw s) (hi : Inv N s) (hN : N ≤ 1000) :
    Calls Try.prog 37 #[.pointer (some ⟨P, 0, none⟩), .agg #[.int .i64 2, .int .i64 a, .int .i64 b, .string x, .int .i64 p.ch, .int .i64 p.back, .int .i64 p.inc, .int .i64 p.seq, .int .i64 p.ack, .string p.load], .int .i64 c, .int .i64 n] w (OpPost w F P go gi gw (s.comes a)) := by
  have h64 := hi.wire
  obtain ⟨wb, hwb⟩ : ∃ wb, w.alloc (.cells #[.int .i64 2, .int .i64 a, .int .i64 b, .string x, .int .i64 p.ch, .int .i64 p.back, .int .i64 p.inc, .int .i64 p.seq, .int .i64 p.ack, .string p.load] 66) = wb := ⟨_, rfl⟩
  have hbx : wb.heap[w.heap.size]? = some (.cells #[.int .i64 2, .int .i64 a, .int .i64 b, .string x, .int .i64 p.ch, .int .i64 p.back, .int .i64 p.inc, .int .i64 p.seq, .int .i64 p.ack, .string p.load] 66) := by rw [← hwb]; exact heap_alloc_new w _
  have hpb : PairAt wb (fun k => F k ∧ k < w.heap.size) P go gi gw s := by rw [← hwb]; exact h.tight.below ((Below.refl w.heap.size w).alloc (Nat.le_refl _) _) (Nat.le_refl _)
  have hcb : Chg w wb F := by rw [← hwb]; exact (Chg.refl w F).alloc _
  have hzb : w.heap.size ≤ wb.heap.size := hcb.size
  have hXb : w.heap.size < wb.heap.size := heap_lt hbx
  obtain ⟨a1, c1, a2, c2, hrow⟩ := hpb.row
  have hPlt := heap_lt hrow
  have mixed : Try.prog.follows .mixedOrders = true := by kernel_rfl
  have q0 : wb.cell? ⟨w.heap.size, 0, none⟩ = some (.int .i64 2) := cell_at hbx rfl
  have q1 : wb.cell? ⟨w.heap.size, 1, none⟩ = some (.int .i64 a) := cell_at hbx rfl
  have HK := Lib.hid (comes_any wb _ P go gi gw N s a hpb hi (by omega))
  have HBX := Lib.hid hbx
  have HPB := Lib.hid hpb
  have HCB := Lib.hid hcb
  have HROW := Lib.hid hrow
  clear h hi hbx hpb hcb hrow
  go_enter Try.func37, Try.ntmps37
  go_wp2_with fail
  try rw [hwb]
  clear hwb
  refine HK.out.mono ?_
  rintro e w3 ⟨rfl, h3, c3⟩
  have HP3 := Lib.hid h3
  have HC3 := Lib.hid c3
  clear h3 c3
  go_wp2_with fail
  go_ret
  exact OpPost.mk2 hzb HCB.out HP3.out HC3.out

set_option maxRecDepth 100000 in
set_option maxHeartbeats 1600000 in
theorem op_6 (w : World) (F : Nat → Prop) (P go gi gw N : Nat) (s : PSt) (c n a b : Int) (x : ByteArray) (p : Pk) (h : PairAt w F P go gi gw s) (hi : Inv N s) (hN : N ≤ 1000) :
    Calls Try.prog 37 #[.pointer (some ⟨P, 0, none⟩), .agg #[.int .i64 6, .int .i64 a, .int .i64 b, .string x, .int .i64 p.ch, .int .i64 p.back, .int .i64 p.inc, .int .i64 p.seq, .int .i64 p.ack, .string p.load], .int .i64 c, .int .i64 n] w (OpPost w F P go gi gw s.pop) := by
  have h64 := hi.wire
  obtain ⟨wb, hwb⟩ : ∃ wb, w.alloc (.cells #[.int .i64 6, .int .i64 a, .int .i64 b, .string x, .int .i64 p.ch, .int .i64 p.back, .int .i64 p.inc, .int .i64 p.seq, .int .i64 p.ack, .string p.load] 66) = wb := ⟨_, rfl⟩
  have hbx : wb.heap[w.heap.size]? = some (.cells #[.int .i64 6, .int .i64 a, .int .i64 b, .string x, .int .i64 p.ch, .int .i64 p.back, .int .i64 p.inc, .int .i64 p.seq, .int .i64 p.ack, .string p.load] 66) := by rw [← hwb]; exact heap_alloc_new w _
  have hpb : PairAt wb (fun k => F k ∧ k < w.heap.size) P go gi gw s := by rw [← hwb]; exact h.tight.below ((Below.refl w.heap.size w).alloc (Nat.le_refl _) _) (Nat.le_refl _)
  have hcb : Chg w wb F := by rw [← hwb]; exact (Chg.refl w F).alloc _
  have hzb : w.heap.size ≤ wb.heap.size := hcb.size
  have hXb : w.heap.size < wb.heap.size := heap_lt hbx
  obtain ⟨a1, c1, a2, c2, hrow⟩ := hpb.row
  have hPlt := heap_lt hrow
  have mixed : Try.prog.follows .mixedOrders = true := by kernel_rfl
  have q0 : wb.cell? ⟨w.heap.size, 0, none⟩ = some (.int .i64 6) := cell_at hbx rfl
  have HK := Lib.hid (pop_any wb _ P go gi gw N s hpb hi hN)
  have HBX := Lib.hid hbx
  have HPB := Lib.hid hpb
  have HCB := Lib.hid hcb
  have HROW := Lib.hid hrow
  clear h hi hbx hpb hcb hrow
  go_enter Try.func37, Try.ntmps37
  go_wp2_with fail
  try rw [hwb]
  clear hwb
  refine HK.out.mono ?_
  rintro e w3 ⟨rfl, h3, c3⟩
  have HP3 := Lib.hid h3
  have HC3 := Lib.hid c3
  clear h3 c3
  go_wp2_with fail
  go_ret
  exact OpPost.mk2 hzb HCB.out HP3.out HC3.out

set_option maxRecDepth 100000 in
set_option maxHeartbeats 1600000 in
theorem op_3_no (w : World) (F : Nat → Prop) (P go gi gw N : Nat) (s : PSt) (c n a b : Int) (x : ByteArray) (p : Pk) (h : PairAt w F P go gi gw s) (hi : Inv N s) (hN : N ≤ 1000) (ha : a < 0 ∨ (s.l.length : Int) ≤ a) :
    Calls Try.prog 37 #[.pointer (some ⟨P, 0, none⟩), .agg #[.int .i64 3, .int .i64 a, .int .i64 b, .string x, .int .i64 p.ch, .int .i64 p.back, .int .i64 p.inc, .int .i64 p.seq, .int .i64 p.ack, .string p.load], .int .i64 c, .int .i64 n] w (OpPost w F P go gi gw s) := by
  have h64 := hi.wire
  obtain ⟨wb, hwb⟩ : ∃ wb, w.alloc (.cells #[.int .i64 3, .int .i64 a, .int .i64 b, .string x, .int .i64 p.ch, .int .i64 p.back, .int .i64 p.inc, .int .i64 p.seq, .int .i64 p.ack, .string p.load] 66) = wb := ⟨_, rfl⟩
  have hbx : wb.heap[w.heap.size]? = some (.cells #[.int .i64 3, .int .i64 a, .int .i64 b, .string x, .int .i64 p.ch, .int .i64 p.back, .int .i64 p.inc, .int .i64 p.seq, .int .i64 p.ack, .string p.load] 66) := by rw [← hwb]; exact heap_alloc_new w _
  have hpb : PairAt wb (fun k => F k ∧ k < w.heap.size) P go gi gw s := by rw [← hwb]; exact h.tight.below ((Below.refl w.heap.size w).alloc (Nat.le_refl _) _) (Nat.le_refl _)
  have hcb : Chg w wb F := by rw [← hwb]; exact (Chg.refl w F).alloc _
  have hzb : w.heap.size ≤ wb.heap.size := hcb.size
  have hXb : w.heap.size < wb.heap.size := heap_lt hbx
  obtain ⟨a1, c1, a2, c2, hrow⟩ := hpb.row
  have hPlt := heap_lt hrow
  have mixed : Try.prog.follows .mixedOrders = true := by kernel_rfl
  have q0 : wb.cell? ⟨w.heap.size, 0, none⟩ = some (.int .i64 3) := cell_at hbx rfl
  have q1 : wb.cell? ⟨w.heap.size, 1, none⟩ = some (.int .i64 a) := cell_at hbx rfl
  have p2 : wb.cell? ⟨P, 2, none⟩ = some (.pointer (some ⟨gw, 0, none⟩)) := cell_at hrow rfl
  have hk := pair_lose_none (w := wb.drew) (hpb.below (Below.refl wb.heap.size wb).drew (Nat.le_refl _)) a ha
  have HK := Lib.hid hk
  clear hk
  have hS : (fun w' => w'.cell? ⟨P, 2, none⟩ = some (.pointer (some ⟨gw, 0, none⟩)) ∧ w'.cell? ⟨w.heap.size, 1, none⟩ = some (.int .i64 a) : World → Prop) wb.drew := ⟨p2, q1⟩
  have HBX := Lib.hid hbx
  have HPB := Lib.hid hpb
  have HCB := Lib.hid hcb
  have HROW := Lib.hid hrow
  clear h hi ha hbx hpb hcb hrow
  go_enter Try.func37, Try.ntmps37
  go_wp2_with fail
  try rw [hwb]
  clear hwb
  refine AnyTo.region (m := 99) (S := fun w' => w'.cell? ⟨P, 2, none⟩ = some (.pointer (some ⟨gw, 0, none⟩)) ∧ w'.cell? ⟨w.heap.size, 1, none⟩ = some (.int .i64 a)) mixed ?_
  refine AnyTo.takeA (i := 0) (v := ?vop_30) rfl (by kernel_rfl) (of_decide_eq_true (by kernel_rfl)) (by kernel_rfl) (by kernel_rfl) (fun _ _ _ h => h) (Or.inl ⟨by rfl, ?hyop_30⟩) hS ?restop_30
  case hyop_30 => (intro w' hw'; (try dsimp only at hw'); go_simp; try (with_reducible rfl))
  refine AnyTo.takeA (i := 1) (v := ?vop_31) rfl (by kernel_rfl) (of_decide_eq_true (by kernel_rfl)) (by kernel_rfl) (by kernel_rfl) (fun _ _ _ h => h) (Or.inl ⟨by rfl, ?hyop_31⟩) hS ?restop_31
  case hyop_31 => (intro w' hw'; (try dsimp only at hw'); go_simp; try (with_reducible rfl))
  refine AnyTo.takeA (i := 2) (v := ?vop_32) rfl (by kernel_rfl) (of_decide_eq_true (by kernel_rfl)) (by kernel_rfl) (by kernel_rfl) (fun _ _ _ h => h) (Or.inl ⟨by rfl, ?hyop_32⟩) hS ?restop_32
  case hyop_32 => (intro w' hw'; (try dsimp only at hw'); go_simp; try (with_reducible rfl))
  refine AnyTo.takeA (i := 3) (v := ?vop_33) rfl (by kernel_rfl) (of_decide_eq_true (by kernel_rfl)) (by kernel_rfl) (by kernel_rfl) (fun _ _ _ h => h) (Or.inl ⟨by rfl, ?hyop_33⟩) hS ?restop_33
  case hyop_33 => (intro w' hw'; (try dsimp only at hw'); go_simp; try (with_reducible rfl))
  refine AnyTo.takeA (i := 4) (v := ?vop_34) rfl (by kernel_rfl) (of_decide_eq_true (by kernel_rfl)) (by kernel_rfl) (by kernel_rfl) (fun _ _ _ h => h) (Or.inl ⟨by rfl, ?hyop_34⟩) hS ?restop_34
  case hyop_34 => (intro w' hw'; (try dsimp only at hw'); go_simp; try (with_reducible rfl))
  refine AnyTo.takeA (i := 5) (v := ?vop_35) rfl (by kernel_rfl) (of_decide_eq_true (by kernel_rfl)) (by kernel_rfl) (by kernel_rfl) (fun _ _ _ h => h) (Or.inl ⟨by rfl, ?hyop_35⟩) hS ?restop_35
  case hyop_35 => (intro w' hw'; (try dsimp only at hw'); go_simp; try (with_reducible rfl))
  try simp only [Act.put, List.setIfInBounds_toArray, List.set_cons_zero, List.set_cons_succ]
  refine AnyTo.step (i := 6) (by kernel_rfl) rfl (fun K hK => ?_)
  go_simp
  go_at_call 31
  refine HK.out.mono ?_
  rintro e w3 ⟨rfl, b3⟩
  have HB3 := Lib.hid b3
  clear b3
  go_wp2_with fail
  refine hK.out _ _ (fun _ => ⟨cell_at ((below_heap HB3.out (w := wb.drew) HROW.out (heap_lt HROW.out))) rfl, cell_at ((below_heap HB3.out (w := wb.drew) HBX.out (heap_lt HBX.out))) rfl⟩) ?_
  clear hK K
  try simp only [Act.put, List.setIfInBounds_toArray, List.set_cons_zero, List.set_cons_succ]
  refine AnyTo.done (by kernel_rfl) ?_
  go_wp2_with fail
  go_ret
  exact OpPost.mk0 HCB.out HPB.out ⟨HB3.out.os, HB3.out.tape, HB3.out.output, HB3.out.size, HB3.out.block⟩

set_option maxRecDepth 100000 in
set_option maxHeartbeats 1600000 in
theorem op_3_yes (w : World) (F : Nat → Prop) (P go gi gw N : Nat) (s : PSt) (c n a b : Int) (x : ByteArray) (p : Pk) (h : PairAt w F P go gi gw s) (hi : Inv N s) (hN : N ≤ 1000) (i : Nat) (y : Pk) (ha : a = (i : Int)) (hy : s.l[i]? = some y) :
    Calls Try.prog 37 #[.pointer (some ⟨P, 0, none⟩), .agg #[.int .i64 3, .int .i64 a, .int .i64 b, .string x, .int .i64 p.ch, .int .i64 p.back, .int .i64 p.inc, .int .i64 p.seq, .int .i64 p.ack, .string p.load], .int .i64 c, .int .i64 n] w (OpPost w F P go gi gw ⟨s.o, s.i, s.l.eraseIdx i, s.sent, s.got⟩) := by
  subst ha
  have h64 := hi.wire
  obtain ⟨wb, hwb⟩ : ∃ wb, w.alloc (.cells #[.int .i64 3, .int .i64 (i : Int), .int .i64 b, .string x, .int .i64 p.ch, .int .i64 p.back, .int .i64 p.inc, .int .i64 p.seq, .int .i64 p.ack, .string p.load] 66) = wb := ⟨_, rfl⟩
  have hbx : wb.heap[w.heap.size]? = some (.cells #[.int .i64 3, .int .i64 (i : Int), .int .i64 b, .string x, .int .i64 p.ch, .int .i64 p.back, .int .i64 p.inc, .int .i64 p.seq, .int .i64 p.ack, .string p.load] 66) := by rw [← hwb]; exact heap_alloc_new w _
  have hpb : PairAt wb (fun k => F k ∧ k < w.heap.size) P go gi gw s := by rw [← hwb]; exact h.tight.below ((Below.refl w.heap.size w).alloc (Nat.le_refl _) _) (Nat.le_refl _)
  have hcb : Chg w wb F := by rw [← hwb]; exact (Chg.refl w F).alloc _
  have hzb : w.heap.size ≤ wb.heap.size := hcb.size
  have hXb : w.heap.size < wb.heap.size := heap_lt hbx
  obtain ⟨a1, c1, a2, c2, hrow⟩ := hpb.row
  have hPlt := heap_lt hrow
  have mixed : Try.prog.follows .mixedOrders = true := by kernel_rfl
  have q0 : wb.cell? ⟨w.heap.size, 0, none⟩ = some (.int .i64 3) := cell_at hbx rfl
  have q1 : wb.cell? ⟨w.heap.size, 1, none⟩ = some (.int .i64 (i : Int)) := cell_at hbx rfl
  have p2 : wb.cell? ⟨P, 2, none⟩ = some (.pointer (some ⟨gw, 0, none⟩)) := cell_at hrow rfl
  have hk := pair_lose (w := wb.drew) (hpb.below (Below.refl wb.heap.size wb).drew (Nat.le_refl _)) i (List.getElem?_eq_some_iff.1 hy).1 h64
  have HK := Lib.hid hk
  clear hk
  have hS : (fun w' => w'.cell? ⟨P, 2, none⟩ = some (.pointer (some ⟨gw, 0, none⟩)) ∧ w'.cell? ⟨w.heap.size, 1, none⟩ = some (.int .i64 (i : Int)) : World → Prop) wb.drew := ⟨p2, q1⟩
  have HBX := Lib.hid hbx
  have HPB := Lib.hid hpb
  have HCB := Lib.hid hcb
  have HROW := Lib.hid hrow
  clear h hi hy hbx hpb hcb hrow
  go_enter Try.func37, Try.ntmps37
  go_wp2_with fail
  try rw [hwb]
  clear hwb
  refine AnyTo.region (m := 99) (S := fun w' => w'.cell? ⟨P, 2, none⟩ = some (.pointer (some ⟨gw, 0, none⟩)) ∧ w'.cell? ⟨w.heap.size, 1, none⟩ = some (.int .i64 (i : Int))) mixed ?_
  refine AnyTo.takeA (i := 0) (v := ?vop_30) rfl (by kernel_rfl) (of_decide_eq_true (by kernel_rfl)) (by kernel_rfl) (by kernel_rfl) (fun _ _ _ h => h) (Or.inl ⟨by rfl, ?hyop_30⟩) hS ?restop_30
  case hyop_30 => (intro w' hw'; (try dsimp only at hw'); go_simp; try (with_reducible rfl))
  refine AnyTo.takeA (i := 1) (v := ?vop_31) rfl (by kernel_rfl) (of_decide_eq_true (by kernel_rfl)) (by kernel_rfl) (by kernel_rfl) (fun _ _ _ h => h) (Or.inl ⟨by rfl, ?hyop_31⟩) hS ?restop_31
  case hyop_31 => (intro w' hw'; (try dsimp only at hw'); go_simp; try (with_reducible rfl))
  refine AnyTo.takeA (i := 2) (v := ?vop_32) rfl (by kernel_rfl) (of_decide_eq_true (by kernel_rfl)) (by kernel_rfl) (by kernel_rfl) (fun _ _ _ h => h) (Or.inl ⟨by rfl, ?hyop_32⟩) hS ?restop_32
  case hyop_32 => (intro w' hw'; (try dsimp only at hw'); go_simp; try (with_reducible rfl))
  refine AnyTo.takeA (i := 3) (v := ?vop_33) rfl (by kernel_rfl) (of_decide_eq_true (by kernel_rfl)) (by kernel_rfl) (by kernel_rfl) (fun _ _ _ h => h) (Or.inl ⟨by rfl, ?hyop_33⟩) hS ?restop_33
  case hyop_33 => (intro w' hw'; (try dsimp only at hw'); go_simp; try (with_reducible rfl))
  refine AnyTo.takeA (i := 4) (v := ?vop_34) rfl (by kernel_rfl) (of_decide_eq_true (by kernel_rfl)) (by kernel_rfl) (by kernel_rfl) (fun _ _ _ h => h) (Or.inl ⟨by rfl, ?hyop_34⟩) hS ?restop_34
  case hyop_34 => (intro w' hw'; (try dsimp only at hw'); go_simp; try (with_reducible rfl))
  refine AnyTo.takeA (i := 5) (v := ?vop_35) rfl (by kernel_rfl) (of_decide_eq_true (by kernel_rfl)) (by kernel_rfl) (by kernel_rfl) (fun _ _ _ h => h) (Or.inl ⟨by rfl, ?hyop_35⟩) hS ?restop_35
  case hyop_35 => (intro w' hw'; (try dsimp only at hw'); go_simp; try (with_reducible rfl))
  try simp only [Act.put, List.setIfInBounds_toArray, List.set_cons_zero, List.set_cons_succ]
  refine AnyTo.step (i := 6) (by kernel_rfl) rfl (fun K hK => ?_)
  go_simp
  go_at_call 31
  refine HK.out.mono ?_
  rintro e w3 ⟨rfl, h3, c3⟩
  obtain ⟨_, _, _, _, r3⟩ := h3.row
  have x3 := c3.heap (w := wb.drew) HBX.out (fun a => absurd a.2 (by omega))
  have HP3 := Lib.hid h3
  have HC3 := Lib.hid c3
  clear h3 c3
  go_wp2_with fail
  refine hK.out _ _ (fun _ => ⟨cell_at (r3) rfl, cell_at (x3) rfl⟩) ?_
  clear hK K
  try simp only [Act.put, List.setIfInBounds_toArray, List.set_cons_zero, List.set_cons_succ]
  refine AnyTo.done (by kernel_rfl) ?_
  go_wp2_with fail
  go_ret
  exact OpPost.mk2 hzb HCB.out HP3.out ⟨HC3.out.os, HC3.out.tape, HC3.out.output, HC3.out.size, HC3.out.block⟩

set_option maxRecDepth 100000 in
set_option maxHeartbeats 1600000 in
theorem op_4_no (w : World) (F : Nat → Prop) (P go gi gw N : Nat) (s : PSt) (c n a b : Int) (x : ByteArray) (p : Pk) (h : PairAt w F P go gi gw s) (hi : Inv N s) (hN : N ≤ 1000) (ha : a < 0 ∨ (s.l.length : Int) ≤ a) :
    Calls Try.prog 37 #[.pointer (some ⟨P, 0, none⟩), .agg #[.int .i64 4, .int .i64 a, .int .i64 b, .string x, .int .i64 p.ch, .int .i64 p.back, .int .i64 p.inc, .int .i64 p.seq, .int .i64 p.ack, .string p.load], .int .i64 c, .int .i64 n] w (OpPost w F P go gi gw s) := by
  have h64 := hi.wire
  obtain ⟨wb, hwb⟩ : ∃ wb, w.alloc (.cells #[.int .i64 4, .int .i64 a, .int .i64 b, .string x, .int .i64 p.ch, .int .i64 p.back, .int .i64 p.inc, .int .i64 p.seq, .int .i64 p.ack, .string p.load] 66) = wb := ⟨_, rfl⟩
  have hbx : wb.heap[w.heap.size]? = some (.cells #[.int .i64 4, .int .i64 a, .int .i64 b, .string x, .int .i64 p.ch, .int .i64 p.back, .int .i64 p.inc, .int .i64 p.seq, .int .i64 p.ack, .string p.load] 66) := by rw [← hwb]; exact heap_alloc_new w _
  have hpb : PairAt wb (fun k => F k ∧ k < w.heap.size) P go gi gw s := by rw [← hwb]; exact h.tight.below ((Below.refl w.heap.size w).alloc (Nat.le_refl _) _) (Nat.le_refl _)
  have hcb : Chg w wb F := by rw [← hwb]; exact (Chg.refl w F).alloc _
  have hzb : w.heap.size ≤ wb.heap.size := hcb.size
  have hXb : w.heap.size < wb.heap.size := heap_lt hbx
  obtain ⟨a1, c1, a2, c2, hrow⟩ := hpb.row
  have hPlt := heap_lt hrow
  have mixed : Try.prog.follows .mixedOrders = true := by kernel_rfl
  have q0 : wb.cell? ⟨w.heap.size, 0, none⟩ = some (.int .i64 4) := cell_at hbx rfl
  have q1 : wb.cell? ⟨w.heap.size, 1, none⟩ = some (.int .i64 a) := cell_at hbx rfl
  have p2 : wb.cell? ⟨P, 2, none⟩ = some (.pointer (some ⟨gw, 0, none⟩)) := cell_at hrow rfl
  have hk := pair_twice_none (w := wb.drew) (hpb.below (Below.refl wb.heap.size wb).drew (Nat.le_refl _)) a ha
  have HK := Lib.hid hk
  clear hk
  have hS : (fun w' => w'.cell? ⟨P, 2, none⟩ = some (.pointer (some ⟨gw, 0, none⟩)) ∧ w'.cell? ⟨w.heap.size, 1, none⟩ = some (.int .i64 a) : World → Prop) wb.drew := ⟨p2, q1⟩
  have HBX := Lib.hid hbx
  have HPB := Lib.hid hpb
  have HCB := Lib.hid hcb
  have HROW := Lib.hid hrow
  clear h hi ha hbx hpb hcb hrow
  go_enter Try.func37, Try.ntmps37
  go_wp2_with fail
  try rw [hwb]
  clear hwb
  refine AnyTo.region (m := 99) (S := fun w' => w'.cell? ⟨P, 2, none⟩ = some (.pointer (some ⟨gw, 0, none⟩)) ∧ w'.cell? ⟨w.heap.size, 1, none⟩ = some (.int .i64 a)) mixed ?_
  refine AnyTo.takeA (i := 0) (v := ?vop_40) rfl (by kernel_rfl) (of_decide_eq_true (by kernel_rfl)) (by kernel_rfl) (by kernel_rfl) (fun _ _ _ h => h) (Or.inl ⟨by rfl, ?hyop_40⟩) hS ?restop_40
  case hyop_40 => (intro w' hw'; (try dsimp only at hw'); go_simp; try (with_reducible rfl))
  refine AnyTo.takeA (i := 1) (v := ?vop_41) rfl (by kernel_rfl) (of_decide_eq_true (by kernel_rfl)) (by kernel_rfl) (by kernel_rfl) (fun _ _ _ h => h) (Or.inl ⟨by rfl, ?hyop_41⟩) hS ?restop_41
  case hyop_41 => (intro w' hw'; (try dsimp only at hw'); go_simp; try (with_reducible rfl))
  refine AnyTo.takeA (i := 2) (v := ?vop_42) rfl (by kernel_rfl) (of_decide_eq_true (by kernel_rfl)) (by kernel_rfl) (by kernel_rfl) (fun _ _ _ h => h) (Or.inl ⟨by rfl, ?hyop_42⟩) hS ?restop_42
  case hyop_42 => (intro w' hw'; (try dsimp only at hw'); go_simp; try (with_reducible rfl))
  refine AnyTo.takeA (i := 3) (v := ?vop_43) rfl (by kernel_rfl) (of_decide_eq_true (by kernel_rfl)) (by kernel_rfl) (by kernel_rfl) (fun _ _ _ h => h) (Or.inl ⟨by rfl, ?hyop_43⟩) hS ?restop_43
  case hyop_43 => (intro w' hw'; (try dsimp only at hw'); go_simp; try (with_reducible rfl))
  refine AnyTo.takeA (i := 4) (v := ?vop_44) rfl (by kernel_rfl) (of_decide_eq_true (by kernel_rfl)) (by kernel_rfl) (by kernel_rfl) (fun _ _ _ h => h) (Or.inl ⟨by rfl, ?hyop_44⟩) hS ?restop_44
  case hyop_44 => (intro w' hw'; (try dsimp only at hw'); go_simp; try (with_reducible rfl))
  refine AnyTo.takeA (i := 5) (v := ?vop_45) rfl (by kernel_rfl) (of_decide_eq_true (by kernel_rfl)) (by kernel_rfl) (by kernel_rfl) (fun _ _ _ h => h) (Or.inl ⟨by rfl, ?hyop_45⟩) hS ?restop_45
  case hyop_45 => (intro w' hw'; (try dsimp only at hw'); go_simp; try (with_reducible rfl))
  try simp only [Act.put, List.setIfInBounds_toArray, List.set_cons_zero, List.set_cons_succ]
  refine AnyTo.step (i := 6) (by kernel_rfl) rfl (fun K hK => ?_)
  go_simp
  go_at_call 27
  refine HK.out.mono ?_
  rintro e w3 ⟨rfl, b3⟩
  have HB3 := Lib.hid b3
  clear b3
  go_wp2_with fail
  refine hK.out _ _ (fun _ => ⟨cell_at ((below_heap HB3.out (w := wb.drew) HROW.out (heap_lt HROW.out))) rfl, cell_at ((below_heap HB3.out (w := wb.drew) HBX.out (heap_lt HBX.out))) rfl⟩) ?_
  clear hK K
  try simp only [Act.put, List.setIfInBounds_toArray, List.set_cons_zero, List.set_cons_succ]
  refine AnyTo.done (by kernel_rfl) ?_
  go_wp2_with fail
  go_ret
  exact OpPost.mk0 HCB.out HPB.out ⟨HB3.out.os, HB3.out.tape, HB3.out.output, HB3.out.size, HB3.out.block⟩

set_option maxRecDepth 100000 in
set_option maxHeartbeats 1600000 in
theorem op_4_yes (w : World) (F : Nat → Prop) (P go gi gw N : Nat) (s : PSt) (c n a b : Int) (x : ByteArray) (p : Pk) (h : PairAt w F P go gi gw s) (hi : Inv N s) (hN : N ≤ 1000) (i : Nat) (y : Pk) (ha : a = (i : Int)) (hy : s.l[i]? = some y) :
    Calls Try.prog 37 #[.pointer (some ⟨P, 0, none⟩), .agg #[.int .i64 4, .int .i64 a, .int .i64 b, .string x, .int .i64 p.ch, .int .i64 p.back, .int .i64 p.inc, .int .i64 p.seq, .int .i64 p.ack, .string p.load], .int .i64 c, .int .i64 n] w (OpPost w F P go gi gw ⟨s.o, s.i, cutPks (s.l ++ [y]), s.sent, s.got⟩) := by
  subst ha
  have h64 := hi.wire
  obtain ⟨wb, hwb⟩ : ∃ wb, w.alloc (.cells #[.int .i64 4, .int .i64 (i : Int), .int .i64 b, .string x, .int .i64 p.ch, .int .i64 p.back, .int .i64 p.inc, .int .i64 p.seq, .int .i64 p.ack, .string p.load] 66) = wb := ⟨_, rfl⟩
  have hbx : wb.heap[w.heap.size]? = some (.cells #[.int .i64 4, .int .i64 (i : Int), .int .i64 b, .string x, .int .i64 p.ch, .int .i64 p.back, .int .i64 p.inc, .int .i64 p.seq, .int .i64 p.ack, .string p.load] 66) := by rw [← hwb]; exact heap_alloc_new w _
  have hpb : PairAt wb (fun k => F k ∧ k < w.heap.size) P go gi gw s := by rw [← hwb]; exact h.tight.below ((Below.refl w.heap.size w).alloc (Nat.le_refl _) _) (Nat.le_refl _)
  have hcb : Chg w wb F := by rw [← hwb]; exact (Chg.refl w F).alloc _
  have hzb : w.heap.size ≤ wb.heap.size := hcb.size
  have hXb : w.heap.size < wb.heap.size := heap_lt hbx
  obtain ⟨a1, c1, a2, c2, hrow⟩ := hpb.row
  have hPlt := heap_lt hrow
  have mixed : Try.prog.follows .mixedOrders = true := by kernel_rfl
  have q0 : wb.cell? ⟨w.heap.size, 0, none⟩ = some (.int .i64 4) := cell_at hbx rfl
  have q1 : wb.cell? ⟨w.heap.size, 1, none⟩ = some (.int .i64 (i : Int)) := cell_at hbx rfl
  have p2 : wb.cell? ⟨P, 2, none⟩ = some (.pointer (some ⟨gw, 0, none⟩)) := cell_at hrow rfl
  have hk := pair_twice (w := wb.drew) (hpb.below (Below.refl wb.heap.size wb).drew (Nat.le_refl _)) i y hy h64
  have HK := Lib.hid hk
  clear hk
  have hS : (fun w' => w'.cell? ⟨P, 2, none⟩ = some (.pointer (some ⟨gw, 0, none⟩)) ∧ w'.cell? ⟨w.heap.size, 1, none⟩ = some (.int .i64 (i : Int)) : World → Prop) wb.drew := ⟨p2, q1⟩
  have HBX := Lib.hid hbx
  have HPB := Lib.hid hpb
  have HCB := Lib.hid hcb
  have HROW := Lib.hid hrow
  clear h hi hy hbx hpb hcb hrow
  go_enter Try.func37, Try.ntmps37
  go_wp2_with fail
  try rw [hwb]
  clear hwb
  refine AnyTo.region (m := 99) (S := fun w' => w'.cell? ⟨P, 2, none⟩ = some (.pointer (some ⟨gw, 0, none⟩)) ∧ w'.cell? ⟨w.heap.size, 1, none⟩ = some (.int .i64 (i : Int))) mixed ?_
  refine AnyTo.takeA (i := 0) (v := ?vop_40) rfl (by kernel_rfl) (of_decide_eq_true (by kernel_rfl)) (by kernel_rfl) (by kernel_rfl) (fun _ _ _ h => h) (Or.inl ⟨by rfl, ?hyop_40⟩) hS ?restop_40
  case hyop_40 => (intro w' hw'; (try dsimp only at hw'); go_simp; try (with_reducible rfl))
  refine AnyTo.takeA (i := 1) (v := ?vop_41) rfl (by kernel_rfl) (of_decide_eq_true (by kernel_rfl)) (by kernel_rfl) (by kernel_rfl) (fun _ _ _ h => h) (Or.inl ⟨by rfl, ?hyop_41⟩) hS ?restop_41
  case hyop_41 => (intro w' hw'; (try dsimp only at hw'); go_simp; try (with_reducible rfl))
  refine AnyTo.takeA (i := 2) (v := ?vop_42) rfl (by kernel_rfl) (of_decide_eq_true (by kernel_rfl)) (by kernel_rfl) (by kernel_rfl) (fun _ _ _ h => h) (Or.inl ⟨by rfl, ?hyop_42⟩) hS ?restop_42
  case hyop_42 => (intro w' hw'; (try dsimp only at hw'); go_simp; try (with_reducible rfl))
  refine AnyTo.takeA (i := 3) (v := ?vop_43) rfl (by kernel_rfl) (of_decide_eq_true (by kernel_rfl)) (by kernel_rfl) (by kernel_rfl) (fun _ _ _ h => h) (Or.inl ⟨by rfl, ?hyop_43⟩) hS ?restop_43
  case hyop_43 => (intro w' hw'; (try dsimp only at hw'); go_simp; try (with_reducible rfl))
  refine AnyTo.takeA (i := 4) (v := ?vop_44) rfl (by kernel_rfl) (of_decide_eq_true (by kernel_rfl)) (by kernel_rfl) (by kernel_rfl) (fun _ _ _ h => h) (Or.inl ⟨by rfl, ?hyop_44⟩) hS ?restop_44
  case hyop_44 => (intro w' hw'; (try dsimp only at hw'); go_simp; try (with_reducible rfl))
  refine AnyTo.takeA (i := 5) (v := ?vop_45) rfl (by kernel_rfl) (of_decide_eq_true (by kernel_rfl)) (by kernel_rfl) (by kernel_rfl) (fun _ _ _ h => h) (Or.inl ⟨by rfl, ?hyop_45⟩) hS ?restop_45
  case hyop_45 => (intro w' hw'; (try dsimp only at hw'); go_simp; try (with_reducible rfl))
  try simp only [Act.put, List.setIfInBounds_toArray, List.set_cons_zero, List.set_cons_succ]
  refine AnyTo.step (i := 6) (by kernel_rfl) rfl (fun K hK => ?_)
  go_simp
  go_at_call 27
  refine HK.out.mono ?_
  rintro e w3 ⟨rfl, h3, c3⟩
  obtain ⟨_, _, _, _, r3⟩ := h3.row
  have x3 := c3.heap (w := wb.drew) HBX.out (fun a => absurd a.2 (by omega))
  have HP3 := Lib.hid h3
  have HC3 := Lib.hid c3
  clear h3 c3
  go_wp2_with fail
  refine hK.out _ _ (fun _ => ⟨cell_at (r3) rfl, cell_at (x3) rfl⟩) ?_
  clear hK K
  try simp only [Act.put, List.setIfInBounds_toArray, List.set_cons_zero, List.set_cons_succ]
  refine AnyTo.done (by kernel_rfl) ?_
  go_wp2_with fail
  go_ret
  exact OpPost.mk2 hzb HCB.out HP3.out ⟨HC3.out.os, HC3.out.tape, HC3.out.output, HC3.out.size, HC3.out.block⟩

set_option maxRecDepth 100000 in
set_option maxHeartbeats 1600000 in
theorem op_5_no (w : World) (F : Nat → Prop) (P go gi gw N : Nat) (s : PSt) (c n a b : Int) (x : ByteArray) (p : Pk) (h : PairAt w F P go gi gw s) (hi : Inv N s) (hN : N ≤ 1000) (ha : a < 0 ∨ (s.l.length : Int) ≤ a) :
    Calls Try.prog 37 #[.pointer (some ⟨P, 0, none⟩), .agg #[.int .i64 5, .int .i64 a, .int .i64 b, .string x, .int .i64 p.ch, .int .i64 p.back, .int .i64 p.inc, .int .i64 p.seq, .int .i64 p.ack, .string p.load], .int .i64 c, .int .i64 n] w (OpPost w F P go gi gw s) := by
  have h64 := hi.wire
  obtain ⟨wb, hwb⟩ : ∃ wb, w.alloc (.cells #[.int .i64 5, .int .i64 a, .int .i64 b, .string x, .int .i64 p.ch, .int .i64 p.back, .int .i64 p.inc, .int .i64 p.seq, .int .i64 p.ack, .string p.load] 66) = wb := ⟨_, rfl⟩
  have hbx : wb.heap[w.heap.size]? = some (.cells #[.int .i64 5, .int .i64 a, .int .i64 b, .string x, .int .i64 p.ch, .int .i64 p.back, .int .i64 p.inc, .int .i64 p.seq, .int .i64 p.ack, .string p.load] 66) := by rw [← hwb]; exact heap_alloc_new w _
  have hpb : PairAt wb (fun k => F k ∧ k < w.heap.size) P go gi gw s := by rw [← hwb]; exact h.tight.below ((Below.refl w.heap.size w).alloc (Nat.le_refl _) _) (Nat.le_refl _)
  have hcb : Chg w wb F := by rw [← hwb]; exact (Chg.refl w F).alloc _
  have hzb : w.heap.size ≤ wb.heap.size := hcb.size
  have hXb : w.heap.size < wb.heap.size := heap_lt hbx
  obtain ⟨a1, c1, a2, c2, hrow⟩ := hpb.row
  have hPlt := heap_lt hrow
  have mixed : Try.prog.follows .mixedOrders = true := by kernel_rfl
  have q0 : wb.cell? ⟨w.heap.size, 0, none⟩ = some (.int .i64 5) := cell_at hbx rfl
  have q1 : wb.cell? ⟨w.heap.size, 1, none⟩ = some (.int .i64 a) := cell_at hbx rfl
  have q2 : wb.cell? ⟨w.heap.size, 2, none⟩ = some (.int .i64 b) := cell_at hbx rfl
  have p2 : wb.cell? ⟨P, 2, none⟩ = some (.pointer (some ⟨gw, 0, none⟩)) := cell_at hrow rfl
  have hk := pair_turn_none (w := wb.drew) (hpb.below (Below.refl wb.heap.size wb).drew (Nat.le_refl _)) a b ha
  have HK := Lib.hid hk
  clear hk
  have hS : (fun w' => w'.cell? ⟨P, 2, none⟩ = some (.pointer (some ⟨gw, 0, none⟩)) ∧ w'.cell? ⟨w.heap.size, 1, none⟩ = some (.int .i64 a) ∧ w'.cell? ⟨w.heap.size, 2, none⟩ = some (.int .i64 b) : World → Prop) wb.drew := ⟨p2, q1, q2⟩
  have HBX := Lib.hid hbx
  have HPB := Lib.hid hpb
  have HCB := Lib.hid hcb
  have HROW := Lib.hid hrow
  clear h hi ha hbx hpb hcb hrow
  go_enter Try.func37, Try.ntmps37
  go_wp2_with fail
  try rw [hwb]
  clear hwb
  refine AnyTo.region (m := 99) (S := fun w' => w'.cell? ⟨P, 2, none⟩ = some (.pointer (some ⟨gw, 0, none⟩)) ∧ w'.cell? ⟨w.heap.size, 1, none⟩ = some (.int .i64 a) ∧ w'.cell? ⟨w.heap.size, 2, none⟩ = some (.int .i64 b)) mixed ?_
  refine AnyTo.takeA (i := 0) (v := ?vop_50) rfl (by kernel_rfl) (of_decide_eq_true (by kernel_rfl)) (by kernel_rfl) (by kernel_rfl) (fun _ _ _ h => h) (Or.inl ⟨by rfl, ?hyop_50⟩) hS ?restop_50
  case hyop_50 => (intro w' hw'; (try dsimp only at hw'); go_simp; try (with_reducible rfl))
  refine AnyTo.takeA (i := 1) (v := ?vop_51) rfl (by kernel_rfl) (of_decide_eq_true (by kernel_rfl)) (by kernel_rfl) (by kernel_rfl) (fun _ _ _ h => h) (Or.inl ⟨by rfl, ?hyop_51⟩) hS ?restop_51
  case hyop_51 => (intro w' hw'; (try dsimp only at hw'); go_simp; try (with_reducible rfl))
  refine AnyTo.takeA (i := 2) (v := ?vop_52) rfl (by kernel_rfl) (of_decide_eq_true (by kernel_rfl)) (by kernel_rfl) (by kernel_rfl) (fun _ _ _ h => h) (Or.inl ⟨by rfl, ?hyop_52⟩) hS ?restop_52
  case hyop_52 => (intro w' hw'; (try dsimp only at hw'); go_simp; try (with_reducible rfl))
  refine AnyTo.takeA (i := 3) (v := ?vop_53) rfl (by kernel_rfl) (of_decide_eq_true (by kernel_rfl)) (by kernel_rfl) (by kernel_rfl) (fun _ _ _ h => h) (Or.inl ⟨by rfl, ?hyop_53⟩) hS ?restop_53
  case hyop_53 => (intro w' hw'; (try dsimp only at hw'); go_simp; try (with_reducible rfl))
  refine AnyTo.takeA (i := 4) (v := ?vop_54) rfl (by kernel_rfl) (of_decide_eq_true (by kernel_rfl)) (by kernel_rfl) (by kernel_rfl) (fun _ _ _ h => h) (Or.inl ⟨by rfl, ?hyop_54⟩) hS ?restop_54
  case hyop_54 => (intro w' hw'; (try dsimp only at hw'); go_simp; try (with_reducible rfl))
  refine AnyTo.takeA (i := 5) (v := ?vop_55) rfl (by kernel_rfl) (of_decide_eq_true (by kernel_rfl)) (by kernel_rfl) (by kernel_rfl) (fun _ _ _ h => h) (Or.inl ⟨by rfl, ?hyop_55⟩) hS ?restop_55
  case hyop_55 => (intro w' hw'; (try dsimp only at hw'); go_simp; try (with_reducible rfl))
  refine AnyTo.takeA (i := 6) (v := ?vop_56) rfl (by kernel_rfl) (of_decide_eq_true (by kernel_rfl)) (by kernel_rfl) (by kernel_rfl) (fun _ _ _ h => h) (Or.inl ⟨by rfl, ?hyop_56⟩) hS ?restop_56
  case hyop_56 => (intro w' hw'; (try dsimp only at hw'); go_simp; try (with_reducible rfl))
  refine AnyTo.takeA (i := 7) (v := ?vop_57) rfl (by kernel_rfl) (of_decide_eq_true (by kernel_rfl)) (by kernel_rfl) (by kernel_rfl) (fun _ _ _ h => h) (Or.inl ⟨by rfl, ?hyop_57⟩) hS ?restop_57
  case hyop_57 => (intro w' hw'; (try dsimp only at hw'); go_simp; try (with_reducible rfl))
  try simp only [Act.put, List.setIfInBounds_toArray, List.set_cons_zero, List.set_cons_succ]
  refine AnyTo.step (i := 8) (by kernel_rfl) rfl (fun K hK => ?_)
  go_simp
  go_at_call 24
  refine HK.out.mono ?_
  rintro e w3 ⟨rfl, b3⟩
  have HB3 := Lib.hid b3
  clear b3
  go_wp2_with fail
  refine hK.out _ _ (fun _ => ⟨cell_at ((below_heap HB3.out (w := wb.drew) HROW.out (heap_lt HROW.out))) rfl, cell_at ((below_heap HB3.out (w := wb.drew) HBX.out (heap_lt HBX.out))) rfl, cell_at ((below_heap HB3.out (w := wb.drew) HBX.out (heap_lt HBX.out))) rfl⟩) ?_
  clear hK K
  try simp only [Act.put, List.setIfInBounds_toArray, List.set_cons_zero, List.set_cons_succ]
  refine AnyTo.done (by kernel_rfl) ?_
  go_wp2_with fail
  go_ret
  exact OpPost.mk0 HCB.out HPB.out ⟨HB3.out.os, HB3.out.tape, HB3.out.output, HB3.out.size, HB3.out.block⟩

set_option maxRecDepth 100000 in
set_option maxHeartbeats 1600000 in
theorem op_5_yes (w : World) (F : Nat → Prop) (P go gi gw N : Nat) (s : PSt) (c n a b : Int) (x : ByteArray) (p : Pk) (h : PairAt w F P go gi gw s) (hi : Inv N s) (hN : N ≤ 1000) (i : Nat) (y : Pk) (ha : a = (i : Int)) (hy : s.l[i]? = some y) :
    Calls Try.prog 37 #[.pointer (some ⟨P, 0, none⟩), .agg #[.int .i64 5, .int .i64 a, .int .i64 b, .string x, .int .i64 p.ch, .int .i64 p.back, .int .i64 p.inc, .int .i64 p.seq, .int .i64 p.ack, .string p.load], .int .i64 c, .int .i64 n] w (OpPost w F P go gi gw ⟨s.o, s.i, insPk (s.l.eraseIdx i) (turnTo b (s.l.length - 1)) y, s.sent, s.got⟩) := by
  subst ha
  have h64 := hi.wire
  obtain ⟨wb, hwb⟩ : ∃ wb, w.alloc (.cells #[.int .i64 5, .int .i64 (i : Int), .int .i64 b, .string x, .int .i64 p.ch, .int .i64 p.back, .int .i64 p.inc, .int .i64 p.seq, .int .i64 p.ack, .string p.load] 66) = wb := ⟨_, rfl⟩
  have hbx : wb.heap[w.heap.size]? = some (.cells #[.int .i64 5, .int .i64 (i : Int), .int .i64 b, .string x, .int .i64 p.ch, .int .i64 p.back, .int .i64 p.inc, .int .i64 p.seq, .int .i64 p.ack, .string p.load] 66) := by rw [← hwb]; exact heap_alloc_new w _
  have hpb : PairAt wb (fun k => F k ∧ k < w.heap.size) P go gi gw s := by rw [← hwb]; exact h.tight.below ((Below.refl w.heap.size w).alloc (Nat.le_refl _) _) (Nat.le_refl _)
  have hcb : Chg w wb F := by rw [← hwb]; exact (Chg.refl w F).alloc _
  have hzb : w.heap.size ≤ wb.heap.size := hcb.size
  have hXb : w.heap.size < wb.heap.size := heap_lt hbx
  obtain ⟨a1, c1, a2, c2, hrow⟩ := hpb.row
  have hPlt := heap_lt hrow
  have mixed : Try.prog.follows .mixedOrders = true := by kernel_rfl
  have q0 : wb.cell? ⟨w.heap.size, 0, none⟩ = some (.int .i64 5) := cell_at hbx rfl
  have q1 : wb.cell? ⟨w.heap.size, 1, none⟩ = some (.int .i64 (i : Int)) := cell_at hbx rfl
  have q2 : wb.cell? ⟨w.heap.size, 2, none⟩ = some (.int .i64 b) := cell_at hbx rfl
  have p2 : wb.cell? ⟨P, 2, none⟩ = some (.pointer (some ⟨gw, 0, none⟩)) := cell_at hrow rfl
  have hk := pair_turn (w := wb.drew) (hpb.below (Below.refl wb.heap.size wb).drew (Nat.le_refl _)) i b y hy h64
  have HK := Lib.hid hk
  clear hk
  have hS : (fun w' => w'.cell? ⟨P, 2, none⟩ = some (.pointer (some ⟨gw, 0, none⟩)) ∧ w'.cell? ⟨w.heap.size, 1, none⟩ = some (.int .i64 (i : Int)) ∧ w'.cell? ⟨w.heap.size, 2, none⟩ = some (.int .i64 b) : World → Prop) wb.drew := ⟨p2, q1, q2⟩
  have HBX := Lib.hid hbx
  have HPB := Lib.hid hpb
  have HCB := Lib.hid hcb
  have HROW := Lib.hid hrow
  clear h hi hy hbx hpb hcb hrow
  go_enter Try.func37, Try.ntmps37
  go_wp2_with fail
  try rw [hwb]
  clear hwb
  refine AnyTo.region (m := 99) (S := fun w' => w'.cell? ⟨P, 2, none⟩ = some (.pointer (some ⟨gw, 0, none⟩)) ∧ w'.cell? ⟨w.heap.size, 1, none⟩ = some (.int .i64 (i : Int)) ∧ w'.cell? ⟨w.heap.size, 2, none⟩ = some (.int .i64 b)) mixed ?_
  refine AnyTo.takeA (i := 0) (v := ?vop_50) rfl (by kernel_rfl) (of_decide_eq_true (by kernel_rfl)) (by kernel_rfl) (by kernel_rfl) (fun _ _ _ h => h) (Or.inl ⟨by rfl, ?hyop_50⟩) hS ?restop_50
  case hyop_50 => (intro w' hw'; (try dsimp only at hw'); go_simp; try (with_reducible rfl))
  refine AnyTo.takeA (i := 1) (v := ?vop_51) rfl (by kernel_rfl) (of_decide_eq_true (by kernel_rfl)) (by kernel_rfl) (by kernel_rfl) (fun _ _ _ h => h) (Or.inl ⟨by rfl, ?hyop_51⟩) hS ?restop_51
  case hyop_51 => (intro w' hw'; (try dsimp only at hw'); go_simp; try (with_reducible rfl))
  refine AnyTo.takeA (i := 2) (v := ?vop_52) rfl (by kernel_rfl) (of_decide_eq_true (by kernel_rfl)) (by kernel_rfl) (by kernel_rfl) (fun _ _ _ h => h) (Or.inl ⟨by rfl, ?hyop_52⟩) hS ?restop_52
  case hyop_52 => (intro w' hw'; (try dsimp only at hw'); go_simp; try (with_reducible rfl))
  refine AnyTo.takeA (i := 3) (v := ?vop_53) rfl (by kernel_rfl) (of_decide_eq_true (by kernel_rfl)) (by kernel_rfl) (by kernel_rfl) (fun _ _ _ h => h) (Or.inl ⟨by rfl, ?hyop_53⟩) hS ?restop_53
  case hyop_53 => (intro w' hw'; (try dsimp only at hw'); go_simp; try (with_reducible rfl))
  refine AnyTo.takeA (i := 4) (v := ?vop_54) rfl (by kernel_rfl) (of_decide_eq_true (by kernel_rfl)) (by kernel_rfl) (by kernel_rfl) (fun _ _ _ h => h) (Or.inl ⟨by rfl, ?hyop_54⟩) hS ?restop_54
  case hyop_54 => (intro w' hw'; (try dsimp only at hw'); go_simp; try (with_reducible rfl))
  refine AnyTo.takeA (i := 5) (v := ?vop_55) rfl (by kernel_rfl) (of_decide_eq_true (by kernel_rfl)) (by kernel_rfl) (by kernel_rfl) (fun _ _ _ h => h) (Or.inl ⟨by rfl, ?hyop_55⟩) hS ?restop_55
  case hyop_55 => (intro w' hw'; (try dsimp only at hw'); go_simp; try (with_reducible rfl))
  refine AnyTo.takeA (i := 6) (v := ?vop_56) rfl (by kernel_rfl) (of_decide_eq_true (by kernel_rfl)) (by kernel_rfl) (by kernel_rfl) (fun _ _ _ h => h) (Or.inl ⟨by rfl, ?hyop_56⟩) hS ?restop_56
  case hyop_56 => (intro w' hw'; (try dsimp only at hw'); go_simp; try (with_reducible rfl))
  refine AnyTo.takeA (i := 7) (v := ?vop_57) rfl (by kernel_rfl) (of_decide_eq_true (by kernel_rfl)) (by kernel_rfl) (by kernel_rfl) (fun _ _ _ h => h) (Or.inl ⟨by rfl, ?hyop_57⟩) hS ?restop_57
  case hyop_57 => (intro w' hw'; (try dsimp only at hw'); go_simp; try (with_reducible rfl))
  try simp only [Act.put, List.setIfInBounds_toArray, List.set_cons_zero, List.set_cons_succ]
  refine AnyTo.step (i := 8) (by kernel_rfl) rfl (fun K hK => ?_)
  go_simp
  go_at_call 24
  refine HK.out.mono ?_
  rintro e w3 ⟨rfl, h3, c3⟩
  obtain ⟨_, _, _, _, r3⟩ := h3.row
  have x3 := c3.heap (w := wb.drew) HBX.out (fun a => absurd a.2 (by omega))
  have HP3 := Lib.hid h3
  have HC3 := Lib.hid c3
  clear h3 c3
  go_wp2_with fail
  refine hK.out _ _ (fun _ => ⟨cell_at (r3) rfl, cell_at (x3) rfl, cell_at (x3) rfl⟩) ?_
  clear hK K
  try simp only [Act.put, List.setIfInBounds_toArray, List.set_cons_zero, List.set_cons_succ]
  refine AnyTo.done (by kernel_rfl) ?_
  go_wp2_with fail
  go_ret
  exact OpPost.mk2 hzb HCB.out HP3.out ⟨HC3.out.os, HC3.out.tape, HC3.out.output, HC3.out.size, HC3.out.block⟩

set_option maxRecDepth 100000 in
set_option maxHeartbeats 1600000 in
theorem op_9 (w : World) (F : Nat → Prop) (P go gi gw N : Nat) (s : PSt) (c n a b : Int) (x : ByteArray) (p : Pk) (h : PairAt w F P go gi gw s) (hi : Inv N s) (hN : N ≤ 1000) (j : Int) (h0 : (j == 0) = false) (h1 : (j == 1) = false) (h2 : (j == 2) = false) (h3 : (j == 3) = false) (h4 : (j == 4) = false) (h5 : (j == 5) = false) (h6 : (j == 6) = false) (h7 : (j == 7) = false) :
    Calls Try.prog 37 #[.pointer (some ⟨P, 0, none⟩), .agg #[.int .i64 j, .int .i64 a, .int .i64 b, .string x, .int .i64 p.ch, .int .i64 p.back, .int .i64 p.inc, .int .i64 p.seq, .int .i64 p.ack, .string p.load], .int .i64 c, .int .i64 n] w (OpPost w F P go gi gw s) := by
  have h64 := hi.wire
  obtain ⟨wb, hwb⟩ : ∃ wb, w.alloc (.cells #[.int .i64 j, .int .i64 a, .int .i64 b, .string x, .int .i64 p.ch, .int .i64 p.back, .int .i64 p.inc, .int .i64 p.seq, .int .i64 p.ack, .string p.load] 66) = wb := ⟨_, rfl⟩
  have hbx : wb.heap[w.heap.size]? = some (.cells #[.int .i64 j, .int .i64 a, .int .i64 b, .string x, .int .i64 p.ch, .int .i64 p.back, .int .i64 p.inc, .int .i64 p.seq, .int .i64 p.ack, .string p.load] 66) := by rw [← hwb]; exact heap_alloc_new w _
  have hpb : PairAt wb (fun k => F k ∧ k < w.heap.size) P go gi gw s := by rw [← hwb]; exact h.tight.below ((Below.refl w.heap.size w).alloc (Nat.le_refl _) _) (Nat.le_refl _)
  have hcb : Chg w wb F := by rw [← hwb]; exact (Chg.refl w F).alloc _
  have hzb : w.heap.size ≤ wb.heap.size := hcb.size
  have hXb : w.heap.size < wb.heap.size := heap_lt hbx
  obtain ⟨a1, c1, a2, c2, hrow⟩ := hpb.row
  have hPlt := heap_lt hrow
  have mixed : Try.prog.follows .mixedOrders = true := by kernel_rfl
  have q0 : wb.cell? ⟨w.heap.size, 0, none⟩ = some (.int .i64 j) := cell_at hbx rfl
  have HBX := Lib.hid hbx
  have HPB := Lib.hid hpb
  have HCB := Lib.hid hcb
  have HROW := Lib.hid hrow
  clear h hi hbx hpb hcb hrow
  go_enter Try.func37, Try.ntmps37
  go_wp2_with fail
  try rw [hwb]
  clear hwb
  go_ret
  exact OpPost.mk0 HCB.out HPB.out (Below.refl _ _)
end Go.Proofs.Ytecpgkcoehnpbaa
