/- Layer 17: the laws' own op: packets that are not the channel's. -/
import Derived.Test.YtecpgkcoehnpbaaLinkT
import Derived.Deep.QuietTactic
namespace Go.Proofs.Ytecpgkcoehnpbaa
open Go.RowKit

set_option maxRecDepth 100000 in
set_option maxHeartbeats 1600000 in
theorem op_7_own (w : World) (F : Nat → Prop) (P go gi gw N : Nat) (s : PSt) (c n a b : Int) (x : ByteArray) (p : Pk) (h : PairAt w F P go gi gw s) (hi : Inv N s) (hN : N ≤ 1000) (hc : (p.ch != c) = false) (hn : (p.inc != n) = false) :
    Calls Try.prog 37 #[.pointer (some ⟨P, 0, none⟩), .agg #[.int .i64 7, .int .i64 a, .int .i64 b, .string x, .int .i64 p.ch, .int .i64 p.back, .int .i64 p.inc, .int .i64 p.seq, .int .i64 p.ack, .string p.load], .int .i64 c, .int .i64 n] w (OpPost w F P go gi gw s) := by
  have h64 := hi.wire
  obtain ⟨wb, hwb⟩ : ∃ wb, w.alloc (.cells #[.int .i64 7, .int .i64 a, .int .i64 b, .string x, .int .i64 p.ch, .int .i64 p.back, .int .i64 p.inc, .int .i64 p.seq, .int .i64 p.ack, .string p.load] 66) = wb := ⟨_, rfl⟩
  have hbx : wb.heap[w.heap.size]? = some (.cells #[.int .i64 7, .int .i64 a, .int .i64 b, .string x, .int .i64 p.ch, .int .i64 p.back, .int .i64 p.inc, .int .i64 p.seq, .int .i64 p.ack, .string p.load] 66) := by rw [← hwb]; exact heap_alloc_new w _
  have hpb : PairAt wb (fun k => F k ∧ k < w.heap.size) P go gi gw s := by rw [← hwb]; exact h.tight.below ((Below.refl w.heap.size w).alloc (Nat.le_refl _) _) (Nat.le_refl _)
  have hcb : Chg w wb F := by rw [← hwb]; exact (Chg.refl w F).alloc _
  have hzb : w.heap.size ≤ wb.heap.size := hcb.size
  have hXb : w.heap.size < wb.heap.size := heap_lt hbx
  obtain ⟨a1, c1, a2, c2, hrow⟩ := hpb.row
  have hPlt := heap_lt hrow
  have mixed : Try.prog.follows .mixedOrders = true := by kernel_rfl
  have q0 : wb.cell? ⟨w.heap.size, 0, none⟩ = some (.int .i64 7) := cell_at hbx rfl
  have q4 : wb.cell? ⟨w.heap.size, 4, none⟩ = some (.int .i64 p.ch) := cell_at hbx rfl
  have q5 : wb.cell? ⟨w.heap.size, 5, none⟩ = some (.int .i64 p.back) := cell_at hbx rfl
  have q6 : wb.cell? ⟨w.heap.size, 6, none⟩ = some (.int .i64 p.inc) := cell_at hbx rfl
  have q7 : wb.cell? ⟨w.heap.size, 7, none⟩ = some (.int .i64 p.seq) := cell_at hbx rfl
  have q8 : wb.cell? ⟨w.heap.size, 8, none⟩ = some (.int .i64 p.ack) := cell_at hbx rfl
  have q9 : wb.cell? ⟨w.heap.size, 9, none⟩ = some (.string p.load) := cell_at hbx rfl
  have HBX := Lib.hid hbx
  have HPB := Lib.hid hpb
  have HCB := Lib.hid hcb
  have HROW := Lib.hid hrow
  clear h hi hbx hpb hcb hrow
  go_enter Try.func37, Try.ntmps37
  go_wp2_with fail
  try rw [hwb]
  clear hwb
  go_ret
  exact OpPost.mk0 HCB.out HPB.out (Below.refl _ _)

set_option maxRecDepth 100000 in
set_option maxHeartbeats 1600000 in
theorem op_7_ch (w : World) (F : Nat → Prop) (P go gi gw N : Nat) (s : PSt) (c n a b : Int) (x : ByteArray) (p : Pk) (h : PairAt w F P go gi gw s) (hi : Inv N s) (hN : N ≤ 1000) (hc : (p.ch != c) = true) (hno : ∀ bk : Int, ¬ (p.ch = s.o.ch ∧ p.inc = s.o.inc ∧ p.back = bk)) :
    Calls Try.prog 37 #[.pointer (some ⟨P, 0, none⟩), .agg #[.int .i64 7, .int .i64 a, .int .i64 b, .string x, .int .i64 p.ch, .int .i64 p.back, .int .i64 p.inc, .int .i64 p.seq, .int .i64 p.ack, .string p.load], .int .i64 c, .int .i64 n] w (OpPost w F P go gi gw s) := by
  have h64 := hi.wire
  obtain ⟨wb, hwb⟩ : ∃ wb, w.alloc (.cells #[.int .i64 7, .int .i64 a, .int .i64 b, .string x, .int .i64 p.ch, .int .i64 p.back, .int .i64 p.inc, .int .i64 p.seq, .int .i64 p.ack, .string p.load] 66) = wb := ⟨_, rfl⟩
  have hbx : wb.heap[w.heap.size]? = some (.cells #[.int .i64 7, .int .i64 a, .int .i64 b, .string x, .int .i64 p.ch, .int .i64 p.back, .int .i64 p.inc, .int .i64 p.seq, .int .i64 p.ack, .string p.load] 66) := by rw [← hwb]; exact heap_alloc_new w _
  have hpb : PairAt wb (fun k => F k ∧ k < w.heap.size) P go gi gw s := by rw [← hwb]; exact h.tight.below ((Below.refl w.heap.size w).alloc (Nat.le_refl _) _) (Nat.le_refl _)
  have hcb : Chg w wb F := by rw [← hwb]; exact (Chg.refl w F).alloc _
  have hzb : w.heap.size ≤ wb.heap.size := hcb.size
  have hXb : w.heap.size < wb.heap.size := heap_lt hbx
  obtain ⟨a1, c1, a2, c2, hrow⟩ := hpb.row
  have hPlt := heap_lt hrow
  have mixed : Try.prog.follows .mixedOrders = true := by kernel_rfl
  have q0 : wb.cell? ⟨w.heap.size, 0, none⟩ = some (.int .i64 7) := cell_at hbx rfl
  have q4 : wb.cell? ⟨w.heap.size, 4, none⟩ = some (.int .i64 p.ch) := cell_at hbx rfl
  have q5 : wb.cell? ⟨w.heap.size, 5, none⟩ = some (.int .i64 p.back) := cell_at hbx rfl
  have q6 : wb.cell? ⟨w.heap.size, 6, none⟩ = some (.int .i64 p.inc) := cell_at hbx rfl
  have q7 : wb.cell? ⟨w.heap.size, 7, none⟩ = some (.int .i64 p.seq) := cell_at hbx rfl
  have q8 : wb.cell? ⟨w.heap.size, 8, none⟩ = some (.int .i64 p.ack) := cell_at hbx rfl
  have q9 : wb.cell? ⟨w.heap.size, 9, none⟩ = some (.string p.load) := cell_at hbx rfl
  have p0 : wb.cell? ⟨P, 0, none⟩ = some (.pointer (some ⟨go, 0, none⟩)) := cell_at hrow rfl
  have hk := pair_ack_no (w := wb.drew) (hpb.below (Below.refl wb.heap.size wb).drew (Nat.le_refl _)) p (hno 1)
  have HK := Lib.hid hk
  clear hk
  have hno0 : ¬ (p.ch = s.i.ch ∧ p.inc = s.i.inc ∧ p.back = 0) := fun y => hno 0 ⟨y.1.trans hi.ch, y.2.1.trans hi.inc, y.2.2⟩
  have HNO := Lib.hid hno0
  clear hno0
  have hS : (fun w' => w'.cell? ⟨P, 0, none⟩ = some (.pointer (some ⟨go, 0, none⟩)) ∧ w'.cell? ⟨w.heap.size, 4, none⟩ = some (.int .i64 p.ch) ∧ w'.cell? ⟨w.heap.size, 5, none⟩ = some (.int .i64 p.back) ∧ w'.cell? ⟨w.heap.size, 6, none⟩ = some (.int .i64 p.inc) ∧ w'.cell? ⟨w.heap.size, 7, none⟩ = some (.int .i64 p.seq) ∧ w'.cell? ⟨w.heap.size, 8, none⟩ = some (.int .i64 p.ack) ∧ w'.cell? ⟨w.heap.size, 9, none⟩ = some (.string p.load) : World → Prop) wb.drew := ⟨p0, q4, q5, q6, q7, q8, q9⟩
  have HBX := Lib.hid hbx
  have HPB := Lib.hid hpb
  have HCB := Lib.hid hcb
  have HROW := Lib.hid hrow
  clear h hno hbx hpb hcb hrow
  go_enter Try.func37, Try.ntmps37
  go_wp2_with fail
  try rw [hwb]
  clear hwb
  refine AnyTo.region (m := 99) (S := fun w' => w'.cell? ⟨P, 0, none⟩ = some (.pointer (some ⟨go, 0, none⟩)) ∧ w'.cell? ⟨w.heap.size, 4, none⟩ = some (.int .i64 p.ch) ∧ w'.cell? ⟨w.heap.size, 5, none⟩ = some (.int .i64 p.back) ∧ w'.cell? ⟨w.heap.size, 6, none⟩ = some (.int .i64 p.inc) ∧ w'.cell? ⟨w.heap.size, 7, none⟩ = some (.int .i64 p.seq) ∧ w'.cell? ⟨w.heap.size, 8, none⟩ = some (.int .i64 p.ack) ∧ w'.cell? ⟨w.heap.size, 9, none⟩ = some (.string p.load)) mixed ?_
  refine AnyTo.takeA (i := 0) (v := ?va0) rfl (by kernel_rfl) (of_decide_eq_true (by kernel_rfl)) (by kernel_rfl) (by kernel_rfl) (fun _ _ _ h => h) (Or.inl ⟨by rfl, ?hya0⟩) hS ?resta0
  case hya0 => (intro w' hw'; (try dsimp only at hw'); go_simp; try (with_reducible rfl))
  refine AnyTo.takeA (i := 1) (v := ?va1) rfl (by kernel_rfl) (of_decide_eq_true (by kernel_rfl)) (by kernel_rfl) (by kernel_rfl) (fun _ _ _ h => h) (Or.inl ⟨by rfl, ?hya1⟩) hS ?resta1
  case hya1 => (intro w' hw'; (try dsimp only at hw'); go_simp; try (with_reducible rfl))
  refine AnyTo.takeA (i := 2) (v := ?va2) rfl (by kernel_rfl) (of_decide_eq_true (by kernel_rfl)) (by kernel_rfl) (by kernel_rfl) (fun _ _ _ h => h) (Or.inl ⟨by rfl, ?hya2⟩) hS ?resta2
  case hya2 => (intro w' hw'; (try dsimp only at hw'); go_simp; try (with_reducible rfl))
  refine AnyTo.takeA (i := 3) (v := ?va3) rfl (by kernel_rfl) (of_decide_eq_true (by kernel_rfl)) (by kernel_rfl) (by kernel_rfl) (fun _ _ _ h => h) (Or.inl ⟨by rfl, ?hya3⟩) hS ?resta3
  case hya3 => (intro w' hw'; (try dsimp only at hw'); go_simp; try (with_reducible rfl))
  refine AnyTo.takeA (i := 4) (v := ?va4) rfl (by kernel_rfl) (of_decide_eq_true (by kernel_rfl)) (by kernel_rfl) (by kernel_rfl) (fun _ _ _ h => h) (Or.inl ⟨by rfl, ?hya4⟩) hS ?resta4
  case hya4 => (intro w' hw'; (try dsimp only at hw'); go_simp; try (with_reducible rfl))
  refine AnyTo.takeA (i := 5) (v := ?va5) rfl (by kernel_rfl) (of_decide_eq_true (by kernel_rfl)) (by kernel_rfl) (by kernel_rfl) (fun _ _ _ h => h) (Or.inl ⟨by rfl, ?hya5⟩) hS ?resta5
  case hya5 => (intro w' hw'; (try dsimp only at hw'); go_simp; try (with_reducible rfl))
  try simp only [Act.put, List.setIfInBounds_toArray, List.set_cons_zero, List.set_cons_succ]
  refine AnyTo.step (i := 6) (by kernel_rfl) rfl (fun K hK => ?_)
  go_simp
  go_at_call 12
  refine HK.out.mono ?_
  rintro e w3 ⟨rfl, b3⟩
  have r3 := below_heap b3 (w := wb.drew) HROW.out (heap_lt HROW.out)
  have x3 := below_heap b3 (w := wb.drew) HBX.out (heap_lt HBX.out)
  have HB3 : Hid (Below wb.heap.size wb w3) := ⟨b3.os, b3.tape, b3.output, b3.size, b3.block⟩
  clear b3
  go_wp2_with fail
  refine hK.out _ _ (fun _ => ⟨cell_at r3 rfl, cell_at x3 rfl, cell_at x3 rfl, cell_at x3 rfl, cell_at x3 rfl, cell_at x3 rfl, cell_at x3 rfl⟩) ?_
  clear hK K
  try simp only [Act.put, List.setIfInBounds_toArray, List.set_cons_zero, List.set_cons_succ]
  refine AnyTo.done (by kernel_rfl) ?_
  clear p0 q4 q5 q6 q7 q8 q9 hS HK
  have HR3 := Lib.hid r3
  have HX3 := Lib.hid x3
  have hk := pair_in_no (w := w3.drew) ((HPB.out.below HB3.out (Nat.le_refl _)).below (Below.refl w3.heap.size w3).drew (Nat.le_refl _)) p HNO.out
  have HK := Lib.hid hk
  have hz3 := HB3.out.size
  clear hk r3 x3
  have hS : (fun w' => w'.cell? ⟨P, 1, none⟩ = some (.pointer (some ⟨gi, 0, none⟩)) ∧ w'.cell? ⟨w.heap.size, 4, none⟩ = some (.int .i64 p.ch) ∧ w'.cell? ⟨w.heap.size, 5, none⟩ = some (.int .i64 p.back) ∧ w'.cell? ⟨w.heap.size, 6, none⟩ = some (.int .i64 p.inc) ∧ w'.cell? ⟨w.heap.size, 7, none⟩ = some (.int .i64 p.seq) ∧ w'.cell? ⟨w.heap.size, 8, none⟩ = some (.int .i64 p.ack) ∧ w'.cell? ⟨w.heap.size, 9, none⟩ = some (.string p.load) : World → Prop) w3.drew := ⟨cell_at HR3.out rfl, cell_at HX3.out rfl, cell_at HX3.out rfl, cell_at HX3.out rfl, cell_at HX3.out rfl, cell_at HX3.out rfl, cell_at HX3.out rfl⟩
  go_wp2_with fail
  refine AnyTo.region (m := 99) (S := fun w' => w'.cell? ⟨P, 1, none⟩ = some (.pointer (some ⟨gi, 0, none⟩)) ∧ w'.cell? ⟨w.heap.size, 4, none⟩ = some (.int .i64 p.ch) ∧ w'.cell? ⟨w.heap.size, 5, none⟩ = some (.int .i64 p.back) ∧ w'.cell? ⟨w.heap.size, 6, none⟩ = some (.int .i64 p.inc) ∧ w'.cell? ⟨w.heap.size, 7, none⟩ = some (.int .i64 p.seq) ∧ w'.cell? ⟨w.heap.size, 8, none⟩ = some (.int .i64 p.ack) ∧ w'.cell? ⟨w.heap.size, 9, none⟩ = some (.string p.load)) mixed ?_
  refine AnyTo.takeA (i := 0) (v := ?vb0) rfl (by kernel_rfl) (of_decide_eq_true (by kernel_rfl)) (by kernel_rfl) (by kernel_rfl) (fun _ _ _ h => h) (Or.inl ⟨by rfl, ?hyb0⟩) hS ?restb0
  case hyb0 => (intro w' hw'; (try dsimp only at hw'); go_simp; try (with_reducible rfl))
  refine AnyTo.takeA (i := 1) (v := ?vb1) rfl (by kernel_rfl) (of_decide_eq_true (by kernel_rfl)) (by kernel_rfl) (by kernel_rfl) (fun _ _ _ h => h) (Or.inl ⟨by rfl, ?hyb1⟩) hS ?restb1
  case hyb1 => (intro w' hw'; (try dsimp only at hw'); go_simp; try (with_reducible rfl))
  refine AnyTo.takeA (i := 2) (v := ?vb2) rfl (by kernel_rfl) (of_decide_eq_true (by kernel_rfl)) (by kernel_rfl) (by kernel_rfl) (fun _ _ _ h => h) (Or.inl ⟨by rfl, ?hyb2⟩) hS ?restb2
  case hyb2 => (intro w' hw'; (try dsimp only at hw'); go_simp; try (with_reducible rfl))
  refine AnyTo.takeA (i := 3) (v := ?vb3) rfl (by kernel_rfl) (of_decide_eq_true (by kernel_rfl)) (by kernel_rfl) (by kernel_rfl) (fun _ _ _ h => h) (Or.inl ⟨by rfl, ?hyb3⟩) hS ?restb3
  case hyb3 => (intro w' hw'; (try dsimp only at hw'); go_simp; try (with_reducible rfl))
  refine AnyTo.takeA (i := 4) (v := ?vb4) rfl (by kernel_rfl) (of_decide_eq_true (by kernel_rfl)) (by kernel_rfl) (by kernel_rfl) (fun _ _ _ h => h) (Or.inl ⟨by rfl, ?hyb4⟩) hS ?restb4
  case hyb4 => (intro w' hw'; (try dsimp only at hw'); go_simp; try (with_reducible rfl))
  refine AnyTo.takeA (i := 5) (v := ?vb5) rfl (by kernel_rfl) (of_decide_eq_true (by kernel_rfl)) (by kernel_rfl) (by kernel_rfl) (fun _ _ _ h => h) (Or.inl ⟨by rfl, ?hyb5⟩) hS ?restb5
  case hyb5 => (intro w' hw'; (try dsimp only at hw'); go_simp; try (with_reducible rfl))
  try simp only [Act.put, List.setIfInBounds_toArray, List.set_cons_zero, List.set_cons_succ]
  refine AnyTo.step (i := 6) (by kernel_rfl) rfl (fun K hK => ?_)
  go_simp
  go_at_call 20
  refine HK.out.mono ?_
  rintro e w4 ⟨rfl, b4⟩
  have r4 := below_heap b4 (w := w3.drew) HR3.out (heap_lt HR3.out)
  have x4 := below_heap b4 (w := w3.drew) HX3.out (heap_lt HX3.out)
  have HB4 : Hid (Below w3.heap.size w3 w4) := ⟨b4.os, b4.tape, b4.output, b4.size, b4.block⟩
  clear b4
  go_wp2_with fail
  refine hK.out _ _ (fun _ => ⟨cell_at r4 rfl, cell_at x4 rfl, cell_at x4 rfl, cell_at x4 rfl, cell_at x4 rfl, cell_at x4 rfl, cell_at x4 rfl⟩) ?_
  clear hK K
  try simp only [Act.put, List.setIfInBounds_toArray, List.set_cons_zero, List.set_cons_succ]
  refine AnyTo.step (i := 7) (by kernel_rfl) rfl (fun K hK => ?_)
  go_simp
  try go_wp2_with fail
  refine hK.out _ _ (fun _ => ⟨cell_at r4 rfl, cell_at x4 rfl, cell_at x4 rfl, cell_at x4 rfl, cell_at x4 rfl, cell_at x4 rfl, cell_at x4 rfl⟩) ?_
  clear hK K
  try simp only [Act.put, List.setIfInBounds_toArray, List.set_cons_zero, List.set_cons_succ]
  refine AnyTo.step (i := 8) (by kernel_rfl) rfl (fun K hK => ?_)
  go_simp
  try go_wp2_with fail
  refine hK.out _ _ (fun _ => ⟨cell_at r4 rfl, cell_at x4 rfl, cell_at x4 rfl, cell_at x4 rfl, cell_at x4 rfl, cell_at x4 rfl, cell_at x4 rfl⟩) ?_
  clear hK K
  try simp only [Act.put, List.setIfInBounds_toArray, List.set_cons_zero, List.set_cons_succ]
  refine AnyTo.step (i := 9) (by kernel_rfl) rfl (fun K hK => ?_)
  go_simp
  try go_wp2_with fail
  refine hK.out _ _ (fun _ => ⟨cell_at r4 rfl, cell_at x4 rfl, cell_at x4 rfl, cell_at x4 rfl, cell_at x4 rfl, cell_at x4 rfl, cell_at x4 rfl⟩) ?_
  clear hK K
  try simp only [Act.put, List.setIfInBounds_toArray, List.set_cons_zero, List.set_cons_succ]
  refine AnyTo.done (by kernel_rfl) ?_
  go_wp2_with fail
  go_ret
  exact OpPost.mk0 HCB.out HPB.out (HB3.out.trans (HB4.out.mono hz3))

set_option maxRecDepth 100000 in
set_option maxHeartbeats 1600000 in
theorem op_7_inc (w : World) (F : Nat → Prop) (P go gi gw N : Nat) (s : PSt) (c n a b : Int) (x : ByteArray) (p : Pk) (h : PairAt w F P go gi gw s) (hi : Inv N s) (hN : N ≤ 1000) (hc : (p.ch != c) = false) (hn : (p.inc != n) = true) (hno : ∀ bk : Int, ¬ (p.ch = s.o.ch ∧ p.inc = s.o.inc ∧ p.back = bk)) :
    Calls Try.prog 37 #[.pointer (some ⟨P, 0, none⟩), .agg #[.int .i64 7, .int .i64 a, .int .i64 b, .string x, .int .i64 p.ch, .int .i64 p.back, .int .i64 p.inc, .int .i64 p.seq, .int .i64 p.ack, .string p.load], .int .i64 c, .int .i64 n] w (OpPost w F P go gi gw s) := by
  have h64 := hi.wire
  obtain ⟨wb, hwb⟩ : ∃ wb, w.alloc (.cells #[.int .i64 7, .int .i64 a, .int .i64 b, .string x, .int .i64 p.ch, .int .i64 p.back, .int .i64 p.inc, .int .i64 p.seq, .int .i64 p.ack, .string p.load] 66) = wb := ⟨_, rfl⟩
  have hbx : wb.heap[w.heap.size]? = some (.cells #[.int .i64 7, .int .i64 a, .int .i64 b, .string x, .int .i64 p.ch, .int .i64 p.back, .int .i64 p.inc, .int .i64 p.seq, .int .i64 p.ack, .string p.load] 66) := by rw [← hwb]; exact heap_alloc_new w _
  have hpb : PairAt wb (fun k => F k ∧ k < w.heap.size) P go gi gw s := by rw [← hwb]; exact h.tight.below ((Below.refl w.heap.size w).alloc (Nat.le_refl _) _) (Nat.le_refl _)
  have hcb : Chg w wb F := by rw [← hwb]; exact (Chg.refl w F).alloc _
  have hzb : w.heap.size ≤ wb.heap.size := hcb.size
  have hXb : w.heap.size < wb.heap.size := heap_lt hbx
  obtain ⟨a1, c1, a2, c2, hrow⟩ := hpb.row
  have hPlt := heap_lt hrow
  have mixed : Try.prog.follows .mixedOrders = true := by kernel_rfl
  have q0 : wb.cell? ⟨w.heap.size, 0, none⟩ = some (.int .i64 7) := cell_at hbx rfl
  have q4 : wb.cell? ⟨w.heap.size, 4, none⟩ = some (.int .i64 p.ch) := cell_at hbx rfl
  have q5 : wb.cell? ⟨w.heap.size, 5, none⟩ = some (.int .i64 p.back) := cell_at hbx rfl
  have q6 : wb.cell? ⟨w.heap.size, 6, none⟩ = some (.int .i64 p.inc) := cell_at hbx rfl
  have q7 : wb.cell? ⟨w.heap.size, 7, none⟩ = some (.int .i64 p.seq) := cell_at hbx rfl
  have q8 : wb.cell? ⟨w.heap.size, 8, none⟩ = some (.int .i64 p.ack) := cell_at hbx rfl
  have q9 : wb.cell? ⟨w.heap.size, 9, none⟩ = some (.string p.load) := cell_at hbx rfl
  have p0 : wb.cell? ⟨P, 0, none⟩ = some (.pointer (some ⟨go, 0, none⟩)) := cell_at hrow rfl
  have hk := pair_ack_no (w := wb.drew) (hpb.below (Below.refl wb.heap.size wb).drew (Nat.le_refl _)) p (hno 1)
  have HK := Lib.hid hk
  clear hk
  have hno0 : ¬ (p.ch = s.i.ch ∧ p.inc = s.i.inc ∧ p.back = 0) := fun y => hno 0 ⟨y.1.trans hi.ch, y.2.1.trans hi.inc, y.2.2⟩
  have HNO := Lib.hid hno0
  clear hno0
  have hS : (fun w' => w'.cell? ⟨P, 0, none⟩ = some (.pointer (some ⟨go, 0, none⟩)) ∧ w'.cell? ⟨w.heap.size, 4, none⟩ = some (.int .i64 p.ch) ∧ w'.cell? ⟨w.heap.size, 5, none⟩ = some (.int .i64 p.back) ∧ w'.cell? ⟨w.heap.size, 6, none⟩ = some (.int .i64 p.inc) ∧ w'.cell? ⟨w.heap.size, 7, none⟩ = some (.int .i64 p.seq) ∧ w'.cell? ⟨w.heap.size, 8, none⟩ = some (.int .i64 p.ack) ∧ w'.cell? ⟨w.heap.size, 9, none⟩ = some (.string p.load) : World → Prop) wb.drew := ⟨p0, q4, q5, q6, q7, q8, q9⟩
  have HBX := Lib.hid hbx
  have HPB := Lib.hid hpb
  have HCB := Lib.hid hcb
  have HROW := Lib.hid hrow
  clear h hno hbx hpb hcb hrow
  go_enter Try.func37, Try.ntmps37
  go_wp2_with fail
  try rw [hwb]
  clear hwb
  refine AnyTo.region (m := 99) (S := fun w' => w'.cell? ⟨P, 0, none⟩ = some (.pointer (some ⟨go, 0, none⟩)) ∧ w'.cell? ⟨w.heap.size, 4, none⟩ = some (.int .i64 p.ch) ∧ w'.cell? ⟨w.heap.size, 5, none⟩ = some (.int .i64 p.back) ∧ w'.cell? ⟨w.heap.size, 6, none⟩ = some (.int .i64 p.inc) ∧ w'.cell? ⟨w.heap.size, 7, none⟩ = some (.int .i64 p.seq) ∧ w'.cell? ⟨w.heap.size, 8, none⟩ = some (.int .i64 p.ack) ∧ w'.cell? ⟨w.heap.size, 9, none⟩ = some (.string p.load)) mixed ?_
  refine AnyTo.takeA (i := 0) (v := ?va0) rfl (by kernel_rfl) (of_decide_eq_true (by kernel_rfl)) (by kernel_rfl) (by kernel_rfl) (fun _ _ _ h => h) (Or.inl ⟨by rfl, ?hya0⟩) hS ?resta0
  case hya0 => (intro w' hw'; (try dsimp only at hw'); go_simp; try (with_reducible rfl))
  refine AnyTo.takeA (i := 1) (v := ?va1) rfl (by kernel_rfl) (of_decide_eq_true (by kernel_rfl)) (by kernel_rfl) (by kernel_rfl) (fun _ _ _ h => h) (Or.inl ⟨by rfl, ?hya1⟩) hS ?resta1
  case hya1 => (intro w' hw'; (try dsimp only at hw'); go_simp; try (with_reducible rfl))
  refine AnyTo.takeA (i := 2) (v := ?va2) rfl (by kernel_rfl) (of_decide_eq_true (by kernel_rfl)) (by kernel_rfl) (by kernel_rfl) (fun _ _ _ h => h) (Or.inl ⟨by rfl, ?hya2⟩) hS ?resta2
  case hya2 => (intro w' hw'; (try dsimp only at hw'); go_simp; try (with_reducible rfl))
  refine AnyTo.takeA (i := 3) (v := ?va3) rfl (by kernel_rfl) (of_decide_eq_true (by kernel_rfl)) (by kernel_rfl) (by kernel_rfl) (fun _ _ _ h => h) (Or.inl ⟨by rfl, ?hya3⟩) hS ?resta3
  case hya3 => (intro w' hw'; (try dsimp only at hw'); go_simp; try (with_reducible rfl))
  refine AnyTo.takeA (i := 4) (v := ?va4) rfl (by kernel_rfl) (of_decide_eq_true (by kernel_rfl)) (by kernel_rfl) (by kernel_rfl) (fun _ _ _ h => h) (Or.inl ⟨by rfl, ?hya4⟩) hS ?resta4
  case hya4 => (intro w' hw'; (try dsimp only at hw'); go_simp; try (with_reducible rfl))
  refine AnyTo.takeA (i := 5) (v := ?va5) rfl (by kernel_rfl) (of_decide_eq_true (by kernel_rfl)) (by kernel_rfl) (by kernel_rfl) (fun _ _ _ h => h) (Or.inl ⟨by rfl, ?hya5⟩) hS ?resta5
  case hya5 => (intro w' hw'; (try dsimp only at hw'); go_simp; try (with_reducible rfl))
  try simp only [Act.put, List.setIfInBounds_toArray, List.set_cons_zero, List.set_cons_succ]
  refine AnyTo.step (i := 6) (by kernel_rfl) rfl (fun K hK => ?_)
  go_simp
  go_at_call 12
  refine HK.out.mono ?_
  rintro e w3 ⟨rfl, b3⟩
  have r3 := below_heap b3 (w := wb.drew) HROW.out (heap_lt HROW.out)
  have x3 := below_heap b3 (w := wb.drew) HBX.out (heap_lt HBX.out)
  have HB3 : Hid (Below wb.heap.size wb w3) := ⟨b3.os, b3.tape, b3.output, b3.size, b3.block⟩
  clear b3
  go_wp2_with fail
  refine hK.out _ _ (fun _ => ⟨cell_at r3 rfl, cell_at x3 rfl, cell_at x3 rfl, cell_at x3 rfl, cell_at x3 rfl, cell_at x3 rfl, cell_at x3 rfl⟩) ?_
  clear hK K
  try simp only [Act.put, List.setIfInBounds_toArray, List.set_cons_zero, List.set_cons_succ]
  refine AnyTo.done (by kernel_rfl) ?_
  clear p0 q4 q5 q6 q7 q8 q9 hS HK
  have HR3 := Lib.hid r3
  have HX3 := Lib.hid x3
  have hk := pair_in_no (w := w3.drew) ((HPB.out.below HB3.out (Nat.le_refl _)).below (Below.refl w3.heap.size w3).drew (Nat.le_refl _)) p HNO.out
  have HK := Lib.hid hk
  have hz3 := HB3.out.size
  clear hk r3 x3
  have hS : (fun w' => w'.cell? ⟨P, 1, none⟩ = some (.pointer (some ⟨gi, 0, none⟩)) ∧ w'.cell? ⟨w.heap.size, 4, none⟩ = some (.int .i64 p.ch) ∧ w'.cell? ⟨w.heap.size, 5, none⟩ = some (.int .i64 p.back) ∧ w'.cell? ⟨w.heap.size, 6, none⟩ = some (.int .i64 p.inc) ∧ w'.cell? ⟨w.heap.size, 7, none⟩ = some (.int .i64 p.seq) ∧ w'.cell? ⟨w.heap.size, 8, none⟩ = some (.int .i64 p.ack) ∧ w'.cell? ⟨w.heap.size, 9, none⟩ = some (.string p.load) : World → Prop) w3.drew := ⟨cell_at HR3.out rfl, cell_at HX3.out rfl, cell_at HX3.out rfl, cell_at HX3.out rfl, cell_at HX3.out rfl, cell_at HX3.out rfl, cell_at HX3.out rfl⟩
  go_wp2_with fail
  refine AnyTo.region (m := 99) (S := fun w' => w'.cell? ⟨P, 1, none⟩ = some (.pointer (some ⟨gi, 0, none⟩)) ∧ w'.cell? ⟨w.heap.size, 4, none⟩ = some (.int .i64 p.ch) ∧ w'.cell? ⟨w.heap.size, 5, none⟩ = some (.int .i64 p.back) ∧ w'.cell? ⟨w.heap.size, 6, none⟩ = some (.int .i64 p.inc) ∧ w'.cell? ⟨w.heap.size, 7, none⟩ = some (.int .i64 p.seq) ∧ w'.cell? ⟨w.heap.size, 8, none⟩ = some (.int .i64 p.ack) ∧ w'.cell? ⟨w.heap.size, 9, none⟩ = some (.string p.load)) mixed ?_
  refine AnyTo.takeA (i := 0) (v := ?vb0) rfl (by kernel_rfl) (of_decide_eq_true (by kernel_rfl)) (by kernel_rfl) (by kernel_rfl) (fun _ _ _ h => h) (Or.inl ⟨by rfl, ?hyb0⟩) hS ?restb0
  case hyb0 => (intro w' hw'; (try dsimp only at hw'); go_simp; try (with_reducible rfl))
  refine AnyTo.takeA (i := 1) (v := ?vb1) rfl (by kernel_rfl) (of_decide_eq_true (by kernel_rfl)) (by kernel_rfl) (by kernel_rfl) (fun _ _ _ h => h) (Or.inl ⟨by rfl, ?hyb1⟩) hS ?restb1
  case hyb1 => (intro w' hw'; (try dsimp only at hw'); go_simp; try (with_reducible rfl))
  refine AnyTo.takeA (i := 2) (v := ?vb2) rfl (by kernel_rfl) (of_decide_eq_true (by kernel_rfl)) (by kernel_rfl) (by kernel_rfl) (fun _ _ _ h => h) (Or.inl ⟨by rfl, ?hyb2⟩) hS ?restb2
  case hyb2 => (intro w' hw'; (try dsimp only at hw'); go_simp; try (with_reducible rfl))
  refine AnyTo.takeA (i := 3) (v := ?vb3) rfl (by kernel_rfl) (of_decide_eq_true (by kernel_rfl)) (by kernel_rfl) (by kernel_rfl) (fun _ _ _ h => h) (Or.inl ⟨by rfl, ?hyb3⟩) hS ?restb3
  case hyb3 => (intro w' hw'; (try dsimp only at hw'); go_simp; try (with_reducible rfl))
  refine AnyTo.takeA (i := 4) (v := ?vb4) rfl (by kernel_rfl) (of_decide_eq_true (by kernel_rfl)) (by kernel_rfl) (by kernel_rfl) (fun _ _ _ h => h) (Or.inl ⟨by rfl, ?hyb4⟩) hS ?restb4
  case hyb4 => (intro w' hw'; (try dsimp only at hw'); go_simp; try (with_reducible rfl))
  refine AnyTo.takeA (i := 5) (v := ?vb5) rfl (by kernel_rfl) (of_decide_eq_true (by kernel_rfl)) (by kernel_rfl) (by kernel_rfl) (fun _ _ _ h => h) (Or.inl ⟨by rfl, ?hyb5⟩) hS ?restb5
  case hyb5 => (intro w' hw'; (try dsimp only at hw'); go_simp; try (with_reducible rfl))
  try simp only [Act.put, List.setIfInBounds_toArray, List.set_cons_zero, List.set_cons_succ]
  refine AnyTo.step (i := 6) (by kernel_rfl) rfl (fun K hK => ?_)
  go_simp
  go_at_call 20
  refine HK.out.mono ?_
  rintro e w4 ⟨rfl, b4⟩
  have r4 := below_heap b4 (w := w3.drew) HR3.out (heap_lt HR3.out)
  have x4 := below_heap b4 (w := w3.drew) HX3.out (heap_lt HX3.out)
  have HB4 : Hid (Below w3.heap.size w3 w4) := ⟨b4.os, b4.tape, b4.output, b4.size, b4.block⟩
  clear b4
  go_wp2_with fail
  refine hK.out _ _ (fun _ => ⟨cell_at r4 rfl, cell_at x4 rfl, cell_at x4 rfl, cell_at x4 rfl, cell_at x4 rfl, cell_at x4 rfl, cell_at x4 rfl⟩) ?_
  clear hK K
  try simp only [Act.put, List.setIfInBounds_toArray, List.set_cons_zero, List.set_cons_succ]
  refine AnyTo.step (i := 7) (by kernel_rfl) rfl (fun K hK => ?_)
  go_simp
  try go_wp2_with fail
  refine hK.out _ _ (fun _ => ⟨cell_at r4 rfl, cell_at x4 rfl, cell_at x4 rfl, cell_at x4 rfl, cell_at x4 rfl, cell_at x4 rfl, cell_at x4 rfl⟩) ?_
  clear hK K
  try simp only [Act.put, List.setIfInBounds_toArray, List.set_cons_zero, List.set_cons_succ]
  refine AnyTo.step (i := 8) (by kernel_rfl) rfl (fun K hK => ?_)
  go_simp
  try go_wp2_with fail
  refine hK.out _ _ (fun _ => ⟨cell_at r4 rfl, cell_at x4 rfl, cell_at x4 rfl, cell_at x4 rfl, cell_at x4 rfl, cell_at x4 rfl, cell_at x4 rfl⟩) ?_
  clear hK K
  try simp only [Act.put, List.setIfInBounds_toArray, List.set_cons_zero, List.set_cons_succ]
  refine AnyTo.step (i := 9) (by kernel_rfl) rfl (fun K hK => ?_)
  go_simp
  try go_wp2_with fail
  refine hK.out _ _ (fun _ => ⟨cell_at r4 rfl, cell_at x4 rfl, cell_at x4 rfl, cell_at x4 rfl, cell_at x4 rfl, cell_at x4 rfl, cell_at x4 rfl⟩) ?_
  clear hK K
  try simp only [Act.put, List.setIfInBounds_toArray, List.set_cons_zero, List.set_cons_succ]
  refine AnyTo.done (by kernel_rfl) ?_
  go_wp2_with fail
  go_ret
  exact OpPost.mk0 HCB.out HPB.out (HB3.out.trans (HB4.out.mono hz3))
end Go.Proofs.Ytecpgkcoehnpbaa
