/- Layer 17: the laws' own op: a load is sent. -/
import Derived.Test.YtecpgkcoehnpbaaLinkU
import Derived.Deep.RegionLaw
namespace Go.Proofs.Ytecpgkcoehnpbaa
open Go.RowKit

set_option maxRecDepth 100000 in
set_option maxHeartbeats 1600000 in
theorem op_0_empty (w : World) (F : Nat → Prop) (P go gi gw N : Nat) (s : PSt) (c n a b : Int) (x : ByteArray) (p : Pk) (h : PairAt w F P go gi gw s) (hi : Inv N s) (hN : N ≤ 1000) (hx : x.toList = []) :
    Calls Try.prog 37 #[.pointer (some ⟨P, 0, none⟩), .agg #[.int .i64 0, .int .i64 a, .int .i64 b, .string x, .int .i64 p.ch, .int .i64 p.back, .int .i64 p.inc, .int .i64 p.seq, .int .i64 p.ack, .string p.load], .int .i64 c, .int .i64 n] w (OpPost w F P go gi gw s) := by
  have h64 := hi.wire
  obtain ⟨wb, hwb⟩ : ∃ wb, w.alloc (.cells #[.int .i64 0, .int .i64 a, .int .i64 b, .string x, .int .i64 p.ch, .int .i64 p.back, .int .i64 p.inc, .int .i64 p.seq, .int .i64 p.ack, .string p.load] 66) = wb := ⟨_, rfl⟩
  have hbx : wb.heap[w.heap.size]? = some (.cells #[.int .i64 0, .int .i64 a, .int .i64 b, .string x, .int .i64 p.ch, .int .i64 p.back, .int .i64 p.inc, .int .i64 p.seq, .int .i64 p.ack, .string p.load] 66) := by rw [← hwb]; exact heap_alloc_new w _
  have hpb : PairAt wb (fun k => F k ∧ k < w.heap.size) P go gi gw s := by rw [← hwb]; exact h.tight.below ((Below.refl w.heap.size w).alloc (Nat.le_refl _) _) (Nat.le_refl _)
  have hcb : Chg w wb F := by rw [← hwb]; exact (Chg.refl w F).alloc _
  have hzb : w.heap.size ≤ wb.heap.size := hcb.size
  have hXb : w.heap.size < wb.heap.size := heap_lt hbx
  obtain ⟨a1, c1, a2, c2, hrow⟩ := hpb.row
  have hPlt := heap_lt hrow
  have mixed : Try.prog.follows .mixedOrders = true := by kernel_rfl
  have q0 : wb.cell? ⟨w.heap.size, 0, none⟩ = some (.int .i64 0) := cell_at hbx rfl
  have q3 : wb.cell? ⟨w.heap.size, 3, none⟩ = some (.string x) := cell_at hbx rfl
  have p0 : wb.cell? ⟨P, 0, none⟩ = some (.pointer (some ⟨go, 0, none⟩)) := cell_at hrow rfl
  have hfree := pair_free hpb hi
  have hk := pair_osend_empty (w := wb.drew) (hpb.below (Below.refl wb.heap.size wb).drew (Nat.le_refl _)) x hx
  have HK := Lib.hid hk
  clear hk
  have hle : x.toList.isEmpty = true := by rw [hx]; rfl
  have HFR := Lib.hid hfree
  clear hfree
  have hS : (fun w' => w'.cell? ⟨P, 0, none⟩ = some (.pointer (some ⟨go, 0, none⟩)) ∧ w'.cell? ⟨w.heap.size, 3, none⟩ = some (.string x) : World → Prop) wb.drew := ⟨p0, q3⟩
  have HBX := Lib.hid hbx
  have HPB := Lib.hid hpb
  have HCB := Lib.hid hcb
  have HROW := Lib.hid hrow
  clear h hi hx hbx hpb hcb hrow
  go_enter Try.func37, Try.ntmps37
  go_wp2_with fail
  try rw [hwb]
  clear hwb
  refine HFR.out.mono ?_
  rintro e w2 ⟨rfl, rfl⟩
  go_wp2_with fail
  refine AnyTo.region (m := 99) (S := fun w' => w'.cell? ⟨P, 0, none⟩ = some (.pointer (some ⟨go, 0, none⟩)) ∧ w'.cell? ⟨w.heap.size, 3, none⟩ = some (.string x)) mixed ?_
  refine AnyTo.takeA (i := 0) (v := ?va0) rfl (by kernel_rfl) (of_decide_eq_true (by kernel_rfl)) (by kernel_rfl) (by kernel_rfl) (fun _ _ _ h => h) (Or.inl ⟨by rfl, ?hya0⟩) hS ?resta0
  case hya0 => (intro w' hw'; (try dsimp only at hw'); go_simp; try (with_reducible rfl))
  refine AnyTo.takeA (i := 1) (v := ?va1) rfl (by kernel_rfl) (of_decide_eq_true (by kernel_rfl)) (by kernel_rfl) (by kernel_rfl) (fun _ _ _ h => h) (Or.inl ⟨by rfl, ?hya1⟩) hS ?resta1
  case hya1 => (intro w' hw'; (try dsimp only at hw'); go_simp; try (with_reducible rfl))
  refine AnyTo.takeA (i := 2) (v := ?va2) rfl (by kernel_rfl) (of_decide_eq_true (by kernel_rfl)) (by kernel_rfl) (by kernel_rfl) (fun _ _ _ h => h) (Or.inl ⟨by rfl, ?hya2⟩) hS ?resta2
  case hya2 => (intro w' hw'; (try dsimp only at hw'); go_simp; try (with_reducible rfl))
  refine AnyTo.takeA (i := 3) (v := ?va3) rfl (by kernel_rfl) (of_decide_eq_true (by kernel_rfl)) (by kernel_rfl) (by kernel_rfl) (fun _ _ _ h => h) (Or.inl ⟨by rfl, ?hya3⟩) hS ?resta3
  case hya3 => (intro w' hw'; (try dsimp only at hw'); go_simp; try (with_reducible rfl))
  refine AnyTo.takeA (i := 4) (v := ?va4) rfl (by kernel_rfl) (of_decide_eq_true (by kernel_rfl)) (by kernel_rfl) (by kernel_rfl) (fun _ _ _ h => h) (Or.inl ⟨by rfl, ?hya4⟩) hS ?resta4
  case hya4 => (intro w' hw'; (try dsimp only at hw'); go_simp; try (with_reducible rfl))
  refine AnyTo.takeA (i := 5) (v := ?va5) rfl (by kernel_rfl) (of_decide_eq_true (by kernel_rfl)) (by kernel_rfl) (by kernel_rfl) (fun _ _ _ h => h) (Or.inl ⟨by rfl, ?hya5⟩) hS ?resta5
  case hya5 => (intro w' hw'; (try dsimp only at hw'); go_simp; try (with_reducible rfl))
  try simp only [Act.put, List.setIfInBounds_toArray, List.set_cons_zero, List.set_cons_succ]
  refine AnyTo.step (i := 6) (by kernel_rfl) rfl (fun K hK => ?_)
  go_simp
  go_at_call 13
  refine HK.out.mono ?_
  rintro e w3 ⟨rfl, rfl⟩
  have HR3 : Hid (wb.drew.heap[P]? = _) := HROW
  have HX3 : Hid (wb.drew.heap[w.heap.size]? = _) := HBX
  go_wp2_with fail
  refine hK.out _ _ (fun _ => hS) ?_
  clear hK K
  try simp only [Act.put, List.setIfInBounds_toArray, List.set_cons_zero, List.set_cons_succ]
  refine AnyTo.takeA (i := 7) (v := ?vb7) rfl (by kernel_rfl) (of_decide_eq_true (by kernel_rfl)) (by kernel_rfl) (by kernel_rfl) (fun _ _ _ h => h) (Or.inl ⟨by rfl, ?hyb7⟩) ⟨cell_at HR3.out rfl, cell_at HX3.out rfl⟩ ?restb7
  case hyb7 => (intro w' hw'; (try dsimp only at hw'); go_simp; try (with_reducible rfl))
  try simp only [Act.put, List.setIfInBounds_toArray, List.set_cons_zero, List.set_cons_succ]
  refine AnyTo.takeA (i := 8) (v := ?vb8) rfl (by kernel_rfl) (of_decide_eq_true (by kernel_rfl)) (by kernel_rfl) (by kernel_rfl) (fun _ _ _ h => h) (Or.inl ⟨by rfl, ?hyb8⟩) ⟨cell_at HR3.out rfl, cell_at HX3.out rfl⟩ ?restb8
  case hyb8 => (intro w' hw'; (try dsimp only at hw'); go_simp; try (with_reducible rfl))
  try simp only [Act.put, List.setIfInBounds_toArray, List.set_cons_zero, List.set_cons_succ]
  refine AnyTo.takeA (i := 9) (v := ?vb9) rfl (by kernel_rfl) (of_decide_eq_true (by kernel_rfl)) (by kernel_rfl) (by kernel_rfl) (fun _ _ _ h => h) (Or.inl ⟨by rfl, ?hyb9⟩) ⟨cell_at HR3.out rfl, cell_at HX3.out rfl⟩ ?restb9
  case hyb9 => (intro w' hw'; (try dsimp only at hw'); go_simp; try (with_reducible rfl))
  try simp only [Act.put, List.setIfInBounds_toArray, List.set_cons_zero, List.set_cons_succ]
  refine AnyTo.takeA (i := 10) (v := ?vb10) rfl (by kernel_rfl) (of_decide_eq_true (by kernel_rfl)) (by kernel_rfl) (by kernel_rfl) (fun _ _ _ h => h) (Or.inl ⟨by rfl, ?hyb10⟩) ⟨cell_at HR3.out rfl, cell_at HX3.out rfl⟩ ?restb10
  case hyb10 => (intro w' hw'; (try dsimp only at hw'); go_simp; try (with_reducible rfl))
  try simp only [Act.put, List.setIfInBounds_toArray, List.set_cons_zero, List.set_cons_succ]
  refine AnyTo.takeA (i := 11) (v := ?vb11) rfl (by kernel_rfl) (of_decide_eq_true (by kernel_rfl)) (by kernel_rfl) (by kernel_rfl) (fun _ _ _ h => h) (Or.inl ⟨by rfl, ?hyb11⟩) ⟨cell_at HR3.out rfl, cell_at HX3.out rfl⟩ ?restb11
  case hyb11 => (intro w' hw'; (try dsimp only at hw'); go_simp; try (with_reducible rfl))
  try simp only [Act.put, List.setIfInBounds_toArray, List.set_cons_zero, List.set_cons_succ]
  refine AnyTo.done (by kernel_rfl) ?_
  go_wp2_with fail
  go_ret
  exact OpPost.mk0 HCB.out HPB.out ((Below.refl wb.heap.size wb).drew)

set_option maxRecDepth 100000 in
set_option maxHeartbeats 1600000 in
theorem op_0_full (w : World) (F : Nat → Prop) (P go gi gw N : Nat) (s : PSt) (c n a b : Int) (x : ByteArray) (p : Pk) (h : PairAt w F P go gi gw s) (hi : Inv N s) (hN : N ≤ 1000) (hx : x.toList ≠ []) (h6 : s.o.waits.length = 6) :
    Calls Try.prog 37 #[.pointer (some ⟨P, 0, none⟩), .agg #[.int .i64 0, .int .i64 a, .int .i64 b, .string x, .int .i64 p.ch, .int .i64 p.back, .int .i64 p.inc, .int .i64 p.seq, .int .i64 p.ack, .string p.load], .int .i64 c, .int .i64 n] w (OpPost w F P go gi gw s) := by
  have h64 := hi.wire
  obtain ⟨wb, hwb⟩ : ∃ wb, w.alloc (.cells #[.int .i64 0, .int .i64 a, .int .i64 b, .string x, .int .i64 p.ch, .int .i64 p.back, .int .i64 p.inc, .int .i64 p.seq, .int .i64 p.ack, .string p.load] 66) = wb := ⟨_, rfl⟩
  have hbx : wb.heap[w.heap.size]? = some (.cells #[.int .i64 0, .int .i64 a, .int .i64 b, .string x, .int .i64 p.ch, .int .i64 p.back, .int .i64 p.inc, .int .i64 p.seq, .int .i64 p.ack, .string p.load] 66) := by rw [← hwb]; exact heap_alloc_new w _
  have hpb : PairAt wb (fun k => F k ∧ k < w.heap.size) P go gi gw s := by rw [← hwb]; exact h.tight.below ((Below.refl w.heap.size w).alloc (Nat.le_refl _) _) (Nat.le_refl _)
  have hcb : Chg w wb F := by rw [← hwb]; exact (Chg.refl w F).alloc _
  have hzb : w.heap.size ≤ wb.heap.size := hcb.size
  have hXb : w.heap.size < wb.heap.size := heap_lt hbx
  obtain ⟨a1, c1, a2, c2, hrow⟩ := hpb.row
  have hPlt := heap_lt hrow
  have mixed : Try.prog.follows .mixedOrders = true := by kernel_rfl
  have q0 : wb.cell? ⟨w.heap.size, 0, none⟩ = some (.int .i64 0) := cell_at hbx rfl
  have q3 : wb.cell? ⟨w.heap.size, 3, none⟩ = some (.string x) := cell_at hbx rfl
  have p0 : wb.cell? ⟨P, 0, none⟩ = some (.pointer (some ⟨go, 0, none⟩)) := cell_at hrow rfl
  have hfree := pair_free hpb hi
  have hk := pair_osend_full (w := wb.drew) (hpb.below (Below.refl wb.heap.size wb).drew (Nat.le_refl _)) x hx h6
  have HK := Lib.hid hk
  clear hk
  have hle : x.toList.isEmpty = false := by cases h : x.toList with | nil => exact absurd h hx | cons a b => rfl
  rw [show (6 : Int) - (s.o.waits.length : Int) = 0 by omega] at hfree
  have HFR := Lib.hid hfree
  clear hfree
  have hS : (fun w' => w'.cell? ⟨P, 0, none⟩ = some (.pointer (some ⟨go, 0, none⟩)) ∧ w'.cell? ⟨w.heap.size, 3, none⟩ = some (.string x) : World → Prop) wb.drew := ⟨p0, q3⟩
  have HBX := Lib.hid hbx
  have HPB := Lib.hid hpb
  have HCB := Lib.hid hcb
  have HROW := Lib.hid hrow
  clear h hi hx h6 hbx hpb hcb hrow
  go_enter Try.func37, Try.ntmps37
  go_wp2_with fail
  try rw [hwb]
  clear hwb
  refine HFR.out.mono ?_
  rintro e w2 ⟨rfl, rfl⟩
  go_wp2_with fail
  refine AnyTo.region (m := 99) (S := fun w' => w'.cell? ⟨P, 0, none⟩ = some (.pointer (some ⟨go, 0, none⟩)) ∧ w'.cell? ⟨w.heap.size, 3, none⟩ = some (.string x)) mixed ?_
  refine AnyTo.takeA (i := 0) (v := ?va0) rfl (by kernel_rfl) (of_decide_eq_true (by kernel_rfl)) (by kernel_rfl) (by kernel_rfl) (fun _ _ _ h => h) (Or.inl ⟨by rfl, ?hya0⟩) hS ?resta0
  case hya0 => (intro w' hw'; (try dsimp only at hw'); go_simp; try (with_reducible rfl))
  refine AnyTo.takeA (i := 1) (v := ?va1) rfl (by kernel_rfl) (of_decide_eq_true (by kernel_rfl)) (by kernel_rfl) (by kernel_rfl) (fun _ _ _ h => h) (Or.inl ⟨by rfl, ?hya1⟩) hS ?resta1
  case hya1 => (intro w' hw'; (try dsimp only at hw'); go_simp; try (with_reducible rfl))
  refine AnyTo.takeA (i := 2) (v := ?va2) rfl (by kernel_rfl) (of_decide_eq_true (by kernel_rfl)) (by kernel_rfl) (by kernel_rfl) (fun _ _ _ h => h) (Or.inl ⟨by rfl, ?hya2⟩) hS ?resta2
  case hya2 => (intro w' hw'; (try dsimp only at hw'); go_simp; try (with_reducible rfl))
  refine AnyTo.takeA (i := 3) (v := ?va3) rfl (by kernel_rfl) (of_decide_eq_true (by kernel_rfl)) (by kernel_rfl) (by kernel_rfl) (fun _ _ _ h => h) (Or.inl ⟨by rfl, ?hya3⟩) hS ?resta3
  case hya3 => (intro w' hw'; (try dsimp only at hw'); go_simp; try (with_reducible rfl))
  refine AnyTo.takeA (i := 4) (v := ?va4) rfl (by kernel_rfl) (of_decide_eq_true (by kernel_rfl)) (by kernel_rfl) (by kernel_rfl) (fun _ _ _ h => h) (Or.inl ⟨by rfl, ?hya4⟩) hS ?resta4
  case hya4 => (intro w' hw'; (try dsimp only at hw'); go_simp; try (with_reducible rfl))
  refine AnyTo.takeA (i := 5) (v := ?va5) rfl (by kernel_rfl) (of_decide_eq_true (by kernel_rfl)) (by kernel_rfl) (by kernel_rfl) (fun _ _ _ h => h) (Or.inl ⟨by rfl, ?hya5⟩) hS ?resta5
  case hya5 => (intro w' hw'; (try dsimp only at hw'); go_simp; try (with_reducible rfl))
  try simp only [Act.put, List.setIfInBounds_toArray, List.set_cons_zero, List.set_cons_succ]
  refine AnyTo.step (i := 6) (by kernel_rfl) rfl (fun K hK => ?_)
  go_simp
  go_at_call 13
  refine HK.out.mono ?_
  rintro e w3 ⟨rfl, rfl⟩
  have HR3 : Hid (wb.drew.heap[P]? = _) := HROW
  have HX3 : Hid (wb.drew.heap[w.heap.size]? = _) := HBX
  go_wp2_with fail
  refine hK.out _ _ (fun _ => hS) ?_
  clear hK K
  try simp only [Act.put, List.setIfInBounds_toArray, List.set_cons_zero, List.set_cons_succ]
  refine AnyTo.takeA (i := 7) (v := ?vb7) rfl (by kernel_rfl) (of_decide_eq_true (by kernel_rfl)) (by kernel_rfl) (by kernel_rfl) (fun _ _ _ h => h) (Or.inl ⟨by rfl, ?hyb7⟩) ⟨cell_at HR3.out rfl, cell_at HX3.out rfl⟩ ?restb7
  case hyb7 => (intro w' hw'; (try dsimp only at hw'); go_simp; try (with_reducible rfl))
  try simp only [Act.put, List.setIfInBounds_toArray, List.set_cons_zero, List.set_cons_succ]
  refine AnyTo.takeA (i := 8) (v := ?vb8) rfl (by kernel_rfl) (of_decide_eq_true (by kernel_rfl)) (by kernel_rfl) (by kernel_rfl) (fun _ _ _ h => h) (Or.inl ⟨by rfl, ?hyb8⟩) ⟨cell_at HR3.out rfl, cell_at HX3.out rfl⟩ ?restb8
  case hyb8 => (intro w' hw'; (try dsimp only at hw'); go_simp; try (with_reducible rfl))
  try simp only [Act.put, List.setIfInBounds_toArray, List.set_cons_zero, List.set_cons_succ]
  refine AnyTo.takeA (i := 9) (v := ?vb9) rfl (by kernel_rfl) (of_decide_eq_true (by kernel_rfl)) (by kernel_rfl) (by kernel_rfl) (fun _ _ _ h => h) (Or.inl ⟨by rfl, ?hyb9⟩) ⟨cell_at HR3.out rfl, cell_at HX3.out rfl⟩ ?restb9
  case hyb9 => (intro w' hw'; (try dsimp only at hw'); go_simp; try (with_reducible rfl))
  try simp only [Act.put, List.setIfInBounds_toArray, List.set_cons_zero, List.set_cons_succ]
  refine AnyTo.takeA (i := 10) (v := ?vb10) rfl (by kernel_rfl) (of_decide_eq_true (by kernel_rfl)) (by kernel_rfl) (by kernel_rfl) (fun _ _ _ h => h) (Or.inl ⟨by rfl, ?hyb10⟩) ⟨cell_at HR3.out rfl, cell_at HX3.out rfl⟩ ?restb10
  case hyb10 => (intro w' hw'; (try dsimp only at hw'); go_simp; try (with_reducible rfl))
  try simp only [Act.put, List.setIfInBounds_toArray, List.set_cons_zero, List.set_cons_succ]
  refine AnyTo.takeA (i := 11) (v := ?vb11) rfl (by kernel_rfl) (of_decide_eq_true (by kernel_rfl)) (by kernel_rfl) (by kernel_rfl) (fun _ _ _ h => h) (Or.inl ⟨by rfl, ?hyb11⟩) ⟨cell_at HR3.out rfl, cell_at HX3.out rfl⟩ ?restb11
  case hyb11 => (intro w' hw'; (try dsimp only at hw'); go_simp; try (with_reducible rfl))
  try simp only [Act.put, List.setIfInBounds_toArray, List.set_cons_zero, List.set_cons_succ]
  refine AnyTo.done (by kernel_rfl) ?_
  go_wp2_with fail
  go_ret
  exact OpPost.mk0 HCB.out HPB.out ((Below.refl wb.heap.size wb).drew)

set_option maxRecDepth 100000 in
set_option maxHeartbeats 1600000 in
theorem op_0_ok (w : World) (F : Nat → Prop) (P go gi gw N : Nat) (s : PSt) (c n a b : Int) (x : ByteArray) (p : Pk) (h : PairAt w F P go gi gw s) (hi : Inv N s) (hN : N ≤ 1000) (hx : x.toList ≠ []) (h6 : s.o.waits.length < 6) :
    Calls Try.prog 37 #[.pointer (some ⟨P, 0, none⟩), .agg #[.int .i64 0, .int .i64 a, .int .i64 b, .string x, .int .i64 p.ch, .int .i64 p.back, .int .i64 p.inc, .int .i64 p.seq, .int .i64 p.ack, .string p.load], .int .i64 c, .int .i64 n] w (OpPost w F P go gi gw (s.send x)) := by
  have h64 := hi.wire
  obtain ⟨wb, hwb⟩ : ∃ wb, w.alloc (.cells #[.int .i64 0, .int .i64 a, .int .i64 b, .string x, .int .i64 p.ch, .int .i64 p.back, .int .i64 p.inc, .int .i64 p.seq, .int .i64 p.ack, .string p.load] 66) = wb := ⟨_, rfl⟩
  have hbx : wb.heap[w.heap.size]? = some (.cells #[.int .i64 0, .int .i64 a, .int .i64 b, .string x, .int .i64 p.ch, .int .i64 p.back, .int .i64 p.inc, .int .i64 p.seq, .int .i64 p.ack, .string p.load] 66) := by rw [← hwb]; exact heap_alloc_new w _
  have hpb : PairAt wb (fun k => F k ∧ k < w.heap.size) P go gi gw s := by rw [← hwb]; exact h.tight.below ((Below.refl w.heap.size w).alloc (Nat.le_refl _) _) (Nat.le_refl _)
  have hcb : Chg w wb F := by rw [← hwb]; exact (Chg.refl w F).alloc _
  have hzb : w.heap.size ≤ wb.heap.size := hcb.size
  have hXb : w.heap.size < wb.heap.size := heap_lt hbx
  obtain ⟨a1, c1, a2, c2, hrow⟩ := hpb.row
  have hPlt := heap_lt hrow
  have mixed : Try.prog.follows .mixedOrders = true := by kernel_rfl
  have q0 : wb.cell? ⟨w.heap.size, 0, none⟩ = some (.int .i64 0) := cell_at hbx rfl
  have q3 : wb.cell? ⟨w.heap.size, 3, none⟩ = some (.string x) := cell_at hbx rfl
  have p0 : wb.cell? ⟨P, 0, none⟩ = some (.pointer (some ⟨go, 0, none⟩)) := cell_at hrow rfl
  have hfree := pair_free hpb hi
  have hk := pair_osend (w := wb.drew) (hpb.below (Below.refl wb.heap.size wb).drew (Nat.le_refl _)) hi (by omega) x hx h6
  have HK := Lib.hid hk
  clear hk
  have hle : x.toList.isEmpty = false := by cases h : x.toList with | nil => exact absurd h hx | cons a b => rfl
  have HFR := Lib.hid hfree
  clear hfree
  have h60 : ((6 : Int) - s.o.waits.length == 0) = false := by rw [beq_eq_false_iff_ne]; omega
  have hsl : s.sent.length ≤ 1000 := by have := hi.sn; omega
  have HLAST := Lib.hid hi.last
  have hS : (fun w' => w'.cell? ⟨P, 0, none⟩ = some (.pointer (some ⟨go, 0, none⟩)) ∧ w'.cell? ⟨w.heap.size, 3, none⟩ = some (.string x) : World → Prop) wb.drew := ⟨p0, q3⟩
  clear hi h6
  have HBX := Lib.hid hbx
  have HPB := Lib.hid hpb
  have HCB := Lib.hid hcb
  have HROW := Lib.hid hrow
  clear h hx hbx hpb hcb hrow
  go_enter Try.func37, Try.ntmps37
  go_wp2_with fail
  try rw [hwb]
  clear hwb
  refine HFR.out.mono ?_
  rintro e w2 ⟨rfl, rfl⟩
  go_wp2_with fail
  refine AnyTo.region (m := 99) (S := fun w' => w'.cell? ⟨P, 0, none⟩ = some (.pointer (some ⟨go, 0, none⟩)) ∧ w'.cell? ⟨w.heap.size, 3, none⟩ = some (.string x)) mixed ?_
  refine AnyTo.takeA (i := 0) (v := ?va0) rfl (by kernel_rfl) (of_decide_eq_true (by kernel_rfl)) (by kernel_rfl) (by kernel_rfl) (fun _ _ _ h => h) (Or.inl ⟨by rfl, ?hya0⟩) hS ?resta0
  case hya0 => (intro w' hw'; (try dsimp only at hw'); go_simp; try (with_reducible rfl))
  refine AnyTo.takeA (i := 1) (v := ?va1) rfl (by kernel_rfl) (of_decide_eq_true (by kernel_rfl)) (by kernel_rfl) (by kernel_rfl) (fun _ _ _ h => h) (Or.inl ⟨by rfl, ?hya1⟩) hS ?resta1
  case hya1 => (intro w' hw'; (try dsimp only at hw'); go_simp; try (with_reducible rfl))
  refine AnyTo.takeA (i := 2) (v := ?va2) rfl (by kernel_rfl) (of_decide_eq_true (by kernel_rfl)) (by kernel_rfl) (by kernel_rfl) (fun _ _ _ h => h) (Or.inl ⟨by rfl, ?hya2⟩) hS ?resta2
  case hya2 => (intro w' hw'; (try dsimp only at hw'); go_simp; try (with_reducible rfl))
  refine AnyTo.takeA (i := 3) (v := ?va3) rfl (by kernel_rfl) (of_decide_eq_true (by kernel_rfl)) (by kernel_rfl) (by kernel_rfl) (fun _ _ _ h => h) (Or.inl ⟨by rfl, ?hya3⟩) hS ?resta3
  case hya3 => (intro w' hw'; (try dsimp only at hw'); go_simp; try (with_reducible rfl))
  refine AnyTo.takeA (i := 4) (v := ?va4) rfl (by kernel_rfl) (of_decide_eq_true (by kernel_rfl)) (by kernel_rfl) (by kernel_rfl) (fun _ _ _ h => h) (Or.inl ⟨by rfl, ?hya4⟩) hS ?resta4
  case hya4 => (intro w' hw'; (try dsimp only at hw'); go_simp; try (with_reducible rfl))
  refine AnyTo.takeA (i := 5) (v := ?va5) rfl (by kernel_rfl) (of_decide_eq_true (by kernel_rfl)) (by kernel_rfl) (by kernel_rfl) (fun _ _ _ h => h) (Or.inl ⟨by rfl, ?hya5⟩) hS ?resta5
  case hya5 => (intro w' hw'; (try dsimp only at hw'); go_simp; try (with_reducible rfl))
  try simp only [Act.put, List.setIfInBounds_toArray, List.set_cons_zero, List.set_cons_succ]
  refine AnyTo.step (i := 6) (by kernel_rfl) rfl (fun K hK => ?_)
  go_simp
  go_at_call 13
  refine HK.out.mono ?_
  rintro e w3 ⟨r, rfl, hr, hrl, h3, c3, k3⟩
  have HR3 := Lib.hid (k3.trans HROW.out)
  have HX3 := Lib.hid (c3.heap (w := wb.drew) HBX.out (fun a => absurd a.2 (by omega)))
  have HP3 := Lib.hid h3
  have HC3 := Lib.hid c3
  have HRR := Lib.hid hr
  have HRL : Hid (wb.heap.size ≤ r) := hrl
  clear hr hrl h3 c3 k3
  go_wp2_with fail
  refine hK.out _ _ (fun _ => ⟨cell_at HR3.out rfl, cell_at HX3.out rfl⟩) ?_
  clear hK K
  try simp only [Act.put, List.setIfInBounds_toArray, List.set_cons_zero, List.set_cons_succ]
  refine AnyTo.takeA (i := 7) (v := ?vb7) rfl (by kernel_rfl) (of_decide_eq_true (by kernel_rfl)) (by kernel_rfl) (by kernel_rfl) (fun _ _ _ h => h) (Or.inl ⟨by rfl, ?hyb7⟩) ⟨cell_at HR3.out rfl, cell_at HX3.out rfl⟩ ?restb7
  case hyb7 => (intro w' hw'; (try dsimp only at hw'); go_simp; try (with_reducible rfl))
  try simp only [Act.put, List.setIfInBounds_toArray, List.set_cons_zero, List.set_cons_succ]
  refine AnyTo.takeA (i := 8) (v := ?vb8) rfl (by kernel_rfl) (of_decide_eq_true (by kernel_rfl)) (by kernel_rfl) (by kernel_rfl) (fun _ _ _ h => h) (Or.inl ⟨by rfl, ?hyb8⟩) ⟨cell_at HR3.out rfl, cell_at HX3.out rfl⟩ ?restb8
  case hyb8 => (intro w' hw'; (try dsimp only at hw'); go_simp; try (with_reducible rfl))
  try simp only [Act.put, List.setIfInBounds_toArray, List.set_cons_zero, List.set_cons_succ]
  refine AnyTo.takeA (i := 9) (v := ?vb9) rfl (by kernel_rfl) (of_decide_eq_true (by kernel_rfl)) (by kernel_rfl) (by kernel_rfl) (fun _ _ _ h => h) (Or.inl ⟨by rfl, ?hyb9⟩) ⟨cell_at HR3.out rfl, cell_at HX3.out rfl⟩ ?restb9
  case hyb9 => (intro w' hw'; (try dsimp only at hw'); go_simp; try (with_reducible rfl))
  try simp only [Act.put, List.setIfInBounds_toArray, List.set_cons_zero, List.set_cons_succ]
  refine AnyTo.takeA (i := 10) (v := ?vb10) rfl (by kernel_rfl) (of_decide_eq_true (by kernel_rfl)) (by kernel_rfl) (by kernel_rfl) (fun _ _ _ h => h) (Or.inl ⟨by rfl, ?hyb10⟩) ⟨cell_at HR3.out rfl, cell_at HX3.out rfl⟩ ?restb10
  case hyb10 => (intro w' hw'; (try dsimp only at hw'); go_simp; try (with_reducible rfl))
  try simp only [Act.put, List.setIfInBounds_toArray, List.set_cons_zero, List.set_cons_succ]
  refine AnyTo.takeA (i := 11) (v := ?vb11) rfl (by kernel_rfl) (of_decide_eq_true (by kernel_rfl)) (by kernel_rfl) (by kernel_rfl) (fun _ _ _ h => h) (Or.inl ⟨by rfl, ?hyb11⟩) ⟨cell_at HR3.out rfl, cell_at HX3.out rfl⟩ ?restb11
  case hyb11 => (intro w' hw'; (try dsimp only at hw'); go_simp; try (with_reducible rfl))
  try simp only [Act.put, List.setIfInBounds_toArray, List.set_cons_zero, List.set_cons_succ]
  refine AnyTo.done (by kernel_rfl) ?_
  clear hS p0 q0 q3 HK HFR
  have x3 : w3.cell? ⟨w.heap.size, 3, none⟩ = some (.string x) := cell_at HX3.out rfl
  have y3 : w3.cell? ⟨r, 3, none⟩ = some (.int .i64 ((s.sent.length : Int) + 1)) := by rw [← HLAST.out]; exact cell_at HRR.out rfl
  have y5 : w3.cell? ⟨r, 5, none⟩ = some (.string x) := cell_at HRR.out rfl
  obtain ⟨a3, c3, a4, c4, hrw⟩ := HP3.out.row
  have p3 : w3.cell? ⟨P, 3, none⟩ = some (.slice a3 s.sent.length c3) := cell_at hrw rfl
  clear hrw
  have e1 : IntKind.i64.wrap ((s.sent.length : Int) + 1) = (s.sent.length : Int) + 1 := IntWalk.i64_in _ (by omega)
  go_wp2_with fail
  go_quiet (fail)
  clear x3 y3 y5 p3 e1
  have HP4 : Hid (PairAt (w3.drewN nq) _ P go gi gw _) := HP3.out.below (bl_drewN (Below.refl w3.heap.size w3) nq) (Nat.le_refl _)
  have HX4 : Hid ((w3.drewN nq).heap[w.heap.size]? = _) := HX3
  have HRR4 : Hid ((w3.drewN nq).heap[r]? = _) := HRR
  have HC4 : Hid (Chg wb (w3.drewN nq) (fun k => F k ∧ k < w.heap.size)) := ⟨HC3.out.os, HC3.out.tape, HC3.out.output, HC3.out.size, HC3.out.block⟩
  clear HP3 HX3 HRR HC3 HR3
  generalize w3.drewN nq = w4 at *
  have x3 : w4.cell? ⟨w.heap.size, 3, none⟩ = some (.string x) := cell_at HX4.out rfl
  obtain ⟨a3, c3, a4, c4, b1, d1, w5, hr1, hrun, hr5, ch5, h6, ch6⟩ := (HP4.out.below (Below.refl w4.heap.size w4).drew (Nat.le_refl _)).sentMore x hsl
  have p3 : w4.cell? ⟨P, 3, none⟩ = some (.slice a3 s.sent.length c3) := cell_at hr1 rfl
  have hz4 : wb.heap.size ≤ w4.heap.size := HC4.out.size
  have hrlt : r < w4.heap.size := heap_lt HRR4.out
  have hP4 : P < w4.heap.size := heap_lt hr1
  have HRUN : Hid (Sem.run Try.prog (Builtin.append_ #[69, 69] 69 #[.slice a3 s.sent.length c3, .slice (some ⟨w4.heap.size, 0, none⟩) 1 1]) ((w4.alloc (.cells #[.string x] 9)).drew) = .ok (.slice b1 (s.sent.length + 1) d1) w5) := hrun
  have HR5 := Lib.hid hr5
  have HP6 := Lib.hid h6
  have HC6 := Lib.hid ch6
  have q3' : w5.cell? ⟨P, 3, none⟩ = some (.slice a3 s.sent.length c3) := cell_at hr5 rfl
  have f3 := free_at hr5 3
  have q2' : w5.cell? ⟨P, 2, none⟩ = some (.pointer (some ⟨gw, 0, none⟩)) := cell_at hr5 rfl
  have hP5 := heap_lt hr5
  have hr6 := ch6.heap (w := w4.drew) HRR4.out (fun y => by
    rcases y with ⟨_, y⟩ | ⟨_, y⟩
    · exact absurd y (by have := HRL.out; show ¬ r < wb.heap.size; omega)
    · exact y rfl)
  have hs := pair_send h6 [⟨s.o.ch, 0, s.o.inc, s.o.last + 1, 0, x⟩] _ (News.pk (c := 1) _ hr6) (by simp only [List.length_singleton]; omega)
  have HSN := Lib.hid hs
  have hz6 : w4.heap.size ≤ (w5.setCell ⟨P, 3, none⟩ (.slice b1 (s.sent.length + 1) d1)).heap.size := ch6.size
  have HZ6 := Lib.hid hz6
  clear hr1 hrun hr5 ch5 h6 ch6 hr6 hs hz6
  go_wp2_with fail
  go_region_law (refine step_append_run rfl rfl rfl rfl HRUN.out ?_)
  all_goals
    go_wp2_with fail
    refine HSN.out.mono ?_
    rintro e w7 ⟨rfl, h7, c7, _⟩
    have HP7 := Lib.hid h7
    have HC7 := Lib.hid c7
    clear h7 c7
    go_wp2_with fail
    go_ret
    refine OpPost.mk3 hzb HCB.out HC4.out (G := fun k => (F k ∧ k < w.heap.size) ∨ wb.heap.size ≤ k) (fun k hk => hk) (PairAt.mono (s := s.send x) HP7.out fun k _ hk => ?_) (Chg.mono (a := w4) (Chg.trans (a := w4) ⟨HC6.out.os, HC6.out.tape, HC6.out.output, HC6.out.size, HC6.out.block⟩ HC7.out (fun k hk y => ?_)) (fun k _ hk => ?_))
    · have z6 := HZ6.out
      rcases hk with ⟨(⟨(⟨y, _⟩ | ⟨y, _⟩), y2⟩ | y), _⟩ | y
      · exact .inl ⟨.inl y, y2⟩
      · exact .inl ⟨.inr y, y2⟩
      · exact .inr y
      · exact .inr (Nat.le_trans z6 y)
    · rcases y with ⟨y, _⟩ | y
      · exact y
      · exact absurd y (by show ¬ w4.heap.size ≤ k; omega)
    · rcases hk with ⟨y, _⟩ | ⟨y, _⟩
      · exact .inl y
      · exact .inr y
end Go.Proofs.Ytecpgkcoehnpbaa
