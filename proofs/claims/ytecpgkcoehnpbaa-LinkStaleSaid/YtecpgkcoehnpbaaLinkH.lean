/- Layer 17: the example (awake). -/
import Derived.Test.YtecpgkcoehnpbaaLinkG
namespace Go.Proofs.Ytecpgkcoehnpbaa
open Go.RowKit

def letterA : ByteArray := { data := #[97] }

set_option maxRecDepth 100000 in
set_option maxHeartbeats 3200000 in
theorem linkAwake (w : World) : Calls Try.prog 11 #[] w fun e w' => e = .returned (.bool true) ∧ Below w.heap.size w w' := by
  -- the two ends
  have o1 : OutAt ((w.alloc (.cells (outCells ⟨3, 1, [], 0, 0⟩ (.slice none 0 0)) 80)).alloc (.cells (inCells ⟨3, 1, [], 0⟩ (.slice none 0 0)) 83)) (fun k => k = w.heap.size) w.heap.size ⟨3, 1, [], 0, 0⟩ :=
    ⟨rfl, _, heap_alloc_same (heap_alloc_new w _) _, Sl.nil _ _ _ _⟩
  have i1 : InAt ((w.alloc (.cells (outCells ⟨3, 1, [], 0, 0⟩ (.slice none 0 0)) 80)).alloc (.cells (inCells ⟨3, 1, [], 0⟩ (.slice none 0 0)) 83)) (fun k => k = w.heap.size + 1) (w.heap.size + 1) ⟨3, 1, [], 0⟩ :=
    ⟨rfl, _, by have := heap_alloc_new (w.alloc (.cells (outCells ⟨3, 1, [], 0, 0⟩ (.slice none 0 0)) 80)) (.cells (inCells ⟨3, 1, [], 0⟩ (.slice none 0 0)) 83); simp only [World.size_alloc] at this; exact this, Sl.nil _ _ _ _⟩
  have zz : ((w.alloc (.cells (outCells ⟨3, 1, [], 0, 0⟩ (.slice none 0 0)) 80)).alloc (.cells (inCells ⟨3, 1, [], 0⟩ (.slice none 0 0)) 83)).heap.size = w.heap.size + 2 := by simp
  have bb : Below w.heap.size w ((w.alloc (.cells (outCells ⟨3, 1, [], 0, 0⟩ (.slice none 0 0)) 80)).alloc (.cells (inCells ⟨3, 1, [], 0⟩ (.slice none 0 0)) 83)) := ((Below.refl _ _).alloc (Nat.le_refl _) _).alloc (by simp) _
  have hin := newIn_any 3 1 (w.alloc (.cells (outCells ⟨3, 1, [], 0, 0⟩ (.slice none 0 0)) 80))
  simp only [World.size_alloc] at hin
  have HIN := Lib.hid hin
  have HO1 := Lib.hid o1
  have HI1 := Lib.hid i1
  have HZ := Lib.hid zz
  have HBB := Lib.hid bb
  clear o1 i1 zz bb hin
  go_enter Try.func11, Try.ntmps11
  go_wp2_with fail
  refine (newOut_any 3 1 w).mono ?_
  rintro e w1 ⟨rfl, rfl⟩
  go_wp2_with fail
  refine HIN.out.mono ?_
  rintro e w1 ⟨rfl, rfl⟩
  generalize (w.alloc (.cells (outCells ⟨3, 1, [], 0, 0⟩ (.slice none 0 0)) 80)).alloc (.cells (inCells ⟨3, 1, [], 0⟩ (.slice none 0 0)) 83) = w2 at *
  go_wp2_with fail
  refine (send_ok w.heap.size ⟨3, 1, [], 0, 0⟩ _ w2 letterA HO1.out (by rw [ByteArray.toList_eq]; decide) (by simp) (by simp) (by simp)).mono ?_
  rintro e w3 ⟨r, rfl, hr, hrl, ho, hc⟩
  simp only at hr ho
  have z3 := HZ.out
  have HI3 := Lib.hid (HI1.out.chg hc (fun k hk => by omega))
  have HO3 := Lib.hid ho
  have HC3 : Hid (Below w.heap.size w w3) := HBB.out.trans (hc.below (by omega) (fun i hi => by omega))
  have HR := Lib.hid hr
  have q3 : w3.cell? ⟨r, 3, none⟩ = some (.int .i64 1) := cell_at hr rfl
  have q0 : w3.cell? ⟨r, 0, none⟩ = some (.int .i64 3) := cell_at hr rfl
  have q1 : w3.cell? ⟨r, 1, none⟩ = some (.int .i64 0) := cell_at hr rfl
  have q2 : w3.cell? ⟨r, 2, none⟩ = some (.int .i64 1) := cell_at hr rfl
  have q4 : w3.cell? ⟨r, 4, none⟩ = some (.int .i64 0) := cell_at hr rfl
  have q5 : w3.cell? ⟨r, 5, none⟩ = some (.string letterA) := cell_at hr rfl
  have HRL : Hid (w.heap.size + 2 ≤ r ∧ r < w3.heap.size) := ⟨by omega, heap_lt hr⟩
  have HZ3 : Hid (w.heap.size + 2 ≤ w3.heap.size) := by have := hc.size; show _ ≤ _; omega
  clear hr ho hc hrl z3
  have z2 := HZ.out
  have HO3' := Lib.hid (HO3.out.mono (G := fun k => k = w.heap.size ∨ (w.heap.size + 2 ≤ k ∧ k < w3.heap.size)) (fun k hk hh => by rcases hh with hh | hh; exact .inl hh.1; exact .inr ⟨by omega, hk⟩))
  clear HO3
  clear z2 HZ HBB HI1 HO1
  go_wp2_with fail
  have hlA : letterA.toList = [97] := by rw [ByteArray.toList_eq]; rfl
  refine (take_own (w.heap.size + 1) ⟨3, 1, [], 0⟩ _ w3 HI3.out ⟨3, 0, 1, 1, 0, letterA⟩ rfl rfl rfl (by rw [hlA]; decide) (by simp) (by simp) (by simp) (by simp) (by simp)).mono ?_
  intro e w4 hT
  rcases hT with ⟨_, h6, _⟩ | ⟨_, r4, rfl, hr4, hrl4, hi4, hc4⟩
  · simp at h6
  simp only [List.length_nil, Int.natCast_zero, Int.add_zero, Int.zero_add, if_true, List.nil_append] at hi4
  have hz3 := HZ3.out
  have HO4 := Lib.hid (HO3'.out.chg hc4 (fun k hk hk2 => by have := HRL.out; omega))
  have HC4 : Hid (Below w.heap.size w w4) := HC3.out.trans (hc4.below (by omega) (fun i hi => by omega))
  have HI4 := Lib.hid hi4
  have HZ4 : Hid (w.heap.size + 2 ≤ w4.heap.size) := by have := hc4.size; show _ ≤ _; omega
  clear hr4 hrl4 hi4 hc4 hz3 q0 q1 q2 q3 q4 q5 HR HI3 HO3' HC3
  go_wp2_with fail
  refine (pop_some (w.heap.size + 1) ⟨3, 1, [letterA], 0⟩ _ w4 HI4.out letterA [] rfl (by simp) (by simp)).mono ?_
  rintro e w5 ⟨r5, rfl, hr5, hrl5, hi5, hc5⟩
  simp only [Int.zero_add] at hr5
  have k0 : w5.cell? ⟨r5, 0, none⟩ = some (.int .i64 3) := cell_at hr5 rfl
  have k1 : w5.cell? ⟨r5, 1, none⟩ = some (.int .i64 1) := cell_at hr5 rfl
  have k2 : w5.cell? ⟨r5, 2, none⟩ = some (.int .i64 1) := cell_at hr5 rfl
  have k3 : w5.cell? ⟨r5, 3, none⟩ = some (.int .i64 0) := cell_at hr5 rfl
  have k4 : w5.cell? ⟨r5, 4, none⟩ = some (.int .i64 1) := cell_at hr5 rfl
  have k5 : w5.cell? ⟨r5, 5, none⟩ = some (.string ByteArray.empty) := cell_at hr5 rfl
  have HO5 := Lib.hid (HO4.out.chg hc5 (fun k hk hk2 => by have := HRL.out; have := HZ3.out; omega))
  have HC5 : Hid (Below w.heap.size w w5) := HC4.out.trans (hc5.below (by have := HZ4.out; omega) (fun i hi => by have := HZ3.out; omega))
  clear hr5 hrl5 hi5 hc5 HO4 HC4 HI4
  have hlA2 : (letterA.toList == [97]) = true := by rw [hlA]; decide
  go_wp2_with fail
  refine (ack_own w.heap.size ⟨3, 1, [letterA], 1, 0⟩ _ w5 HO5.out ⟨3, 1, 1, 0, 1, ByteArray.empty⟩ rfl rfl rfl (by simp) (by simp) (by simp) (by simp)).mono ?_
  rintro e w6 ⟨rfl, ho6, hc6⟩
  have HO6 := Lib.hid ho6
  have HC6 : Hid (Below w.heap.size w w6) := HC5.out.trans (hc6.below (HC5.out.size) (fun i hi => by omega))
  have HW := Lib.hid (waits_any _ _ _ _ ho6)
  clear ho6 hc6 k0 k1 k2 k3 k4 k5
  go_wp2_with fail
  refine HW.out.mono ?_
  rintro e w7 ⟨rfl, rfl⟩
  go_wp2_with fail
  go_ret
  exact ⟨rfl, HC6.out⟩
end Go.Proofs.Ytecpgkcoehnpbaa
