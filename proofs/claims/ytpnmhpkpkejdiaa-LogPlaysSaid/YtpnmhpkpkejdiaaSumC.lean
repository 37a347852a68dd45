/- The walks of layer 2: the example (awake). -/
import Derived.Test.YtpnmhpkpkejdiaaSumB
namespace Go.Proofs.Ytpnmhpkpkejdiaa
open Go.RowKit CrcPlain

def nine : ByteArray := { data := #[49, 50, 51, 52, 53, 54, 55, 56, 57] }
def nineA : ByteArray := { data := #[49, 50, 51, 52] }
def nineB : ByteArray := { data := #[53, 54, 55, 56, 57] }
theorem nine_sum : sumN (flat [nine]) = 3808858755 := by decide +kernel
theorem nine_sum2 : sumN (flat [nineA, nineB]) = 3808858755 := by decide +kernel

theorem of1 (s : ByteArray) (w : World) (h : s.size ≤ maxLen) :
    Calls Try.prog 17 #[.slice (some ⟨w.heap.size, 0, none⟩) 1 1] (w.alloc (.cells #[.string s] 9)) fun e w' => e = .returned (.int .i64 (sumN (flat [s]) : Nat)) ∧ w.alloc (.cells #[.string s] 9) = w' := by
  refine of_any w.heap.size 0 1 1 [s] _ (by unfold maxLen; omega) rfl (by simpa using h) ?_
  intro j hj
  obtain rfl : j = 0 := by omega
  simp [List.getD]
theorem of2 (s t : ByteArray) (w : World) (h : s.size ≤ maxLen) (h' : t.size ≤ maxLen) :
    Calls Try.prog 17 #[.slice (some ⟨w.heap.size, 0, none⟩) 2 2] (w.alloc (.cells #[.string s, .string t] 9)) fun e w' => e = .returned (.int .i64 (sumN (flat [s, t]) : Nat)) ∧ w.alloc (.cells #[.string s, .string t] 9) = w' := by
  refine of_any w.heap.size 0 2 2 [s, t] _ (by unfold maxLen; omega) rfl (by simpa using ⟨h, h'⟩) ?_
  intro j hj
  obtain rfl | rfl : j = 0 ∨ j = 1 := by omega
  · simp [List.getD]
  · simp [List.getD]

theorem of_nine (w : World) :
    Calls Try.prog 17 #[.slice (some ⟨w.heap.size, 0, none⟩) 1 1] (w.alloc (.cells #[.string { data := #[49, 50, 51, 52, 53, 54, 55, 56, 57] }] 9)) fun e w' => e = .returned (.int .i64 3808858755) ∧ w.alloc (.cells #[.string { data := #[49, 50, 51, 52, 53, 54, 55, 56, 57] }] 9) = w' := by
  have h := of1 nine w (by decide)
  rw [nine_sum] at h
  exact h
theorem of_nine2 (w : World) :
    Calls Try.prog 17 #[.slice (some ⟨w.heap.size, 0, none⟩) 2 2] (w.alloc (.cells #[.string { data := #[49, 50, 51, 52] }, .string { data := #[53, 54, 55, 56, 57] }] 9)) fun e w' => e = .returned (.int .i64 3808858755) ∧ w.alloc (.cells #[.string { data := #[49, 50, 51, 52] }, .string { data := #[53, 54, 55, 56, 57] }] 9) = w' := by
  have h := of2 nineA nineB w (by decide) (by decide)
  rw [nine_sum2] at h
  exact h

set_option maxHeartbeats 400000 in
theorem sumAwake (w : World) : Calls Try.prog 16 #[] w fun e w' => e = .returned (.bool true) ∧ Below w.heap.size w w' := by
  go_enter Try.func16, Try.ntmps16
  go_wp2_with fail
  refine (of_nine w).mono ?_
  rintro e w' ⟨rfl, rfl⟩
  go_wp2_with fail
  have h2 := of_nine2 (w.alloc (.cells #[.string { data := #[49, 50, 51, 52, 53, 54, 55, 56, 57] }] 9))
  simp only [World.size_alloc] at h2
  refine h2.mono ?_
  rintro e w' ⟨rfl, rfl⟩
  go_wp2_with fail
  go_ret
  exact ⟨rfl, ((Below.refl _ _).alloc (Nat.le_refl _) _).alloc (by simp) _⟩
end Go.Proofs.Ytpnmhpkpkejdiaa
