/- The walks of layer 2: numbers as four bytes. -/
import Derived.Test.YtpnmhpkpkejdiaaSumC
namespace Go.Proofs.Ytpnmhpkpkejdiaa
open Go.RowKit CrcPlain

theorem under_bytes : Try.prog.underlying 34 = some (.slice 5) := by kernel_rfl
theorem under_u8 : Try.prog.underlying 5 = some (.int .u8) := by kernel_rfl
theorem under_str : Try.prog.underlying 9 = some .string := by kernel_rfl

/-- a number's four bytes -/
def be4 (n : Nat) : List UInt8 := [UInt8.ofNat (n / 16777216), UInt8.ofNat (n / 65536 % 256), UInt8.ofNat (n / 256 % 256), UInt8.ofNat (n % 256)]

theorem conv4 (w : World) (a b c d : Int) :
    Sem.run Try.prog (convert 34 9 (.slice (some { block := w.heap.size, off := 0 }) 4 4)) (w.alloc (.cells #[.int .u8 a, .int .u8 b, .int .u8 c, .int .u8 d] 5)) =
      .ok (.string (strOfNums [a, b, c, d])) (w.alloc (.cells #[.int .u8 a, .int .u8 b, .int .u8 c, .int .u8 d] 5)) := by
  refine run_convert_bytes_arg _ 34 5 under_bytes under_u8 w.heap.size 0 4 4 [a, b, c, d] rfl ?_ 9 under_str
  intro i hi
  obtain rfl | rfl | rfl | rfl : i = 0 ∨ i = 1 ∨ i = 2 ∨ i = 3 := by omega
  all_goals simp [List.getD]

theorem str4 (n : Nat) : strOfNums [((n : Int) / 16777216), ((n : Int) / 65536 % 256), ((n : Int) / 256 % 256), ((n : Int) % 256)] = ⟨(be4 n).toArray⟩ := by
  simp only [strOfNums, be4, List.map_cons, List.map_nil]
  have h1 : ((n : Int) / 16777216).toNat = n / 16777216 := by omega
  have h2 : ((n : Int) / 65536 % 256).toNat = n / 65536 % 256 := by omega
  have h3 : ((n : Int) / 256 % 256).toNat = n / 256 % 256 := by omega
  have h4 : ((n : Int) % 256).toNat = n % 256 := by omega
  rw [h1, h2, h3, h4]

set_option maxRecDepth 100000 in
set_option maxHeartbeats 400000 in
theorem four_any (n : Nat) (hn : n < 4294967296) (w : World) : Calls Try.prog 54 #[.int .i64 (n : Int)] w fun e w' => e = .returned (.string ⟨(be4 n).toArray⟩) ∧ Below w.heap.size w w' := by
  have hconv := conv4 w ((n : Int) / 16777216) ((n : Int) / 65536 % 256) ((n : Int) / 256 % 256) ((n : Int) % 256)
  rw [str4] at hconv
  go_enter Try.func54, Try.ntmps54
  go_wp2_with fail
  go_ret
  exact ⟨rfl, (Below.refl _ _).alloc (Nat.le_refl _) _⟩
set_option maxRecDepth 100000 in
set_option maxHeartbeats 400000 in
theorem put_any (n : Nat) (hn : n < 2147483648) (w : World) : Calls Try.prog 57 #[.int .i64 (n : Int)] w fun e w' => e = .returned (.string ⟨(be4 n).toArray⟩) ∧ Below w.heap.size w w' := by
  have hconv := conv4 w ((n : Int) / 16777216) ((n : Int) / 65536 % 256) ((n : Int) / 256 % 256) ((n : Int) % 256)
  rw [str4] at hconv
  go_enter Try.func57, Try.ntmps57
  go_wp2_with fail
  go_ret
  exact ⟨rfl, (Below.refl _ _).alloc (Nat.le_refl _) _⟩
set_option maxRecDepth 100000 in
set_option maxHeartbeats 400000 in
theorem put_neg (n : Nat) (h1 : 2147483648 ≤ n) (h2 : n < 4294967296) (w : World) : Calls Try.prog 57 #[.int .i64 ((n : Int) - 4294967296)] w fun e w' => e = .returned (.string ⟨(be4 n).toArray⟩) ∧ Below w.heap.size w w' := by
  have hconv := conv4 w ((n : Int) / 16777216) ((n : Int) / 65536 % 256) ((n : Int) / 256 % 256) ((n : Int) % 256)
  rw [str4] at hconv
  go_enter Try.func57, Try.ntmps57
  go_wp2_with fail
  go_ret
  exact ⟨rfl, (Below.refl _ _).alloc (Nat.le_refl _) _⟩
end Go.Proofs.Ytpnmhpkpkejdiaa
