/- The walks of layer 2: four bytes as a number. -/
import Derived.Test.YtpnmhpkpkejdiaaSumD
namespace Go.Proofs.Ytpnmhpkpkejdiaa
open Go.RowKit CrcPlain

/-- the number of bytes, the highest first -/
def numL (l : List UInt8) : Nat := l.foldl (fun n c => n * 256 + c.toNat) 0
theorem numL_snoc (l : List UInt8) (c : UInt8) : numL (l ++ [c]) = numL l * 256 + c.toNat := by simp [numL]
theorem numL_lt (l : List UInt8) : numL l < 256 ^ l.length := by
  have key : ∀ (l : List UInt8) (n k : Nat), n < 256 ^ k → l.foldl (fun n c => n * 256 + c.toNat) n < 256 ^ (k + l.length) := by
    intro l
    induction l with
    | nil => intro n k h; simpa using h
    | cons c l ih =>
      intro n k h
      have h2 : n * 256 + c.toNat < 256 ^ (k + 1) := by rw [Nat.pow_succ]; have := c.toNat_lt; omega
      have := ih _ _ h2
      simp only [List.foldl_cons, List.length_cons]
      rw [show k + (l.length + 1) = k + 1 + l.length from by omega]
      exact this
  have := key l 0 0 (by simp)
  simpa [numL] using this
theorem numL_take_lt (s : ByteArray) (k : Nat) (hk : k ≤ 4) : numL (s.data.toList.take k) < 4294967296 := by
  have h1 := numL_lt (s.data.toList.take k)
  have h2 : (s.data.toList.take k).length ≤ 4 := Nat.le_trans (List.length_take_le _ _) hk
  have h3 : 256 ^ (s.data.toList.take k).length ≤ 256 ^ 4 := Nat.pow_le_pow_right (by omega) h2
  omega
theorem numL_take_lt3 (s : ByteArray) (k : Nat) (hk : k ≤ 3) : numL (s.data.toList.take k) < 16777216 := by
  have h1 := numL_lt (s.data.toList.take k)
  have h2 : (s.data.toList.take k).length ≤ 3 := Nat.le_trans (List.length_take_le _ _) hk
  have h3 : 256 ^ (s.data.toList.take k).length ≤ 256 ^ 3 := Nat.pow_le_pow_right (by omega) h2
  omega

theorem i64_or_byte (n c : Nat) (hn : n < 16777216) (hc : c < 256) : bits .or .i64 ((n : Int) * 256) (c : Int) = (n : Int) * 256 + c := by
  have hx : n * 256 ||| c = n * 256 + c := nat_join 8 (n * 256) c (by omega) (by omega)
  have e : ((n : Int) * 256) = ((n * 256 : Nat) : Int) := by omega
  show IntKind.i64.wrap ((BitVec.ofInt 64 ((n : Int) * 256) ||| BitVec.ofInt 64 (c : Int)).toNat : Int) = _
  rw [e, BitVec.toNat_or, ofInt_u64 (n * 256) (by omega), ofInt_u64 c (by omega), hx]
  simp [IntKind.wrap, IntKind.bits, IntKind.signed]
  omega

set_option maxRecDepth 100000 in
set_option maxHeartbeats 400000 in
theorem number_any (s : ByteArray) (h4 : 4 ≤ s.size) (hs : s.size ≤ maxLen) (w : World) :
    Calls Try.prog 55 #[.string s] w fun e w' => e = .returned (.int .i64 (numL (s.data.toList.take 4) : Nat)) ∧ w = w' := by
  unfold maxLen at hs
  go_enter Try.func55, Try.ntmps55
  go_wp2
  go_loop [3, 5] (fun n i => ∃ k : Nat, k ≤ 4 ∧ i = .int .i64 k ∧ n = .int .i64 (numL (s.data.toList.take k) : Nat)) (fun _ i => 4 - (intOf i).toNat)
  case atStart => exact ⟨0, by omega, rfl, rfl⟩
  case round =>
    obtain ⟨k, hk, rfl, rfl⟩ := hrel
    by_cases hlt : k < 4
    · have hl := numL_take_lt3 s k (by omega)
      have hks : k < s.size := by omega
      have HS : Hid (numL (s.data.toList.take (k + 1)) = numL (s.data.toList.take k) * 256 + (s[k]).toNat) := by
        show _ = _
        rw [take_snoc s k hks, numL_snoc]
      have hcl : (s[k]).toNat < 256 := (s[k]).toNat_lt
      generalize numL (s.data.toList.take k) = n at *
      have hor := i64_or_byte n (s[k]).toNat hl hcl
      go_wp2
      go_round
      case rel => exact ⟨k + 1, by omega, by go_num, by rw [HS.out]; exact congrArg (Value.int .i64) (by omega)⟩
      case measure => simp [intOf]; omega
    · have hk4 : k = 4 := by omega
      subst hk4
      go_wp2
      go_ret
      exact ⟨rfl, rfl⟩

/-- the reference's number: above 2^31 it is taken as below 0 -/
def signed (n : Nat) : Int := if n < 2147483648 then (n : Int) else (n : Int) - 4294967296

set_option maxRecDepth 100000 in
set_option maxHeartbeats 400000 in
theorem get_any (s : ByteArray) (h4 : 4 ≤ s.size) (hs : s.size ≤ maxLen) (w : World) :
    Calls Try.prog 56 #[.string s] w fun e w' => e = .returned (.tuple #[.int .i64 (signed (numL (s.data.toList.take 4))), .bool true]) ∧ w = w' := by
  unfold maxLen at hs
  go_enter Try.func56, Try.ntmps56
  go_wp2
  go_loop [4, 5] (fun n i => ∃ k : Nat, k ≤ 4 ∧ i = .int .i64 k ∧ n = .int .i64 (numL (s.data.toList.take k) : Nat)) (fun _ i => 4 - (intOf i).toNat)
  case atStart => exact ⟨0, by omega, rfl, rfl⟩
  case round =>
    obtain ⟨k, hk, rfl, rfl⟩ := hrel
    by_cases hlt : k < 4
    · have hl := numL_take_lt3 s k (by omega)
      have hks : k < s.size := by omega
      have HS : Hid (numL (s.data.toList.take (k + 1)) = numL (s.data.toList.take k) * 256 + (s[k]).toNat) := by
        show _ = _
        rw [take_snoc s k hks, numL_snoc]
      have hcl : (s[k]).toNat < 256 := (s[k]).toNat_lt
      generalize numL (s.data.toList.take k) = n at *
      go_wp2
      go_round
      case rel => exact ⟨k + 1, by omega, by go_num, by rw [HS.out]; exact congrArg (Value.int .i64) (by omega)⟩
      case measure => simp [intOf]; omega
    · have hk4 : k = 4 := by omega
      subst hk4
      have hl := numL_take_lt s 4 (by omega)
      generalize hg : numL (s.data.toList.take 4) = n at *
      have HG := Lib.hid hg
      clear hg
      have hl2 : (n : Int) < 4294967296 := by omega
      clear hl
      by_cases hb : n < 2147483648
      · have hd : decide ((2147483648 : Int) ≤ (n : Int)) = false := by simp; omega
        clear hl2
        have HB := Lib.hid hb
        clear hb
        go_wp2
        go_ret2
        exact ⟨by rw [HG.out, signed, if_pos HB.out]; rfl, rfl⟩
      · have hd : (2147483648 : Int) ≤ (n : Int) := by omega
        have HB := Lib.hid hb
        clear hb
        go_wp2
        go_ret2
        exact ⟨by rw [HG.out, signed, if_neg HB.out]; rfl, rfl⟩
end Go.Proofs.Ytpnmhpkpkejdiaa
