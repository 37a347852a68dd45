/- The walk of the reference's Of: it comes to the same plain check sum. -/
import Derived.Test.YtpnmhpkpkejdiaaSumA
namespace Go.Proofs.Ytpnmhpkpkejdiaa
open Go.RowKit CrcPlain

theorem i64_xor_nat (a b : Nat) (ha : a < 4294967296) (hb : b < 4294967296) : bits .xor .i64 (a : Int) (b : Int) = ((a ^^^ b : Nat) : Int) := by
  have hx : a ^^^ b < 2 ^ 32 := Nat.xor_lt_two_pow (by omega) (by omega)
  show IntKind.i64.wrap ((BitVec.ofInt 64 (a : Int) ^^^ BitVec.ofInt 64 (b : Int)).toNat : Int) = _
  rw [BitVec.toNat_xor, ofInt_u64 a (by omega), ofInt_u64 b (by omega)]
  simp [IntKind.wrap, IntKind.bits, IntKind.signed]
  omega

theorem refBit_lt {q : Nat × Nat} (h : q.1 < 4294967296) : (refBit q).1 < 4294967296 := by
  unfold refBit
  simp only
  split
  · exact Nat.xor_lt_two_pow (n := 32) (by omega) turns_lt
  · omega
theorem refBits_lt (n : Nat) {r c : Nat} (h : r < 4294967296) : (refBits n r c).1 < 4294967296 := by
  induction n with
  | zero => exact h
  | succ n ih => exact refBit_lt ih
theorem refBits_c (n : Nat) {r c : Nat} (h : c < 256) : (refBits n r c).2 < 256 := by rw [refBits_snd]; exact Nat.lt_of_le_of_lt (Nat.div_le_self _ _) h

set_option maxHeartbeats 1000000 in
theorem refOf_any (s : ByteArray) (w : World) (hs : s.size ≤ maxLen) :
    Calls Try.prog 18 #[.string s] w fun e w' => e = .returned (.int .i64 (sumN s.data.toList : Nat)) ∧ w = w' := by
  unfold maxLen at hs
  go_enter Try.func18, Try.ntmps18
  go_wp2
  go_loop [3, 4] (fun r i => ∃ k : Nat, k ≤ s.size ∧ i = .int .i64 k ∧ r = .int .i64 (regN 4294967295 (s.data.toList.take k) : Nat)) (fun _ i => s.size - (intOf i).toNat)
  case atStart => exact ⟨0, by omega, rfl, rfl⟩
  case round =>
    obtain ⟨k, hk, rfl, rfl⟩ := hrel
    have hrk := reg_lt (s.data.toList.take k) (r := 4294967295) (by omega)
    by_cases hlt : k < s.size
    · have HR : Hid (regN 4294967295 (s.data.toList.take (k + 1)) = stepN (regN 4294967295 (s.data.toList.take k)) (s[k]).toNat) := regN_snoc _ s k hlt
      have hcl : (s[k]).toNat < 256 := (s[k]).toNat_lt
      generalize regN 4294967295 (s.data.toList.take k) = q at *
      obtain ⟨c, hcd⟩ : ∃ c, c = (s[k]).toNat := ⟨_, rfl⟩
      rw [← hcd] at HR hcl
      have HCD := Lib.hid hcd
      clear hcd
      go_wp2
      go_loop [3, 5, 6] (fun r' c' i => ∃ m : Nat, m ≤ 8 ∧ i = .int .i64 m ∧ r' = .int .i64 ((refBits m q c).1 : Nat) ∧ c' = .int .i64 ((refBits m q c).2 : Nat)) (fun _ _ i => 8 - (intOf i).toNat)
      case atStart => exact ⟨0, by omega, rfl, rfl, by rw [show (refBits 0 q c).2 = c from rfl, HCD.out]; exact congrArg (Value.int .i64) (by unfold wrap64; have := (s[k]).toNat_lt; omega)⟩
      case round =>
        obtain ⟨m, hm, rfl, rfl, rfl⟩ := hrel
        have h1 := refBits_lt m (c := c) hrk
        have h2 := refBits_c m (r := q) hcl
        by_cases hm2 : m < 8
        · have HS : Hid (refBits (m + 1) q c = refBit ((refBits m q c).1, (refBits m q c).2)) := rfl
          generalize (refBits m q c).1 = a at *
          generalize (refBits m q c).2 = d at *
          have HX : Hid (bits .xor .i64 ((a : Int) / 2) 2197175160 = ((a / 2 ^^^ turnsN : Nat) : Int)) := i64_xor_nat (a / 2) 2197175160 (by omega) (by omega)
          by_cases hu : a % 2 = d % 2
          · have hne : ((a : Int) % 2 != (d : Int) % 2) = false := by rw [bne_eq_false_iff_eq]; omega
            have hu2 := Lib.hid hu
            clear hu
            go_wp2
            go_round
            case rel => exact ⟨m + 1, by omega, by go_num, by rw [HS.out]; simp [refBit, hu2.out], by rw [HS.out]; rfl⟩
            case measure => simp [intOf]; omega
          · have hne : ((a : Int) % 2 != (d : Int) % 2) = true := by rw [bne_iff_ne]; omega
            have hu2 := Lib.hid hu
            clear hu
            go_wp2
            go_round
            case rel => exact ⟨m + 1, by omega, by go_num, by rw [HS.out, HX.out]; simp only [refBit]; rw [if_pos hu2.out], by rw [HS.out]; rfl⟩
            case measure => simp [intOf]; omega
        · have hm8 : m = 8 := by omega
          subst hm8
          have HT : Hid ((refBits 8 q c).1 = stepN q c) := (step_ref q c hcl).symm
          generalize (refBits 8 q c).1 = a at *
          generalize (refBits 8 q c).2 = d at *
          go_wp2
          go_round
          case rel => exact ⟨k + 1, by omega, by go_num, by rw [HR.out, HT.out]⟩
          case measure => simp [intOf]; omega
    · have HF : Hid (4294967295 - regN 4294967295 (s.data.toList.take k) = sumN s.data.toList) := by
        show _ = 4294967295 - _
        rw [List.take_of_length_le (by simp; omega)]
      generalize regN 4294967295 (s.data.toList.take k) = r at *
      go_wp2
      go_ret
      exact ⟨by rw [← HF.out]; exact congrArg (fun x => Ending.returned (.int .i64 x)) (by omega), rfl⟩
end Go.Proofs.Ytpnmhpkpkejdiaa
