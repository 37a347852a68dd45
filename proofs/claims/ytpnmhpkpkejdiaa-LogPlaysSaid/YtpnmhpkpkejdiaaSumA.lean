/- The walks of sum.step, sum.Of and the reference's Of: each comes to the plain check sum of the text(s). -/
import Derived.Test.YtpnmhpkpkejdiaaRows
import Derived.Test.YtpnmhpkpkejdiaaCrc
import Derived.WalkKit
import Derived.WalkSpells
import Derived.WalkLawsBesides
import Derived.Deep.QuietTactic
import Derived.BigQuiet
import Derived.Lib.Hide
namespace Go.Proofs.Ytpnmhpkpkejdiaa
open Go.RowKit CrcPlain

theorem stepArg_lt {r c : Nat} (hr : r < 4294967296) (hc : c < 256) : r ^^^ c < 4294967296 := Nat.xor_lt_two_pow (n := 32) hr (by omega)

theorem and_one (h : Nat) (hh : h < 4294967296) : bits .and .u32 (h : Int) 1 = ((h % 2 : Nat) : Int) := by
  have := u32_and_nat h 1 hh (by omega)
  rw [← Nat.and_one_is_mod]; exact this

set_option maxHeartbeats 400000 in
theorem step_any (r c : Nat) (hr : r < 4294967296) (hc : c < 256) (w : World) :
    Calls Try.prog 53 #[.int .u32 (r : Int), .int .u8 (c : Int)] w fun e w' => e = .returned (.int .u32 (stepN r c : Nat)) ∧ w = w' := by
  have hx := u32_xor_nat r c hr (by omega)
  have hxl := stepArg_lt hr hc
  go_enter Try.func53, Try.ntmps53
  go_wp2
  go_loop [0, 10] (fun s i => ∃ k : Nat, k ≤ 8 ∧ i = .int .i64 k ∧ s = .int .u32 (halves k (r ^^^ c) : Nat)) (fun _ i => 8 - (intOf i).toNat)
  case atStart => exact ⟨0, by omega, rfl, rfl⟩
  case round =>
    obtain ⟨k, hk, rfl, rfl⟩ := hrel
    have hl := halves_lt k hxl
    generalize hg : halves k (r ^^^ c) = h at *
    have HG := Lib.hid hg
    clear hg hx hxl
    have ha := and_one h hl
    have hxx : bits .xor .u32 ((h : Int) / 2) 2197175160 = ((h / 2 ^^^ turnsN : Nat) : Int) := u32_xor_nat (h / 2) 2197175160 (by omega) (by omega)
    have HX := Lib.hid hxx
    clear hxx
    by_cases hlt : k < 8
    · by_cases hodd : h % 2 = 1
      · have hmod : ((h : Int) % 2 == 1) = true := by simp; omega
        have hod := Lib.hid hodd
        clear hodd
        go_wp2
        go_round
        case rel => exact ⟨k + 1, by omega, by go_num, by rw [HX.out]; show _ = Value.int .u32 (half (halves k (r ^^^ c)) : Nat); rw [HG.out, half, if_pos hod.out]⟩
        case measure => simp [intOf]; omega
      · have hmod : ((h : Int) % 2 == 1) = false := by simp; omega
        have hod := Lib.hid hodd
        clear hodd
        go_wp2
        go_round
        case rel => exact ⟨k + 1, by omega, by go_num, by show _ = Value.int .u32 (half (halves k (r ^^^ c)) : Nat); rw [HG.out, half, if_neg hod.out]; rfl⟩
        case measure => simp [intOf]; omega
    · go_wp2
      go_ret
      have : k = 8 := by omega
      subst this
      exact ⟨by rw [← HG.out]; rfl, rfl⟩

/-- the sum of texts, one behind the other -/
def flat (l : List ByteArray) : List UInt8 := (l.map (fun s => s.data.toList)).flatten

theorem take_snoc (s : ByteArray) (k : Nat) (h : k < s.size) : s.data.toList.take (k + 1) = s.data.toList.take k ++ [s[k]] := by
  rw [List.take_succ_eq_append_getElem (by simpa using h)]; rfl

theorem flat_snoc (ss : List ByteArray) (j : Nat) (hj : j < ss.length) : flat (ss.take (j + 1)) = flat (ss.take j) ++ (ss.getD j ByteArray.empty).data.toList := by
  have h1 : ss.take (j + 1) = ss.take j ++ [ss[j]] := by rw [List.take_add_one, List.getElem?_eq_getElem hj]; rfl
  rw [h1]; simp only [flat, List.map_append, List.flatten_append, List.map_cons, List.map_nil, List.flatten_cons, List.flatten_nil, List.append_nil, List.getD, List.getElem?_eq_getElem hj, Option.getD_some]

/-- the register behind the first j texts -/
def regAt (ss : List ByteArray) (j : Nat) : Nat := regN 4294967295 (flat (ss.take j))
theorem regAt_lt (ss : List ByteArray) (j : Nat) : regAt ss j < 4294967296 := reg_lt _ (by omega)
theorem regAt_succ (ss : List ByteArray) (j : Nat) (hj : j < ss.length) : regAt ss (j + 1) = regN (regAt ss j) (ss.getD j ByteArray.empty).data.toList := by
  unfold regAt; rw [flat_snoc ss j hj, reg_append]
theorem regN_snoc (r : Nat) (s : ByteArray) (k : Nat) (h : k < s.size) : regN r (s.data.toList.take (k + 1)) = stepN (regN r (s.data.toList.take k)) (s[k]).toNat := by
  rw [take_snoc s k h, reg_append]; rfl
theorem regAt_full (ss : List ByteArray) : 4294967295 - regAt ss ss.length = sumN (flat ss) := by unfold regAt sumN; rw [List.take_length]
theorem not_reg (r : Nat) (h : r < 4294967296) : bits .xor .u32 IntKind.u32.max (r : Int) = 4294967295 - (r : Int) := by
  have h1 := u32_xor_nat 4294967295 r (by omega) h
  have h2 : 4294967295 ^^^ r = 4294967295 - r := by
    apply Nat.eq_of_testBit_eq
    intro i
    rw [Nat.testBit_xor, show (4294967295 : Nat) - r = 2 ^ 32 - (r + 1) from by omega, Nat.testBit_two_pow_sub_succ h, show (4294967295 : Nat) = 2 ^ 32 - 1 from rfl, Nat.testBit_two_pow_sub_one]
    by_cases hi : i < 32
    · simp [hi]
    · simp [hi]; exact Nat.testBit_lt_two_pow (Nat.lt_of_lt_of_le h (Nat.pow_le_pow_right (n := 2) (by omega) (by omega : 32 ≤ i)))
  rw [h2] at h1
  have h3 : ((4294967295 - r : Nat) : Int) = 4294967295 - (r : Int) := by omega
  rw [← h3]; exact h1

set_option maxHeartbeats 400000 in
theorem of_any (b off n cap : Nat) (ss : List ByteArray) (w : World) (hn : n ≤ maxLen) (hl : ss.length = n) (hs : ∀ s ∈ ss, s.size ≤ maxLen)
    (hc : ∀ j, j < n → w.cell? ⟨b, off + j, none⟩ = some (.string (ss.getD j ByteArray.empty))) :
    Calls Try.prog 17 #[.slice (some ⟨b, off, none⟩) n cap] w fun e w' => e = .returned (.int .i64 (sumN (flat ss) : Nat)) ∧ w = w' := by
  unfold maxLen at hn
  have HL := Lib.hid hl
  have HS := Lib.hid hs
  have HC := Lib.hid hc
  clear hl hs hc
  go_enter Try.func17, Try.ntmps17
  go_wp2
  go_loop [3, 9] (fun r i => ∃ j : Nat, j ≤ n ∧ i = .int .i64 j ∧ r = .int .u32 (regAt ss j : Nat)) (fun _ i => n - (intOf i).toNat)
  case atStart => exact ⟨0, by omega, rfl, rfl⟩
  case round =>
    obtain ⟨j, hj, rfl, rfl⟩ := hrel
    have hrl := regAt_lt ss j
    by_cases hlt : j < n
    · have hc := HC.out j hlt
      have hsz : (ss.getD j ByteArray.empty).size ≤ maxLen := by
        have hj' : j < ss.length := by rw [HL.out]; exact hlt
        rw [List.getD, List.getElem?_eq_getElem hj']
        exact HS.out _ (List.getElem_mem hj')
      have HR : Hid (regAt ss (j + 1) = regN (regAt ss j) (ss.getD j ByteArray.empty).data.toList) := regAt_succ ss j (by rw [HL.out]; exact hlt)
      unfold maxLen at hsz
      generalize ss.getD j ByteArray.empty = s at *
      generalize regAt ss j = r at *
      go_wp2
      go_loop [3, 15] (fun r' i => ∃ k : Nat, k ≤ s.size ∧ i = .int .i64 k ∧ r' = .int .u32 (regN r (s.data.toList.take k) : Nat)) (fun _ i => s.size - (intOf i).toNat)
      case atStart => exact ⟨0, by omega, rfl, rfl⟩
      case round =>
        obtain ⟨k, hk, rfl, rfl⟩ := hrel
        have hrk := reg_lt (s.data.toList.take k) hrl
        by_cases hk2 : k < s.size
        · have HR2 : Hid (regN r (s.data.toList.take (k + 1)) = stepN (regN r (s.data.toList.take k)) (s[k]).toNat) := regN_snoc r s k hk2
          have hcl : (s[k]).toNat < 256 := (s[k]).toNat_lt
          generalize regN r (s.data.toList.take k) = q at *
          go_wp2_with (go_at_call 53; refine (step_any _ _ hrk hcl _).mono ?_; rintro e w' ⟨rfl, rfl⟩)
          go_round
          case rel => exact ⟨k + 1, by omega, rfl, by rw [HR2.out]⟩
          case measure => simp [intOf]; omega
        · go_wp2
          have : k = s.size := by omega
          subst this
          go_round
          case rel => exact ⟨j + 1, by omega, by go_num, by rw [HR.out, List.take_of_length_le (by simp)]⟩
          case measure => simp [intOf]; omega
    · have hjn : j = n := by omega
      have hnr := not_reg _ hrl
      have HF : Hid (4294967295 - regAt ss j = sumN (flat ss)) := by rw [hjn, ← HL.out]; exact regAt_full ss
      clear hjn
      generalize regAt ss j = r at *
      go_wp2
      go_ret
      exact ⟨by rw [← HF.out]; exact congrArg (fun x => Ending.returned (.int .i64 x)) (by unfold wrap64; omega), rfl⟩
end Go.Proofs.Ytpnmhpkpkejdiaa
