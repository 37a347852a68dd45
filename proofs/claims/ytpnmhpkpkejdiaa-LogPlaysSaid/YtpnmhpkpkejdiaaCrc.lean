/- The check sum, bit by bit, as a plain function on lists of bytes: no program in sight. -/
namespace Go.Proofs.Ytpnmhpkpkejdiaa
namespace CrcPlain
def turnsN : Nat := 0x82F63B78
/-- the register behind one bit, as the program does it -/
def half (r : Nat) : Nat := if r % 2 = 1 then (r / 2) ^^^ turnsN else r / 2
def halves : Nat → Nat → Nat
  | 0, r => r
  | n + 1, r => half (halves n r)
def stepN (r c : Nat) : Nat := halves 8 (r ^^^ c)
def regN (r : Nat) (l : List UInt8) : Nat := l.foldl (fun r c => stepN r c.toNat) r
def sumN (l : List UInt8) : Nat := 4294967295 - regN 4294967295 l

/-- as the reference does it -/
def refBit (rc : Nat × Nat) : Nat × Nat := (if rc.1 % 2 ≠ rc.2 % 2 then (rc.1 / 2) ^^^ turnsN else rc.1 / 2, rc.2 / 2)
def refBits : Nat → Nat → Nat → Nat × Nat
  | 0, r, c => (r, c)
  | n + 1, r, c => refBit (refBits n r c)

theorem xor_mod_two (a b : Nat) : (a ^^^ b) % 2 = (a % 2 + b % 2) % 2 := by
  have h := Nat.xor_mod_two_pow (a := a) (b := b) (n := 1)
  simp only [Nat.pow_one] at h
  rw [h]
  have ha : a % 2 = 0 ∨ a % 2 = 1 := by omega
  have hb : b % 2 = 0 ∨ b % 2 = 1 := by omega
  rcases ha with ha | ha <;> rcases hb with hb | hb <;> rw [ha, hb] <;> rfl

theorem xor_div_two (a b : Nat) : (a ^^^ b) / 2 = a / 2 ^^^ b / 2 := by
  have h := Nat.xor_div_two_pow (a := a) (b := b) (n := 1)
  simpa using h

theorem xor_can_r {a b c : Nat} (h : a ^^^ c = b ^^^ c) : a = b := by
  have := congrArg (· ^^^ c) h
  simpa [Nat.xor_assoc] using this
theorem xor_can_l {a b c : Nat} (h : c ^^^ a = c ^^^ b) : a = b := xor_can_r (c := c) (by rw [Nat.xor_comm a, Nat.xor_comm b]; exact h)
theorem half_xor (r c : Nat) : half (r ^^^ c) = (refBit (r, c)).1 ^^^ (refBit (r, c)).2 := by
  unfold half refBit
  simp only [xor_mod_two, xor_div_two]
  have ha : r % 2 = 0 ∨ r % 2 = 1 := by omega
  have hb : c % 2 = 0 ∨ c % 2 = 1 := by omega
  rcases ha with ha | ha <;> rcases hb with hb | hb <;> simp [ha, hb]
  · rw [Nat.xor_assoc, Nat.xor_comm (c / 2), ← Nat.xor_assoc]
  · rw [Nat.xor_assoc, Nat.xor_comm (c / 2), ← Nat.xor_assoc]

theorem halves_ref (n r c : Nat) : halves n (r ^^^ c) = (refBits n r c).1 ^^^ (refBits n r c).2 := by
  induction n with
  | zero => rfl
  | succ n ih => simp only [halves, refBits, ih]; exact half_xor _ _

theorem refBits_snd (n r c : Nat) : (refBits n r c).2 = c / 2 ^ n := by
  induction n with
  | zero => simp [refBits]
  | succ n ih => simp only [refBits, refBit, ih, Nat.pow_succ, Nat.div_div_eq_div_mul]

theorem step_ref (r c : Nat) (hc : c < 256) : stepN r c = (refBits 8 r c).1 := by
  unfold stepN
  rw [halves_ref, refBits_snd]
  have : c / 2 ^ 8 = 0 := by omega
  rw [this, Nat.xor_zero]

theorem turns_lt : turnsN < 2 ^ 32 := by decide
theorem half_lt {r : Nat} (h : r < 4294967296) : half r < 4294967296 := by
  unfold half
  split
  · exact Nat.xor_lt_two_pow (n := 32) (by omega) turns_lt
  · omega
theorem halves_lt (n : Nat) {r : Nat} (h : r < 4294967296) : halves n r < 4294967296 := by
  induction n with
  | zero => exact h
  | succ n ih => exact half_lt ih
theorem step_lt {r c : Nat} (h : r < 4294967296) (hc : c < 256) : stepN r c < 4294967296 :=
  halves_lt 8 (Nat.xor_lt_two_pow (n := 32) h (by omega))
theorem reg_lt (l : List UInt8) {r : Nat} (h : r < 4294967296) : regN r l < 4294967296 := by
  induction l generalizing r with
  | nil => exact h
  | cons c l ih => exact ih (step_lt h c.toNat_lt)
theorem reg_append (r : Nat) (a b : List UInt8) : regN r (a ++ b) = regN (regN r a) b := by simp [regN]
theorem sum_lt (l : List UInt8) : sumN l < 4294967296 := by unfold sumN; omega

/-- the top bit tells whether the turn was made -/
theorem xor_turns_big {a : Nat} (h : a < 2147483648) : 2147483648 ≤ a ^^^ turnsN := by
  have h1 : (a ^^^ turnsN).testBit 31 = true := by
    rw [Nat.testBit_xor, Nat.testBit_lt_two_pow (by simpa using h)]; decide
  have := Nat.ge_two_pow_of_testBit h1
  simpa using this

theorem half_inj {a b : Nat} (ha : a < 4294967296) (hb : b < 4294967296) (h : half a = half b) : a = b := by
  unfold half at h
  split at h <;> split at h
  · have h2 : a / 2 = b / 2 := xor_can_r h
    omega
  · have := xor_turns_big (a := a / 2) (by omega); omega
  · have := xor_turns_big (a := b / 2) (by omega); omega
  · omega
theorem halves_inj (n : Nat) {a b : Nat} (ha : a < 4294967296) (hb : b < 4294967296) (h : halves n a = halves n b) : a = b := by
  induction n with
  | zero => exact h
  | succ n ih => exact ih (half_inj (halves_lt n ha) (halves_lt n hb) h)
theorem step_inj_r {a b c : Nat} (ha : a < 4294967296) (hb : b < 4294967296) (hc : c < 256) (h : stepN a c = stepN b c) : a = b :=
  xor_can_r (halves_inj 8 (Nat.xor_lt_two_pow (n := 32) ha (by omega)) (Nat.xor_lt_two_pow (n := 32) hb (by omega)) h)
theorem step_inj_c {r c d : Nat} (hr : r < 4294967296) (hc : c < 256) (hd : d < 256) (h : stepN r c = stepN r d) : c = d :=
  xor_can_l (halves_inj 8 (Nat.xor_lt_two_pow (n := 32) hr (by omega)) (Nat.xor_lt_two_pow (n := 32) hr (by omega)) h)
theorem reg_inj (l : List UInt8) {a b : Nat} (ha : a < 4294967296) (hb : b < 4294967296) (h : regN a l = regN b l) : a = b := by
  induction l generalizing a b with
  | nil => exact h
  | cons c l ih => exact step_inj_r ha hb c.toNat_lt (ih (step_lt ha c.toNat_lt) (step_lt hb c.toNat_lt) h)
/-- one byte turned is told -/
theorem sum_turn (a b : List UInt8) (c d : UInt8) (h : sumN (a ++ c :: b) = sumN (a ++ d :: b)) : c = d := by
  unfold sumN at h
  rw [reg_append, reg_append] at h
  have hr : regN 4294967295 a < 4294967296 := reg_lt a (by omega)
  have h1 : regN (regN 4294967295 a) (c :: b) < 4294967296 := reg_lt _ hr
  have h2 : regN (regN 4294967295 a) (d :: b) < 4294967296 := reg_lt _ hr
  have h3 : regN (regN 4294967295 a) (c :: b) = regN (regN 4294967295 a) (d :: b) := by omega
  have h4 := reg_inj b (step_lt hr c.toNat_lt) (step_lt hr d.toNat_lt) h3
  have h5 := step_inj_c hr c.toNat_lt d.toNat_lt h4
  exact UInt8.toNat_inj.1 h5
end CrcPlain
end Go.Proofs.Ytpnmhpkpkejdiaa
