/- A packet as an argument. -/
import Derived.Test.YtecpgkcoehnpbaaArgs
import Derived.Test.YtecpgkcoehnpbaaLinkG
namespace Go.Proofs.Ytecpgkcoehnpbaa
open Go.ChangeShapes Go.WideShapes Go.ChangeAt Go.RowKit Go.Deep

theorem under_int : Try.prog.underlying 3 = some (.int .i64) := by kernel_rfl
theorem cells_int : Try.prog.cellsOf 3 = 1 := by kernel_rfl
theorem cells_str : Try.prog.cellsOf 9 = 1 := by kernel_rfl
theorem cells_pk : Try.prog.cellsOf 23 = 6 := by kernel_rfl

def inI64 (n : Int) : Prop := -9223372036854775808 ≤ n ∧ n ≤ 9223372036854775807
def PkOk (p : Pk) : Prop := inI64 p.ch ∧ inI64 p.back ∧ inI64 p.inc ∧ inI64 p.seq ∧ inI64 p.ack ∧ p.load.size ≤ 140737488351232

section
variable {H : Type} {enc : TypeId × Value → H} {W : World} {base : Nat} {spare : Nat → Bool} {held : Bool}
theorem rdInt {fuel : Nat} {c : Value} {y : Option (DataW H × List MemPlace)} (h : DataW.trod enc Try.prog W base spare held fuel 3 [c] = y) (hy : y.isSome = true) : ∃ n, c = .int .i64 n ∧ inI64 n := by
  obtain ⟨z, rfl⟩ := Option.isSome_iff_exists.1 hy
  obtain ⟨n, h1, _, h3⟩ := DataW.trod_int under_int h
  simp at h1
  exact ⟨n, h1, bounds_i64 h3⟩
theorem rdStr {fuel : Nat} {c : Value} {y : DataW H × List MemPlace} (h : DataW.trod enc Try.prog W base spare held fuel 9 [c] = some y) : ∃ s, c = .string s ∧ y.1 = .lit (.string s.data.toList) := by
  obtain ⟨s, h1, h2, _⟩ := DataW.trod_string under_str h
  simp at h1
  exact ⟨s, h1, by rw [h2]⟩

theorem rdPk (fuel : Nat) (cs : List Value) (y : DataW H × List MemPlace) (h : DataW.trod enc Try.prog W base spare held fuel 23 cs = some y) (hw : ∀ n ∈ y.1.weights Try.prog 23, n ≤ 140737488351232) : ∃ p : Pk, cs = pkCells p ∧ PkOk p := by
  obtain ⟨xs, n, _, hx, hcl, hlen, hg⟩ := DataW.trod_struct Try.underlying23 h
  rw [cells_pk] at hcl
  match cs, hcl with
  | [c0, c1, c2, c3, c4, c5], _ =>
    match xs, hlen with
    | [y0, y1, y2, y3, y4, y5], _ =>
      obtain ⟨n0, rfl, b0⟩ := rdInt (by simpa [cells_int] using hg 0 _ rfl) rfl
      obtain ⟨n1, rfl, b1⟩ := rdInt (by simpa [cells_int] using hg 1 _ rfl) rfl
      obtain ⟨n2, rfl, b2⟩ := rdInt (by simpa [cells_int] using hg 2 _ rfl) rfl
      obtain ⟨n3, rfl, b3⟩ := rdInt (by simpa [cells_int] using hg 3 _ rfl) rfl
      obtain ⟨n4, rfl, b4⟩ := rdInt (by simpa [cells_int] using hg 4 _ rfl) rfl
      obtain ⟨s, rfl, hs⟩ := rdStr (y := y5) (by simpa [cells_str] using hg 5 _ rfl)
      refine ⟨⟨n0, n1, n2, n3, n4, s⟩, rfl, b0, b1, b2, b3, b4, ?_⟩
      refine hw _ ?_
      subst hx
      simp only [DataW.weights, Try.underlying23]
      refine DataW.weights_mem_each (j := 5) (t := 9) (d := y5.1) rfl rfl _ ?_
      rw [hs, DataW.weights]
      exact List.mem_singleton.2 rfl

/-- a packet by value -/
theorem pkArg {base0 : Nat} {v : Value} {d : DataW H} {p1 : List MemPlace} (hok : Value.okWide Try.prog W .any base0 23 v) (h : DataW.Trod enc Try.prog W base spare held 23 v d p1) (hw : ∀ n ∈ d.weights Try.prog 23, n ≤ 140737488351232) :
    ∃ p : Pk, v = .agg #[.int .i64 p.ch, .int .i64 p.back, .int .i64 p.inc, .int .i64 p.seq, .int .i64 p.ack, .string p.load] ∧ PkOk p := by
  obtain ⟨cs, rfl, _⟩ := okWide_struct Try.underlying23 hok
  obtain ⟨fuel, hf⟩ := h
  obtain ⟨p, h1, h2⟩ := rdPk fuel _ _ hf hw
  refine ⟨p, ?_, h2⟩
  have : cs.toList = pkCells p := h1
  have h3 : cs = (pkCells p).toArray := by rw [← this]
  rw [h3]; rfl
end
end Go.Proofs.Ytecpgkcoehnpbaa
