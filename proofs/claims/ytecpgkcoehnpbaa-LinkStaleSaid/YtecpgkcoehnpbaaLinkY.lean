/- Layer 17: two pairs of a law's own, side by side. -/
import Derived.Test.YtecpgkcoehnpbaaLinkX
namespace Go.Proofs.Ytecpgkcoehnpbaa
open Go.RowKit

/-- the numbers of a pair's blocks -/
structure PNum where
  P : Nat
  go : Nat
  gi : Nat
  gw : Nat
/-- two pairs, no block in common, all within U -/
def Both (U : Nat → Prop) (w : World) (A B : PNum) (sa sb : PSt) : Prop :=
  ∃ Fa Fb : Nat → Prop, PairAt w Fa A.P A.go A.gi A.gw sa ∧ PairAt w Fb B.P B.go B.gi B.gw sb ∧ (∀ k, Fa k → U k ∧ ¬ Fb k) ∧ ∀ k, Fb k → U k

section
variable {U : Nat → Prop} {w : World} {A B : PNum} {sa sb : PSt}
theorem Both.tight {V : Nat → Prop} (h : Both U w A B sa sb) (hV : ∀ k, k < w.heap.size → U k → V k) : Both V w A B sa sb := by
  obtain ⟨Fa, Fb, h1, h2, h3, h4⟩ := h
  exact ⟨_, _, h1.tight, h2.tight, fun k hk => ⟨hV k hk.2 (h3 k hk.1).1, fun x => (h3 k hk.1).2 x.1⟩, fun k hk => hV k hk.2 (h4 k hk.1)⟩
theorem Both.below {w' : World} {C : Nat} (h : Both U w A B sa sb) (hb : Below C w w') (hC : w.heap.size ≤ C) : Both U w' A B sa sb := by
  obtain ⟨Fa, Fb, h1, h2, h3, h4⟩ := h
  exact ⟨Fa, Fb, h1.below hb hC, h2.below hb hC, h3, h4⟩
theorem Both.fst (h : Both U w A B sa sb) : ∃ F, PairAt w F A.P A.go A.gi A.gw sa := by obtain ⟨Fa, Fb, h1, h2, h3, h4⟩ := h; exact ⟨_, h1⟩
theorem Both.snd (h : Both U w A B sa sb) : ∃ F, PairAt w F B.P B.go B.gi B.gw sb := by obtain ⟨Fa, Fb, h1, h2, h3, h4⟩ := h; exact ⟨_, h2⟩
/-- the first turns -/
theorem Both.a (h : Both U w A B sa sb) : ∃ F, PairAt w F A.P A.go A.gi A.gw sa ∧ ∀ w' s', PairAt w' (fun k => (F k ∧ k < w.heap.size) ∨ w.heap.size ≤ k) A.P A.go A.gi A.gw s' → Chg w w' F → Both (fun k => U k ∨ w.heap.size ≤ k) w' A B s' sb ∧ Chg w w' U := by
  obtain ⟨Fa, Fb, h1, h2, h3, h4⟩ := h
  refine ⟨Fa, h1, fun w' s' p c => ⟨⟨_, _, p, h2.tight.chg c (fun k hk x => (h3 k x).2 hk.1), fun k hk => ?_, fun k hk => .inl (h4 k hk.1)⟩, c.mono fun k _ hk => (h3 k hk).1⟩⟩
  rcases hk with ⟨hk, hl⟩ | hk
  · exact ⟨.inl (h3 k hk).1, fun x => (h3 k hk).2 x.1⟩
  · exact ⟨.inr hk, fun x => absurd x.2 (by omega)⟩
/-- the second turns -/
theorem Both.b (h : Both U w A B sa sb) : ∃ F, PairAt w F B.P B.go B.gi B.gw sb ∧ ∀ w' s', PairAt w' (fun k => (F k ∧ k < w.heap.size) ∨ w.heap.size ≤ k) B.P B.go B.gi B.gw s' → Chg w w' F → Both (fun k => U k ∨ w.heap.size ≤ k) w' A B sa s' ∧ Chg w w' U := by
  obtain ⟨Fa, Fb, h1, h2, h3, h4⟩ := h
  refine ⟨Fb, h2, fun w' s' p c => ⟨⟨_, _, h1.tight.chg c (fun k hk x => (h3 k hk.1).2 x), p, fun k hk => ⟨.inl (h3 k hk.1).1, fun x => ?_⟩, fun k hk => hk.imp (fun x => h4 k x.1) id⟩, c.mono fun k _ hk => h4 k hk⟩⟩
  rcases x with ⟨x, _⟩ | x
  · exact (h3 k hk.1).2 x
  · exact absurd hk.2 (by omega)
end
end Go.Proofs.Ytecpgkcoehnpbaa
