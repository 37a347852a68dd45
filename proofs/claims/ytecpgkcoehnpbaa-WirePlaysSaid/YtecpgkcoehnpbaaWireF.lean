/- Layer 16: what WirePlays' own statements make of its list, beside the wire. -/
import Derived.Test.YtecpgkcoehnpbaaWireE
namespace Go.Proofs.Ytecpgkcoehnpbaa
open Go.RowKit

section
variable {B g : Nat} {X : Nat → Prop} {w : World} {l : List Pk} {v : Value} {l2 : List Pk}
/-- an empty slice of the law's own takes the place of the slice, whose block is kept -/
theorem Two.anew (h : Two B X w g l v l2) (hB : B ≤ w.heap.size) :
    Two B (fun k => X k ∨ v.ownBlock = some k) (w.alloc (.cells #[] 23)) g l (.slice (some ⟨w.heap.size, 0, none⟩) 0 0) [] := by
  obtain ⟨F, G, h1, h2, h3, h4, h5⟩ := h
  have own : ∀ k, v.ownBlock = some k → G k ∧ k < w.heap.size := fun k hk => own_lt h2 hk
  refine ⟨F, fun k => k = w.heap.size, h1.chg ((Chg.refl w (fun _ => False)).alloc _) (fun _ _ x => x), ⟨rfl, .inr ⟨_, 0, 0, #[], rfl, rfl, heap_alloc_new _ _, Nat.le_refl _, by unfold maxLen; omega, by simp, by simp [pksCells]⟩⟩, fun k hk => ⟨(h3 k hk).1, ?_, fun x => ?_⟩, fun k hk => ⟨?_, ?_, fun x => ?_, fun x => ?_⟩, fun k x => ?_⟩
  · rw [World.size_alloc]; have := (h3 k hk).2.1; omega
  · rcases x with x | x
    · exact (h3 k hk).2.2 x
    · exact (h4 _ (own k x).1).2.2.2 hk
  · have : k = w.heap.size := hk; omega
  · rw [World.size_alloc]; have : k = w.heap.size := hk; omega
  · have : k = w.heap.size := hk
    rcases x with x | x
    · have := h5 k x; omega
    · have := (own k x).2; omega
  · have : k = w.heap.size := hk; have := (h3 k x).2.1; omega
  · rw [World.size_alloc]
    rcases x with x | x
    · have := h5 k x; omega
    · have := (own k x).2; omega

/-- the law's list is let go -/
theorem Two.nil (h : Two B X w g l v l2) : Two B X w g l (.slice none 0 0) [] := by
  obtain ⟨F, G, h1, h2, h3, h4, h5⟩ := h
  exact ⟨F, fun _ => False, h1, Sl.nil _ _ _ _, h3, fun _ x => x.elim, h5⟩
/-- the slice is copied: append([]T{}, v...) -/
theorem two_copy (h : Two B X w g l v l2) (hB : B ≤ w.heap.size) (hl : l2.length ≤ 500) : ∃ ao c w1, Sem.run Try.prog (Builtin.append_ #[28, 28] 28 #[.slice (some ⟨w.heap.size, 0, none⟩) 0 0, v]) (w.alloc (.cells #[] 23)).drew = .ok (.slice ao l2.length c) w1 ∧
    Two B X w1 g l (.slice ao l2.length c) l2 ∧ Below B w w1 ∧ Kept (fun k => X k ∨ v.ownBlock = some k) w w1 := by
  obtain ⟨G, hsl⟩ := h.slice
  have hf := (h.anew hB).drew
  have zf : ((w.alloc (.cells #[] 23)).drew).heap.size = w.heap.size + 1 := World.size_alloc _ _
  obtain ⟨ao1, c1, w1, hr1, hT1, hB1, hK1⟩ := two_append hf (by omega) l2 v (News.of_sl hsl (pks_one _) (fun k hk hlt => Below.heap_alloc w _ k hlt)) (by simp; omega)
  rw [List.nil_append] at hr1 hT1
  have e : ([] : List Pk).length + l2.length = l2.length := by simp
  refine ⟨ao1, c1, w1, hr1, hT1.next (Below.refl w1.heap.size w1) (Nat.le_refl _) (fun k x => ⟨.inl (.inl x), by obtain ⟨_, _, _, _, _, _, h5⟩ := hT1; exact h5 k (.inl x)⟩), ((Below.refl B w).alloc hB _).drew.trans hB1, fun k o x hk => hK1 k o x ((Below.heap_alloc w _ k (heap_lt hk)).trans hk)⟩

theorem two_all (h : Two B X w g l v l2) (hB : B ≤ w.heap.size) (hl : l.length ≤ 1000) :
    Calls Try.prog 34 #[.pointer (some ⟨g, 0, none⟩)] w fun e w' => ∃ u, e = .returned u ∧ (∃ F, Sl w' F 23 6 u l.length (pksCells l)) ∧ Two B X w' g l v l2 ∧ Below B w w' := by
  obtain ⟨F, h1⟩ := h.wire
  refine (wireAll_any g l F w h1 hl).mono fun e w' ⟨u, a, b, c⟩ => ?_
  have hb : Below w.heap.size w w' := c.below (Nat.le_refl _) (fun _ _ x => x)
  exact ⟨u, a, ⟨_, b⟩, h.below hb (Nat.le_refl _), hb.mono hB⟩
end
end Go.Proofs.Ytecpgkcoehnpbaa
