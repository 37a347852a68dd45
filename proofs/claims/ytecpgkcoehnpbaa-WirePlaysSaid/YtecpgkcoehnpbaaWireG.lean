/- Layer 16: two appends, one behind the other, onto the law's own list. -/
import Derived.Test.YtecpgkcoehnpbaaWireF
import Derived.Test.YtecpgkcoehnpbaaAnyTwo
namespace Go.Proofs.Ytecpgkcoehnpbaa
open Go.RowKit

/-- append(append(vf, v...), p): the packet's row rp lies there already, in X -/
theorem two_pair {B g : Nat} {X : Nat → Prop} {w : World} {l : List Pk} {vf : Value} (h : Two B X w g l vf []) (hB : B ≤ w.heap.size) {v : Value} {l2 : List Pk} (hv : News w 6 v l2.length (pksCells l2)) (hl : l2.length ≤ 500) {rp : Nat} {p : Pk} (hp : w.heap[rp]? = some (pkObj p)) (hX : X rp) :
    ∃ ao1 c1 w1 ao2 c2 w2, Sem.run Try.prog (Builtin.append_ #[28, 28] 28 #[vf, v]) w = .ok (.slice ao1 l2.length c1) w1 ∧
      Sem.run Try.prog (Builtin.append_ #[28, 28] 28 #[.slice ao1 l2.length c1, .slice (some ⟨rp, 0, none⟩) 1 1]) w1 = .ok (.slice ao2 (l2 ++ [p]).length c2) w2 ∧
      Two B X w2 g l (.slice ao2 (l2 ++ [p]).length c2) (l2 ++ [p]) ∧ Below B w w2 ∧ Kept X w w1 ∧ Kept X w w2 := by
  obtain ⟨ao1, c1, w1, hr1, hT1, hB1, hK1⟩ := two_append h hB l2 v hv (by simp; omega)
  rw [List.nil_append] at hr1 hT1
  have z1 := hB1.size
  obtain ⟨ao2, c2, w2, hr2, hT2, hB2, hK2⟩ := two_append hT1 (Nat.le_trans hB z1) [p] _ (News.pk (c := 1) p (hK1 _ _ hX hp)) (by simp; omega)
  exact ⟨ao1, c1, w1, ao2, c2, w2, hr1, hr2, hT2, hB1.trans hB2, hK1, fun k o x hk => hK2 k o x (hK1 k o x hk)⟩
end Go.Proofs.Ytecpgkcoehnpbaa
