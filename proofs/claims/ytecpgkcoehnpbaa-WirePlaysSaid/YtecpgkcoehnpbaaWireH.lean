/- Layer 16: three appends, one behind the other, onto the law's own list: the head of a list, a packet, the list's rest. -/
import Derived.Test.YtecpgkcoehnpbaaWireG
namespace Go.Proofs.Ytecpgkcoehnpbaa
open Go.RowKit

section
variable {B g : Nat} {X : Nat → Prop} {w : World} {l : List Pk} {vf va vb : Value} {la lb : List Pk} {F1 F2 : Nat → Prop}
theorem kept_news (hs : Sl w F1 23 6 va la.length (pksCells la)) (hX : ∀ k, va.ownBlock = some k → X k) {w' : World} (hk : Kept X w w') : News w' 6 va la.length (pksCells la) :=
  News.of_sl hs (pks_one _) (fun k hk' hl => by
    obtain ⟨o, ho⟩ : ∃ o, w.heap[k]? = some o := ⟨_, Array.getElem?_eq_getElem hl⟩
    rw [ho]; exact hk k o (hX k hk') ho)

/-- the packet's row lies there already, in X -/
theorem two_tripB (h : Two B X w g l vf []) (hB : B ≤ w.heap.size) (hv : Sl w F1 23 6 va la.length (pksCells la))
    (hb : Sl w F2 23 6 vb lb.length (pksCells lb)) (hbX : ∀ k, vb.ownBlock = some k → X k) (hl : la.length + lb.length ≤ 500) {rp : Nat} {p : Pk} (hp : w.heap[rp]? = some (pkObj p)) (hX : X rp) :
    ∃ ao1 c1 w1 ao2 c2 w2 ao3 c3 w3, Sem.run Try.prog (Builtin.append_ #[28, 28] 28 #[vf, va]) w = .ok (.slice ao1 la.length c1) w1 ∧
      Sem.run Try.prog (Builtin.append_ #[28, 28] 28 #[.slice ao1 la.length c1, .slice (some ⟨rp, 0, none⟩) 1 1]) w1 = .ok (.slice ao2 (la.length + 1) c2) w2 ∧
      Sem.run Try.prog (Builtin.append_ #[28, 28] 28 #[.slice ao2 (la.length + 1) c2, vb]) w2 = .ok (.slice ao3 (la ++ [p] ++ lb).length c3) w3 ∧
      Two B X w3 g l (.slice ao3 (la ++ [p] ++ lb).length c3) (la ++ [p] ++ lb) ∧ Below B w w3 ∧ Kept X w w1 ∧ Kept X w w2 ∧ Kept X w w3 := by
  obtain ⟨ao1, c1, w1, hr1, hT1, hB1, hK1⟩ := two_append h hB la va (hv.news (pks_one _)) (by simp; omega)
  rw [List.nil_append] at hr1 hT1
  have z1 := hB1.size
  obtain ⟨ao2, c2, w2, hr2, hT2, hB2, hK2⟩ := two_append hT1 (Nat.le_trans hB z1) [p] _ (News.pk (c := 1) p (hK1 _ _ hX hp)) (by simp; omega)
  have z2 := hB2.size
  have K2 : Kept X w w2 := fun k o x hk => hK2 k o x (hK1 k o x hk)
  obtain ⟨ao3, c3, w3, hr3, hT3, hB3, hK3⟩ := two_append hT2 (Nat.le_trans hB (Nat.le_trans z1 z2)) lb vb (kept_news hb hbX K2) (by simp; omega)
  have e2 : (la ++ [p]).length = la.length + 1 := by simp
  rw [e2] at hr2 hr3
  exact ⟨ao1, c1, w1, ao2, c2, w2, ao3, c3, w3, hr1, hr2, hr3, hT3, (hB1.trans hB2).trans hB3, hK1, K2, fun k o x hk => hK3 k o x (K2 k o x hk)⟩

/-- the packet's row is laid behind the first append -/
theorem two_tripA (h : Two B X w g l vf []) (hB : B ≤ w.heap.size) (hv : Sl w F1 23 6 va la.length (pksCells la))
    (hb : Sl w F2 23 6 vb lb.length (pksCells lb)) (hbX : ∀ k, vb.ownBlock = some k → X k) (hl : la.length + lb.length ≤ 500) (p : Pk) :
    ∃ ao1 c1 w1 ao2 c2 w2 ao3 c3 w3, Sem.run Try.prog (Builtin.append_ #[28, 28] 28 #[vf, va]) w = .ok (.slice ao1 la.length c1) w1 ∧
      Sem.run Try.prog (Builtin.append_ #[28, 28] 28 #[.slice ao1 la.length c1, .slice (some ⟨w1.heap.size, 0, none⟩) 1 1]) (w1.alloc (pkObj p)) = .ok (.slice ao2 (la.length + 1) c2) w2 ∧
      Sem.run Try.prog (Builtin.append_ #[28, 28] 28 #[.slice ao2 (la.length + 1) c2, vb]) w2 = .ok (.slice ao3 (la ++ [p] ++ lb).length c3) w3 ∧
      Two B X w3 g l (.slice ao3 (la ++ [p] ++ lb).length c3) (la ++ [p] ++ lb) ∧ Below B w w3 ∧ Kept X w w1 ∧ Kept X w (w1.alloc (pkObj p)) ∧ Kept X w w2 ∧ Kept X w w3 := by
  obtain ⟨ao1, c1, w1, hr1, hT1, hB1, hK1⟩ := two_append h hB la va (hv.news (pks_one _)) (by simp; omega)
  rw [List.nil_append] at hr1 hT1
  have z1 := hB1.size
  have hTa := hT1.below ((Below.refl w1.heap.size w1).alloc (Nat.le_refl _) (pkObj p)) (Nat.le_refl _)
  have za : (w1.alloc (pkObj p)).heap.size = w1.heap.size + 1 := World.size_alloc _ _
  have Ka : Kept X w (w1.alloc (pkObj p)) := fun k o x hk => heap_alloc_same (hK1 k o x hk) _
  obtain ⟨ao2, c2, w2, hr2, hT2, hB2, hK2⟩ := two_append hTa (by omega) [p] _ (News.pk (c := 1) p (heap_alloc_new w1 (pkObj p))) (by simp; omega)
  have z2 := hB2.size
  have K2 : Kept X w w2 := fun k o x hk => hK2 k o x (Ka k o x hk)
  obtain ⟨ao3, c3, w3, hr3, hT3, hB3, hK3⟩ := two_append hT2 (by omega) lb vb (kept_news hb hbX K2) (by simp; omega)
  have e2 : (la ++ [p]).length = la.length + 1 := by simp
  rw [e2] at hr2 hr3
  exact ⟨ao1, c1, w1, ao2, c2, w2, ao3, c3, w3, hr1, hr2, hr3, hT3, ((hB1.alloc (Nat.le_trans hB z1) _).trans hB2).trans hB3, hK1, Ka, K2, fun k o x hk => hK3 k o x (K2 k o x hk)⟩
end
theorem insPk_split (l : List Pk) (i : Nat) (p : Pk) : l.take i ++ [p] ++ l.drop i = insPk l i p := by simp [insPk]
/-- the own block of a slice that is cut -/
theorem own_dropS {v : Value} {k n : Nat} {b : Nat} (h : (dropS v k n).ownBlock = some b) : v.ownBlock = some b := by
  cases v <;> simp only [dropS] at h <;> try exact h
  rename_i a len cap
  split at h
  · cases a with
    | none => simp [Value.ownBlock] at h
    | some a => exact h
  · cases a with
    | none => simp [Value.ownBlock] at h
    | some a => simp only [Value.ownBlock, Option.map_some, add_block, Option.some.injEq] at h ⊢; exact h
theorem run_take_all {P : Program} {size : Nat} (w : World) (t : TypeId) (ht : P.underlying t = some (.slice (P.elem t))) (hs : (P.info? (P.elem t)).map (·.size) = some size) {ao : Option Addr} {n cap k : Nat} (hk : k ≤ cap) :
    Sem.run P (Instr.slice t (.slice ao n cap) none (some (.int .i64 (k : Int))) none) w = .ok (.slice ao k cap) w := by
  rw [run_slice_h (P := P) w t ao n cap ht .i64 k (by omega) (by omega)]
  obtain ⟨i, hi, hsz⟩ := Option.map_eq_some_iff.1 hs
  have e : (fun x : Addr => x.add 0) = id := by funext x; simp [Addr.add]
  simp [sizeOf, typeInfo, hi, hsz, sliced, Result.andThen, e]
theorem exec_cut_hi {P : Program} {w : World} {o : Oper} {ρ : Operand → Value} {x hi : Operand} {t : TypeId} (ho : o.op = .slice t x none (some hi) none) {v u v' : Value} (hs : ρ x = v) (hl : ρ hi = u) (ht : P.underlying t = some (.slice (P.elem t)))
    (hrun : Sem.run P (Instr.slice t v none (some u) none) w = .ok v' w) : (execOp ρ o).run P w = .ok (.value v') w := by
  simp only [execOp, ho, hs, hl, Option.map_some, Option.map_none, run_sliceAt_slice (P := P) w t v none (some u) none ht, hrun, Sem.run_bind, Sem.run_pure, Result.andThen]
end Go.Proofs.Ytecpgkcoehnpbaa
