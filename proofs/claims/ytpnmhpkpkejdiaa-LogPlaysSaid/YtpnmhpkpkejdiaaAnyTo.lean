/- A region that draws its order, with one last operation that waits for all others: a condition on the world that holds behind each operation but that last one. -/
import Derived.StillTailTactics
import Derived.OrdersHeld
import Derived.KernelRfl
import Derived.Deep.RegionHeld3
namespace Go.Proofs.Ytpnmhpkpkejdiaa

section
variable {P : Program} {ops : Array Oper} {Q : Exit → Act → World → Prop} {md : Region.Mode} {S : World → Prop} {m : Nat}

/-- whichever order is drawn, S holds behind each operation other than number m -/
def AnyTo (P : Program) (md : Region.Mode) (ops : Array Oper) (Q : Exit → Act → World → Prop) (S : World → Prop) (m : Nat) : Nat → Array Bool → Act → World → Prop
  | 0, ls, a, w => Region.ready md ops ls = [] ∧ Q .normal a w
  | n + 1, ls, a, w => (Region.ready md ops ls = [] → Q .normal a w) ∧
      ∀ i, i ∈ Region.ready md ops ls → wpOp P ops Q i (fun a' w' => (i ≠ m → S w') ∧ AnyTo P md ops Q S m n (ls.setIfInBounds i true) a' w') a w

theorem AnyTo.any {n : Nat} {ls : Array Bool} {a : Act} {w : World} (h : AnyTo P md ops Q S m n ls a w) : wpAny P md ops Q n ls a w := by
  induction n generalizing ls a w with
  | zero => exact h
  | succ n ih => exact ⟨h.1, fun i hi => wpOp_mono (fun _ _ k => ih k.2) (h.2 i hi)⟩

/-- an operation that yields wherever S holds may come first -/
theorem AnyTo.take {i : Nat} {o : Oper} {v : Value} {n : Nat} {ls : Array Bool} {a : Act} {w : World} (hi : ops[i]? = some o) (hs : Region.noSelect ops = true) (hm : Region.waitsFor md ops m i = true)
    (hf : Region.free md ops ls i = true) (hr : (Region.ready md ops ls).contains i = true) (hQ : ∀ c a w, Q (.panic c) (a.put o.dst v) w → Q (.panic c) a w)
    (hy : YieldsIf P ops S o v a) (hS : S w) (h : AnyTo P md ops Q S m n (ls.setIfInBounds i true) (a.put o.dst v) w) : AnyTo P md ops Q S m (n + 1) ls a w := by
  obtain ⟨om, hom, e0, he0, hb0, hi0⟩ := Region.waitsFor_spec hm
  have sel := Region.noSelect_spec hs
  have free := fun j oj hj hne hun hno => Region.free_spec (md := md) (listed := ls) hi hf j oj hj hne hun hno
  have ready : i ∈ Region.ready md ops ls := by simpa using hr
  clear hf hr hm
  -- no other operation that may come up beside i waits for i, so none of them is number m
  have wait : ∀ (ls : Array Bool) j oj, i ∈ Region.ready md ops ls → j ∈ Region.ready md ops ls → ops[j]? = some oj → ∀ e ∈ oj.after, Region.binds md e = true → e.on ≠ i := by
    intro ls j oj r1 r2 hj e he hb heq
    have u := (mem_ready.1 r1).1
    obtain ⟨oj', hj', all⟩ := (mem_ready.1 r2).2
    obtain rfl : oj' = oj := by rw [hj] at hj'; exact (Option.some.inj hj').symm
    have l := all e he hb
    rw [heq] at l
    by_cases hlt : i < ls.size
    · rw [Array.getD_eq_getD_getElem?, Array.getElem?_eq_getElem hlt] at u l
      simp only [Option.getD_some] at u l
      rw [u] at l; cases l
    · rw [Array.getD_eq_getD_getElem?, Array.getElem?_eq_none (by omega)] at l
      cases l
  have step : ∀ (n : Nat) (ls : Array Bool) (a : Act) (w : World), (∀ j oj, ops[j]? = some oj → j ≠ i → ls.getD j true = false → (∀ e ∈ oj.after, Region.binds md e = true → e.on ≠ i) → o.apart ops oj = true) →
      i ∈ Region.ready md ops ls → YieldsIf P ops S o v a → S w → AnyTo P md ops Q S m n (ls.setIfInBounds i true) (a.put o.dst v) w → AnyTo P md ops Q S m (n + 1) ls a w := by
    intro n
    induction n with
    | zero =>
      intro ls a w _ r y s H
      refine ⟨fun z => (by rw [z] at r; cases r), fun j rj => ?_⟩
      by_cases hji : j = i
      · subst hji; exact y.wpOp hi s ⟨fun _ => s, H⟩
      · have k := ready_mono rj hji
        rw [H.1] at k; cases k
    | succ n ih =>
      intro ls a w fr r y s H
      refine ⟨fun z => (by rw [z] at r; cases r), fun j rj => ?_⟩
      by_cases hji : j = i
      · subst hji; exact y.wpOp hi s ⟨fun _ => s, H⟩
      · obtain ⟨oj, hoj, -⟩ := (mem_ready.1 rj).2
        have hno := wait ls j oj r rj hoj
        have hjm : j ≠ m := by
          rintro rfl
          rw [hom] at hoj
          obtain rfl := Option.some.inj hoj
          exact hno e0 he0 hb0 hi0
        have two := wpOp_putIf hoj (fr j oj hoj hji (mem_ready.1 rj).1 hno) (fun cs b => sel i o cs b hi) (fun cs b => sel j oj cs b hoj) hQ y (H.2 j (ready_mono rj hji))
        refine wpOp_mono (fun a' w' k => ⟨k.2.1, ih (ls.setIfInBounds j true) a' w' (fun q oq hq hqi hun => ?_) (ready_mono r (Ne.symm hji)) k.1 (k.2.1 hjm) ?_⟩) two
        · refine fr q oq hq hqi ?_
          by_cases hjq : j = q
          · subst hjq; exact (mem_ready.1 rj).1
          · rw [getD_set_ne true hjq] at hun; exact hun
        · rw [Array.setIfInBounds_comm _ _ hji]; exact k.2.2
  exact step n ls a w free ready hy hS h

/-- one operation alone may come up: it is run behind a letter for what follows -/
theorem AnyTo.step {i : Nat} {o : Oper} {n : Nat} {ls : Array Bool} {a : Act} {w : World} (hr : Region.ready md ops ls = [i]) (ho : ops[i]? = some o)
    (h : ∀ K : Act → World → Prop, Shut (∀ a' w', (i ≠ m → S w') → AnyTo P md ops Q S m n (ls.setIfInBounds i true) a' w' → K a' w') → if Region.wanted o (yielded ops a.tmps) = true then Oper.wp P o a w K Q else K (a.put o.dst undef) w) :
    AnyTo P md ops Q S m (n + 1) ls a w :=
  ⟨fun z => (by rw [z] at hr; cases hr), fun j hj => by
    rw [hr] at hj; obtain rfl := List.mem_singleton.1 hj
    exact wpOp_step ho fun K hK => h K fun a' w' k1 k2 => hK a' w' ⟨k1, k2⟩⟩
theorem AnyTo.done {n : Nat} {ls : Array Bool} {a : Act} {w : World} (hr : Region.ready md ops ls = []) (h : Q .normal a w) : AnyTo P md ops Q S m n ls a w := by
  cases n with
  | zero => exact ⟨hr, h⟩
  | succ n => exact ⟨fun _ => h, fun i hi => by rw [hr] at hi; cases hi⟩
theorem AnyTo.region {id : Nat} {a : Act} {w : World} (mixed : P.follows .mixedOrders = true) (h : AnyTo P .any ops Q S m ops.size (Array.replicate ops.size false) a w.drew) : (Code.region id ops true).wp P Q a w :=
  wp_region_any mixed h.any
end
end Go.Proofs.Ytpnmhpkpkejdiaa
