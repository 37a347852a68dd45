/- A drawn region at a point where two operations may come up. -/
import Derived.Test.YtpnmhpkpkejdiaaAnyTo
namespace Go.Proofs.Ytpnmhpkpkejdiaa
section
variable {P : Program} {ops : Array Oper} {Q : Exit → Act → World → Prop} {md : Region.Mode} {S : World → Prop} {m : Nat}
theorem AnyTo.two {i j : Nat} {oi oj : Oper} {n : Nat} {ls : Array Bool} {a : Act} {w : World} (hr : Region.ready md ops ls = [i, j]) (hi : ops[i]? = some oi) (hj : ops[j]? = some oj)
    (h1 : ∀ K : Act → World → Prop, Shut (∀ a' w', (i ≠ m → S w') → AnyTo P md ops Q S m n (ls.setIfInBounds i true) a' w' → K a' w') → if Region.wanted oi (yielded ops a.tmps) = true then Oper.wp P oi a w K Q else K (a.put oi.dst undef) w)
    (h2 : ∀ K : Act → World → Prop, Shut (∀ a' w', (j ≠ m → S w') → AnyTo P md ops Q S m n (ls.setIfInBounds j true) a' w' → K a' w') → if Region.wanted oj (yielded ops a.tmps) = true then Oper.wp P oj a w K Q else K (a.put oj.dst undef) w) :
    AnyTo P md ops Q S m (n + 1) ls a w :=
  ⟨fun z => (by rw [z] at hr; cases hr), fun k hk => by
    rw [hr] at hk
    rcases List.mem_cons.1 hk with rfl | hk
    · exact wpOp_step hi fun K hK => h1 K fun a' w' k1 k2 => hK a' w' ⟨k1, k2⟩
    · obtain rfl := List.mem_singleton.1 hk
      exact wpOp_step hj fun K hK => h2 K fun a' w' k1 k2 => hK a' w' ⟨k1, k2⟩⟩
end
end Go.Proofs.Ytpnmhpkpkejdiaa
