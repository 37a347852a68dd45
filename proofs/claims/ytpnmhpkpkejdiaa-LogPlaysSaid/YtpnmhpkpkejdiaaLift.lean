/- From a law's walk ('it returns true, and below the heap's size all is as it was') to its row: for every law of this seat. -/
import Derived.Test.YtpnmhpkpkejdiaaRows
import Derived.WalkKit
import Derived.ProofKit
import Derived.SizedLaws
namespace Go.Proofs.Ytpnmhpkpkejdiaa
open Go.ChangeShapes Go.WideShapes Go.ChangeAt Go.RowKit

theorem Try.own : ownKnob Try.prog.godebug = none := by kernel_rfl
theorem Try.laidOut : laidOutB Try.prog = true := by kernel_rfl
theorem under_bool : Try.prog.underlying 4 = some .bool := by kernel_rfl

section
variable {H : Type} {enc : TypeId × Value → H} {W W' : World}

/-- every argument reads behind the call as it did -/
theorem trodAll_below : ∀ {ts : List TypeId} {vs : List Value} {ds : List (DataW H)} {ps : List MemPlace}, (∀ t ∈ ts, Try.prog.readableRec t = true ∧ t < Try.prog.types.size) →
    DataW.TrodAll enc Try.prog W 0 (fun _ => true) true ts vs ds ps → Below W.heap.size W W' → (∀ x ∈ ps, x.block < W.heap.size) →
    DataW.TrodAll enc Try.prog W' 0 (fun b => decide (b < W.heap.size)) true ts vs ds ps := by
  intro ts
  induction ts with
  | nil => intro vs ds ps _ h _ _; obtain ⟨rfl, rfl, rfl⟩ := trodAll_nil h; exact trodAll_mk0
  | cons t ts ih =>
    intro vs ds ps hr h hb hlt
    obtain ⟨v, vs', d, ds', p, q, rfl, rfl, rfl, h0, h1⟩ := trodAll_cons h
    have hr0 := hr t (List.mem_cons_self ..)
    exact ⟨p, q, (Below.trod Try.laidOut hr0.1 hr0.2 h0 hb (fun x hx => hlt x (List.mem_append_left _ hx))),
      (ih (fun t ht => hr t (List.mem_cons_of_mem _ ht)) h1 hb (fun x hx => hlt x (List.mem_append_right _ hx))), rfl⟩
end

/-- what a law's walk has to show -/
def Lawful (f : FuncId) (fn : Func) : Prop :=
  ∀ (H : Type) (enc : TypeId × Value → H) (W : World) (base : Nat) (args : Array Value) (ds : List (DataW H)) (p : List MemPlace),
    (∀ (j : Nat) t v, fn.params[j]? = some t → args[j]? = some v → Value.okWide Try.prog W .any base t v) →
    DataW.TrodAll enc Try.prog W 0 (fun _ => true) true fn.params.toList args.toList ds p →
    (∀ x ∈ p, x.block < W.heap.size) → (∀ n ∈ DataW.weightsEach Try.prog fn.params.toList ds, n ≤ 140737488351232) →
    Calls Try.prog f args W fun e W' => e = .returned (.bool true) ∧ Below W.heap.size W W'

set_option maxRecDepth 100000 in
theorem law_lift {f : FuncId} {fn : Func} {s : ChangeSpec} {a : Assume} (hf : Try.prog.funcs[f]? = some fn) (noInit : Try.prog.inits.idxOf? f = none) (hsv : s.vars = [])
    (hrt : fn.resultTypes.toList = [4]) (hr1 : fn.resultTypes.size = 1)
    (hr : ∀ t ∈ fn.params.toList, Try.prog.readableRec t = true ∧ t < Try.prog.types.size)
    (hspec : ∀ (H : Type) (ds : List (DataW H)), ds.length = fn.params.toList.length → (s.fn H (ds ++ [])).results = [.lit (.bool true)] ∧ (s.fn H (ds ++ [])).args = ds ∧ (s.fn H (ds ++ [])).vars = [])
    (walk : Lawful f fn) (os : Os) (started : os.Started) (H : Type) (enc : TypeId × Value → H)
    (witness : ∃ (w : World) (tape : Tape) (i : Input), w.os = os ∧ (w.forCall tape i).Shaped Try.checked.prog ∧ i.vars = [] ∧ Input.okWide Try.checked.prog (w.forCall tape i) .any w.heap.size f i ∧
      s.pre6 enc Try.checked.prog fn [] false (w.forCall tape i).memory i.args ∧ a.holds Try.checked.prog (lone (Frame.enter Try.checked.prog f i.args .normal) [] (w.forCall tape i))) :
    ReturnsInHanded a Try.checked os f .any (s.pre6 enc Try.prog fn [] false) (s.post enc Try.prog fn false true false false) := by
  refine returnsInHanded_of_change_sized (C := Try.checked) Try.own started noInit hf witness ?_
  intro W base args ds gs before hval0 hW _ hsz0 _
  have hsz : (DataW.weightsEach Try.prog (fn.params.toList ++ s.plain.varTypes Try.prog) (ds ++ gs)).all (· ≤ reachBytes) = true := hsz0
  clear hsz0
  have hval : ∀ (j : Nat) t v, fn.params[j]? = some t → args[j]? = some v → Value.okWide Try.prog W .any base t v := hval0
  have hW' := hW
  obtain ⟨p, q, hA0, hV, rfl, hfz, hnd⟩ := hW
  have hA : DataW.TrodAll enc Try.prog W 0 (fun _ => true) true fn.params.toList args.toList ds p := hA0
  clear hA0 hval0
  have hlen : ds.length = fn.params.toList.length := by
    have : ∀ {ts : List TypeId} {vs : List Value} {ds : List (DataW H)} {ps : List MemPlace}, DataW.TrodAll enc Try.prog W 0 (fun _ => true) true ts vs ds ps → ds.length = ts.length := by
      intro ts
      induction ts with
      | nil => intro vs ds ps h; obtain ⟨rfl, rfl, rfl⟩ := trodAll_nil h; rfl
      | cons t ts ih => intro vs ds ps h; obtain ⟨v, vs', d, ds', p, q, rfl, rfl, rfl, h0, h1⟩ := trodAll_cons h; simp [ih h1]
    exact this hA
  obtain ⟨er, ea, ev⟩ := hspec H ds hlen
  have hvt : s.plain.varTypes Try.prog = [] := by simp [ChangeSpec.plain, hsv, DataSpec.varTypes]
  rw [hvt, List.append_nil] at hsz
  have hgs : gs = [] ∧ q = [] := by
    rw [hsv] at hV
    obtain ⟨h1, h2⟩ := trodVars_none hV
    exact ⟨h1, h2⟩
  obtain ⟨rfl, rfl⟩ := hgs
  rw [List.append_nil] at hsz
  simp only [List.append_nil] at hW'
  have hlt : ∀ x ∈ p, x.block < W.heap.size := fun x hx => by simpa using hW'.lt x hx
  refine (walk H enc W base args ds p hval hA hlt (fun n hn => of_decide_eq_true (List.all_eq_true.1 hsz n hn))).mono fun e W' ⟨he, hb⟩ => ?_
  subst he
  refine ⟨_, rfl, ds, [], p, [], p, [], hW', ?_, ?_, ?_, hb.frame _, fun h => by cases h⟩
  · rw [hrt, hr1, er]; exact trodAll_mk1 (shut_bool under_bool true)
  · rw [ea]; exact trodAll_below hr hA hb hlt
  · rw [hsv, ev]; rfl

end Go.Proofs.Ytpnmhpkpkejdiaa
