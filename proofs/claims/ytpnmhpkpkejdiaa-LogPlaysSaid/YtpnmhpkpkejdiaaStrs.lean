/- An argument that is a list of texts, opened once for all laws. -/
import Derived.Test.YtpnmhpkpkejdiaaLift
import Derived.SliceStrings
import Derived.Test.YtpnmhpkpkejdiaaSumD
namespace Go.Proofs.Ytpnmhpkpkejdiaa
open Go.ChangeShapes Go.WideShapes Go.ChangeAt Go.RowKit CrcPlain

theorem cells_str : Try.prog.cellsOf 9 = 1 := by kernel_rfl
theorem under_strs : Try.prog.underlying 22 = some (.slice 9) := by kernel_rfl

theorem weights_strs {H : Type} (P : Program) (e : TypeId) (l : List ByteArray) : DataW.weightsAll P e (strs (H := H) l) = l.map ByteArray.size := by
  induction l with
  | nil => rfl
  | cons s l ih =>
    show DataW.weights P e (.lit (.string s.data.toList)) ++ DataW.weightsAll P e (strs (H := H) l) = _
    rw [ih, DataW.weights]; rfl

set_option maxRecDepth 100000 in
theorem strsArg {H : Type} {enc : TypeId × Value → H} {W : World} {base : Nat} {args : Array Value} {params : Array TypeId} {ds : List (DataW H)} {p p1 : List MemPlace} {v : Value} {d : DataW H} (j : Nat)
    (hval : ∀ (j : Nat) t v, params[j]? = some t → args[j]? = some v → Value.okWide Try.prog W .any base t v)
    (hsz : ∀ n ∈ DataW.weightsEach Try.prog params.toList ds, n ≤ 140737488351232) (hlt : ∀ x ∈ p, x.block < W.heap.size)
    (h : DataW.Trod enc Try.prog W 0 (fun _ => true) true 22 v d p1) (hp : params[j]? = some 22) (ha : args[j]? = some v) (hd : ds[j]? = some d) (hpp : ∀ x ∈ p1, x ∈ p) :
    ∃ (ss : List ByteArray) (b off : Nat) (ao : Option Addr) (n cap : Nat), v = .slice ao n cap ∧ n ≤ maxLen ∧ ss.length = n ∧ (∀ s ∈ ss, s.size ≤ 140737488351232) ∧ (0 < n → ao = some ⟨b, off, none⟩) ∧ (0 < n → b < W.heap.size) ∧
      ∀ j, j < n → W.cell? ⟨b, off + j, none⟩ = some (.string (ss.getD j ByteArray.empty)) := by
  obtain ⟨a0, len, cap, rfl⟩ := okWide_slice under_strs (hval j 22 v hp ha)
  obtain ⟨fuel, hf⟩ := h
  rcases open_strings under_strs under_str cells_str hf with ⟨hcs, hx⟩ | ⟨a, len', cap', ss, hcs, _, hl, hm, hz, hx, hcell, hws⟩
  · simp [Value.cells] at hcs
    obtain ⟨rfl, rfl, rfl⟩ := hcs
    exact ⟨[], 0, 0, none, 0, 0, rfl, by unfold maxLen; omega, rfl, (fun s hs => by cases hs), (fun h => by omega), (fun h => by omega), (fun j hj => by omega)⟩
  · simp [Value.cells] at hcs
    obtain ⟨rfl, rfl, rfl⟩ := hcs
    simp only [Prod.mk.injEq] at hx
    obtain ⟨rfl, rfl⟩ := hx
    simp only [if_true] at hz
    have hss : ∀ s ∈ ss.take len, s.size ≤ 140737488351232 := by
      intro s hs
      refine hsz _ ?_
      refine DataW.weights_mem_each (t := 22) (by simpa using hp) hd _ ?_
      simp only [DataW.weights, under_strs, weights_strs]
      exact List.mem_cons_of_mem _ (List.mem_append_left _ (List.mem_map_of_mem hs))
    by_cases hl0 : len = 0
    · subst hl0
      exact ⟨[], 0, 0, some a, 0, cap, rfl, by unfold maxLen; omega, rfl, (fun s hs => by cases hs), (fun h => by omega), (fun h => by omega), (fun j hj => by omega)⟩
    · obtain ⟨b, off, spot⟩ := a
      have hspot : spot = none := by simpa [Addr.add] using World.cell?_spot (hcell 0 (by omega))
      subst hspot
      have hbW : b < W.heap.size := hlt (.cell b off) (hpp _ (MemPlace.mem_row.2 ⟨0, by omega, by simp⟩))
      refine ⟨ss.take len, b, off, _, len, cap, rfl, by omega, by rw [List.length_take]; omega, hss, fun _ => rfl, fun _ => hbW, ?_⟩
      intro j hj
      rw [← add_plain, hcell j (by omega)]
      simp [List.getD, hj]
end Go.Proofs.Ytpnmhpkpkejdiaa
