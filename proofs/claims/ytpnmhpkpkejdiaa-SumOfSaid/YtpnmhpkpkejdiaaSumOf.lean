/- Any texts have the check sum that the document says, however they are cut: the law SumOf answers true at every input. No condition. -/
import Derived.Test.YtpnmhpkpkejdiaaSumG
import Derived.Test.YtpnmhpkpkejdiaaLift
import Derived.SliceStrings
namespace Go.Proofs.Ytpnmhpkpkejdiaa
open Go.ChangeShapes Go.WideShapes Go.ChangeAt Go.RowKit CrcPlain

theorem cells_str : Try.prog.cellsOf 9 = 1 := by kernel_rfl
theorem under_strs : Try.prog.underlying 22 = some (.slice 9) := by kernel_rfl

theorem weights_strs {H : Type} (P : Program) (e : TypeId) (l : List ByteArray) : DataW.weightsAll P e (strs (H := H) l) = l.map ByteArray.size := by
  induction l with
  | nil => rfl
  | cons s l ih =>
    show DataW.weights P e (.lit (.string s.data.toList)) ++ DataW.weightsAll P e (strs (H := H) l) = _
    rw [ih, DataW.weights]; rfl

set_option maxRecDepth 100000 in
theorem sumOf_lawful : Lawful 3 Try.f3 := by
  intro H enc W base args ds p hval hA hlt hsz
  rw [Try.params3] at hA hval hsz
  obtain ⟨v0, d0, rfl, rfl, h0⟩ := trodAll_one hA
  obtain ⟨a0, len, cap, rfl⟩ := okWide_slice under_strs (hval 0 22 v0 rfl rfl)
  obtain ⟨fuel, hf⟩ := h0
  rcases open_strings under_strs under_str cells_str hf with ⟨hcs, hx⟩ | ⟨a, len', cap', ss, hcs, _, hl, hm, hz, hx, hcell, hws⟩
  · simp [Value.cells] at hcs
    obtain ⟨rfl, rfl, rfl⟩ := hcs
    exact sumOf_none _ _ W
  · simp [Value.cells] at hcs
    obtain ⟨rfl, rfl, rfl⟩ := hcs
    simp only [Prod.mk.injEq] at hx
    obtain ⟨rfl, rfl⟩ := hx
    simp only [if_true] at hz
    by_cases hl0 : len = 0
    · subst hl0; exact sumOf_none _ _ W
    · obtain ⟨b, off, spot⟩ := a
      have hspot : spot = none := by simpa [Addr.add] using World.cell?_spot (hcell 0 (by omega))
      subst hspot
      have hbW : b < W.heap.size := hlt (.cell b off) (MemPlace.mem_row.2 ⟨0, by omega, by simp⟩)
      refine sumOf_law b off len cap (ss.take len) W (by omega) (by rw [List.length_take]; omega) ?_ (fun _ => hbW) ?_
      · intro s hs
        refine hsz _ ?_
        simp only [DataW.weightsEach, DataW.weights, under_strs, weights_strs, List.append_nil]
        exact List.mem_cons_of_mem _ (List.mem_append_left _ (List.mem_map_of_mem hs))
      · intro j hj
        rw [← add_plain, hcell j (by omega)]
        simp [List.getD, hj]

theorem sumOf_holds : Rows.SumOfSaid :=
  OpenClaim.holds_of_wide 3 Try.f3 rfl rfl rfl rfl rfl rfl rfl ⟨rfl, rfl, rfl, rfl, rfl⟩ rfl rfl rfl rfl rfl (by kernel_rfl) Try.func3 (by kernel_rfl)
    (of_decide_eq_true (by kernel_rfl)) (by unfold Func.isWrapper; rw [if_neg (of_decide_eq_false (by kernel_rfl))]; exact ⟨rfl, rfl⟩)
    (fun os started H enc _ => law_lift (s := Rows.sumOfSpec) Try.func3 (by kernel_rfl) rfl rfl rfl (by rw [Try.params3]; intro t ht; simp at ht; subst ht; exact ⟨by kernel_rfl, of_decide_eq_true (by kernel_rfl)⟩)
      (by rw [Try.params3]; intro H ds hds; match ds, hds with | [d], _ => exact ⟨rfl, rfl, rfl⟩) sumOf_lawful os started H enc
      (ChangeSpec.witness6 (enc := enc) (C := Try.checked) false ⟨#[], #[.slice none 0 0], []⟩ 8 (by kernel_rfl) (by kernel_rfl) (by kernel_rfl) (by kernel_rfl)))
end Go.Proofs.Ytpnmhpkpkejdiaa
