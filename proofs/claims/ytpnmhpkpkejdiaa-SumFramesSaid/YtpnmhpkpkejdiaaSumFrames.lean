/- Any text has the frame that the document says, and is opened again, whatever stands behind; any bytes are opened as it says: the law SumFrames answers true at every input. No condition. -/
import Derived.Test.YtpnmhpkpkejdiaaSumH
import Derived.Test.YtpnmhpkpkejdiaaLift
namespace Go.Proofs.Ytpnmhpkpkejdiaa
open Go.ChangeShapes Go.WideShapes Go.ChangeAt Go.RowKit CrcPlain
open Go.ChangeMaps (open_string)

set_option maxRecDepth 100000 in
set_option maxHeartbeats 1600000 in
theorem sumFrames_law (s behind raw : ByteArray) (h1 : s.size ≤ 140737488351232) (h2 : behind.size ≤ 140737488351232) (h3 : raw.size ≤ 140737488351232) (w : World) :
    Calls Try.prog 4 #[.string s, .string behind, .string raw] w fun e w' => e = .returned (.bool true) ∧ Below w.heap.size w w' := by
  by_cases c1 : 3000 < s.size
  · go_enter Try.func4, Try.ntmps4
    go_wp2_with fail
    refine (sumAwake w).mono ?_
    rintro e w1 ⟨rfl, hb1⟩
    have HB1 := Lib.hid hb1
    clear hb1
    go_wp2_with fail
    go_ret
    exact ⟨rfl, HB1.out⟩
  by_cases c2 : 300 < behind.size
  · go_enter Try.func4, Try.ntmps4
    go_wp2_with fail
    refine (sumAwake w).mono ?_
    rintro e w1 ⟨rfl, hb1⟩
    have HB1 := Lib.hid hb1
    clear hb1
    go_wp2_with fail
    go_ret
    exact ⟨rfl, HB1.out⟩
  by_cases c3 : 3000 < raw.size
  · go_enter Try.func4, Try.ntmps4
    go_wp2_with fail
    refine (sumAwake w).mono ?_
    rintro e w1 ⟨rfl, hb1⟩
    have HB1 := Lib.hid hb1
    clear hb1
    go_wp2_with fail
    go_ret
    exact ⟨rfl, HB1.out⟩
  go_enter Try.func4, Try.ntmps4
  go_wp2_with fail
  refine (sumAwake w).mono ?_
  rintro e w1 ⟨rfl, hb1⟩
  have HB1 := Lib.hid hb1
  clear hb1
  go_wp2_with fail
  refine (frame_any s (by omega) w1).mono ?_
  rintro e w2 ⟨rfl, hb2⟩
  have HB2 := Lib.hid (hb2.mono HB1.out.size)
  clear hb2
  have hfl : (frameL s.data.toList).length = s.size + 8 := frameL_length _
  go_wp2_with fail
  refine (open_framed s behind (by omega) (by omega) w2).mono ?_
  rintro e w3 ⟨rfl, hb3⟩
  have HB3 := Lib.hid (hb3.mono (Nat.le_trans HB1.out.size (HB2.out.size)))
  clear hb3
  go_wp2_with fail
  refine (open_raw raw h3 w3).mono ?_
  rintro e w4 ⟨rfl, hb4⟩
  have HB4 := Lib.hid (hb4.mono (Nat.le_trans (Nat.le_trans HB1.out.size HB2.out.size) HB3.out.size))
  clear hb4
  go_wp2_with fail
  refine (refOpen_raw raw h3 w4).mono ?_
  rintro e w5 ⟨rfl, hb5⟩
  have HB5 := Lib.hid (hb5.mono (Nat.le_trans (Nat.le_trans (Nat.le_trans HB1.out.size HB2.out.size) HB3.out.size) HB4.out.size))
  clear hb5
  go_wp2_with fail
  refine (refFrame_any s (by omega) w5).mono ?_
  rintro e w6 ⟨rfl, hb6⟩
  have HB6 := Lib.hid (hb6.mono (Nat.le_trans (Nat.le_trans (Nat.le_trans (Nat.le_trans HB1.out.size HB2.out.size) HB3.out.size) HB4.out.size) HB5.out.size))
  clear hb6
  go_wp2_with fail
  go_ret
  exact ⟨rfl, HB1.out.trans (HB2.out.trans (HB3.out.trans (HB4.out.trans (HB5.out.trans HB6.out))))⟩

set_option maxRecDepth 100000 in
theorem sumFrames_lawful : Lawful 4 Try.f4 := by
  intro H enc W base args ds p hval hA hlt hsz
  rw [Try.params4] at hA hval hsz
  obtain ⟨v0, v1, v2, d0, d1, d2, p0, p1, p2, rfl, rfl, rfl, h0, h1, h2⟩ := trodAll_three hA
  obtain ⟨s, rfl, rfl, rfl, hs⟩ := open_string under_str (hval 0 9 v0 rfl rfl) h0
  obtain ⟨t, rfl, rfl, rfl, ht⟩ := open_string under_str (hval 1 9 v1 rfl rfl) h1
  obtain ⟨u, rfl, rfl, rfl, hu⟩ := open_string under_str (hval 2 9 v2 rfl rfl) h2
  simp only [DataW.weightsEach, DataW.weights, List.append_nil, List.mem_append, List.mem_singleton] at hsz
  exact sumFrames_law s t u (hsz s.size (Or.inl rfl)) (hsz t.size (Or.inr (Or.inl rfl))) (hsz u.size (Or.inr (Or.inr rfl))) W

theorem sumFrames_holds : Rows.SumFramesSaid :=
  OpenClaim.holds_of_wide 4 Try.f4 rfl rfl rfl rfl rfl rfl rfl ⟨rfl, rfl, rfl, rfl, rfl⟩ rfl rfl rfl rfl rfl (by kernel_rfl) Try.func4 (by kernel_rfl)
    (of_decide_eq_true (by kernel_rfl)) (by unfold Func.isWrapper; rw [if_neg (of_decide_eq_false (by kernel_rfl))]; exact ⟨rfl, rfl⟩)
    (fun os started H enc _ => law_lift (s := Rows.sumFramesSpec) Try.func4 (by kernel_rfl) rfl rfl rfl (by rw [Try.params4]; intro t ht; simp at ht; rcases ht with rfl | rfl | rfl <;> exact ⟨by kernel_rfl, of_decide_eq_true (by kernel_rfl)⟩)
      (by rw [Try.params4]; intro H ds hds; match ds, hds with | [d1, d2, d3], _ => exact ⟨rfl, rfl, rfl⟩) sumFrames_lawful os started H enc
      (ChangeSpec.witness6 (enc := enc) (C := Try.checked) false ⟨#[], #[.string ByteArray.empty, .string ByteArray.empty, .string ByteArray.empty], []⟩ 8 (by kernel_rfl) (by kernel_rfl) (by kernel_rfl) (by kernel_rfl)))
end Go.Proofs.Ytpnmhpkpkejdiaa
