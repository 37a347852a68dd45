/- A frame in which one byte of text or sum is turned is told by ErrSum: the law SumTells answers true at every input. No condition. -/
import Derived.Test.YtpnmhpkpkejdiaaSumT
import Derived.Test.YtpnmhpkpkejdiaaLift
import Derived.Test.YtpnmhpkpkejdiaaBytes
namespace Go.Proofs.Ytpnmhpkpkejdiaa
open Go.ChangeShapes Go.WideShapes Go.ChangeAt Go.RowKit CrcPlain
open Go.ChangeMaps (open_string)

set_option maxRecDepth 100000 in
set_option maxHeartbeats 1600000 in
theorem sumTells_law (s : ByteArray) (i : Nat) (c : Nat) (h1 : s.size ≤ 3000) (hi : i < s.size + 4) (hc0 : c ≠ 0) (hc : c < 256) (w : World) :
    Calls Try.prog 5 #[.string s, .int .i64 (i : Int), .int .u8 (c : Int)] w fun e w' => e = .returned (.bool true) ∧ Below w.heap.size w w' := by
  have hcb : ((c : Int) == 0) = false := by simp [hc0]
  have HC0 := Lib.hid hc0
  clear hc0
  go_enter Try.func5, Try.ntmps5
  go_wp2_with fail
  refine (sumAwake w).mono ?_
  rintro e w1 ⟨rfl, hb1⟩
  have HB1 := Lib.hid hb1
  clear hb1
  go_wp2_with fail
  refine (frame_any s (by omega) w1).mono ?_
  rintro e w2 ⟨rfl, hb2⟩
  have HB2 := Lib.hid (hb2.mono HB1.out.size)
  clear hb2
  obtain ⟨x, hx⟩ : ∃ x : ByteArray, x = ⟨(frameL s.data.toList).toArray⟩ := ⟨_, rfl⟩
  rw [← hx]
  have hxl : x.data.toList = frameL s.data.toList := by rw [hx]
  have hxs : x.size = s.size + 8 := by rw [hx]; exact frameL_length _
  have hlen : ((x.size : Int) != (s.size : Int) + 8) = false := by rw [bne_eq_false_iff_eq]; omega
  have hix : 4 + i < x.size := by omega
  have hix2 : x.size ≤ 4000 := by omega
  have HXS := Lib.hid hxs
  have HXL := Lib.hid hxl
  obtain ⟨cap, W2, hconv, hcap, hbw, hlt, hcells, hfree⟩ := bytesOf w2 x
  obtain ⟨b, hb⟩ : ∃ b : UInt8, x.data.toList[4 + i]? = some b := ⟨_, List.getElem?_eq_getElem (show 4 + i < x.data.toList.length from hix)⟩
  have hcell := hcells _ _ hb
  have hfr := hfree _ hix
  have HCELLS := Lib.hid hcells
  have HBW := Lib.hid hbw
  have HB := Lib.hid hb
  have hxor := u8_xor_nat b.toNat c b.toNat_lt hc
  have hbb := b.toNat_lt
  have hi4 : ((4 : Int) + i).toNat = 4 + i := by omega
  clear hx hxl hxs hcells hbw hb hfree
  obtain ⟨c8, hc8⟩ : ∃ c8 : UInt8, c8 = UInt8.ofNat c := ⟨_, rfl⟩
  have hcn : c8.toNat = c := by rw [hc8, UInt8.toNat_ofNat']; omega
  have hbx : (b ^^^ c8).toNat = b.toNat ^^^ c := by rw [UInt8.toNat_xor, hcn]
  have hne : b ^^^ c8 ≠ b := u8_xor_ne b c8 (by rintro rfl; apply HC0.out; rw [← hcn]; rfl)
  obtain ⟨y, hy⟩ : ∃ y : List UInt8, y = (frameL s.data.toList).set (4 + i) (b ^^^ c8) := ⟨_, rfl⟩
  have hyl : x.size = y.length := by rw [hy, List.length_set, frameL_length, HXS.out]; rfl
  have HYL := Lib.hid hyl
  have HOPEN : Hid (openL y = ([], y, 5)) := by
    show _ = _
    rw [hy]
    refine openL_turned s.data.toList (by show s.size ≤ _; omega) i (by show i < s.size + 4; omega) _ ?_
    have hb := HB.out
    rw [HXL.out] at hb
    rw [hb]
    intro h
    exact hne (Option.some.inj h).symm
  have hcells3 : ∀ (W4 : World), Below W2.heap.size (W2.setCell ⟨w2.heap.size, 4 + i, none⟩ (.int .u8 ((b.toNat ^^^ c : Nat) : Int))) W4 → ∀ j d, y[j]? = some d → W4.cell? ⟨w2.heap.size, j, none⟩ = some (.int .u8 d.toNat) := by
    intro W4 hW4 j d hd
    rw [hW4.cell (by exact hlt)]
    by_cases hji : j = 4 + i
    · subst hji
      rw [World.cell?_setCell_same _ _ _ hcell]
      rw [hy, List.getElem?_set_self (by rw [frameL_length]; show 4 + i < s.size + 8; omega)] at hd
      have hd' := Option.some.inj hd
      rw [← hd', hbx]
    · rw [World.cell?_setCell_other _ _ _ _ (by intro h; injection h with h1 h2; omega)]
      rw [hy, List.getElem?_set_ne (by omega), ← HXL.out] at hd
      exact HCELLS.out j d hd
  have hconv2 := stringOf (W2.setCell ⟨w2.heap.size, 4 + i, none⟩ (.int .u8 ((b.toNat ^^^ c : Nat) : Int))) w2.heap.size cap x.size y hyl (hcells3 _ (Below.refl _ _))
  have HC3 := Lib.hid hcells3
  have hyb : y.length ≤ 4000 := by omega
  clear hcells3 hyl hy hne hbx hcn hc8
  go_wp2_with fail
  refine (open_raw ⟨y.toArray⟩ (by show y.length ≤ _; omega) _).mono ?_
  rintro e w4 ⟨rfl, hb4⟩
  rw [show (ByteArray.mk y.toArray).data.toList = y from rfl, HOPEN.out]
  have hconv3 := stringOf w4 w2.heap.size cap x.size y HYL.out (HC3.out w4 (by simpa using hb4))
  have HB4 := Lib.hid hb4
  clear hb4 hconv2 hconv
  go_wp2_with fail
  go_ret
  have z1 := HB1.out.size
  have z2 := HB2.out.size
  have z3 : w.heap.size ≤ W2.heap.size := by omega
  refine ⟨rfl, HB1.out.trans (HB2.out.trans ((HBW.out.mono (by omega)).trans (((Below.refl _ _).setCell (by show w.heap.size ≤ w2.heap.size; omega) _).trans (HB4.out.mono (by simpa using z3)))))⟩

/-- what the law lets go -/
theorem sumTells_let (s : ByteArray) (i : Int) (c : Int) (h1 : s.size ≤ 140737488351232) (hi1 : -9223372036854775808 ≤ i) (hi2 : i ≤ 9223372036854775807) (hc1 : 0 ≤ c) (hc : c < 256)
    (hlet : 3000 < s.size ∨ i < 0 ∨ (s.size : Int) + 4 ≤ i ∨ c = 0) (w : World) :
    Calls Try.prog 5 #[.string s, .int .i64 i, .int .u8 c] w fun e w' => e = .returned (.bool true) ∧ Below w.heap.size w w' := by
  by_cases c1 : 3000 < s.size
  · clear hlet
    go_enter Try.func5, Try.ntmps5
    go_wp2_with fail
    refine (sumAwake w).mono ?_
    rintro e w1 ⟨rfl, hb1⟩
    have HB1 := Lib.hid hb1
    clear hb1
    go_wp2_with fail
    go_ret
    exact ⟨rfl, HB1.out⟩
  by_cases c2 : i < 0
  · clear hlet
    go_enter Try.func5, Try.ntmps5
    go_wp2_with fail
    refine (sumAwake w).mono ?_
    rintro e w1 ⟨rfl, hb1⟩
    have HB1 := Lib.hid hb1
    clear hb1
    go_wp2_with fail
    go_ret
    exact ⟨rfl, HB1.out⟩
  by_cases c3 : (s.size : Int) + 4 ≤ i
  · clear hlet
    go_enter Try.func5, Try.ntmps5
    go_wp2_with fail
    refine (sumAwake w).mono ?_
    rintro e w1 ⟨rfl, hb1⟩
    have HB1 := Lib.hid hb1
    clear hb1
    go_wp2_with fail
    go_ret
    exact ⟨rfl, HB1.out⟩
  · obtain rfl : c = 0 := by omega
    clear hlet
    go_enter Try.func5, Try.ntmps5
    go_wp2_with fail
    refine (sumAwake w).mono ?_
    rintro e w1 ⟨rfl, hb1⟩
    have HB1 := Lib.hid hb1
    clear hb1
    go_wp2_with fail
    go_ret
    exact ⟨rfl, HB1.out⟩

theorem under_int : Try.prog.underlying 3 = some (.int .i64) := by kernel_rfl
theorem bounds_i64 {n : Int} (h : (Lit.int .i64 n).wf = true) : -9223372036854775808 ≤ n ∧ n ≤ 9223372036854775807 := by
  simpa [Lit.wf, IntKind.min, IntKind.max, IntKind.signed, IntKind.bits] using h
theorem bounds_byte {n : Int} (h : (Lit.int .u8 n).wf = true) : 0 ≤ n ∧ n ≤ 255 := by
  simpa [Lit.wf, IntKind.min, IntKind.max, IntKind.signed, IntKind.bits] using h

set_option maxRecDepth 100000 in
theorem sumTells_lawful : Lawful 5 Try.f5 := by
  intro H enc W base args ds p hval hA hlt hsz
  rw [Try.params5] at hA hval hsz
  obtain ⟨v0, v1, v2, d0, d1, d2, p0, p1, p2, rfl, rfl, rfl, h0, h1, h2⟩ := trodAll_three hA
  obtain ⟨s, rfl, rfl, rfl, hs⟩ := open_string under_str (hval 0 9 v0 rfl rfl) h0
  obtain ⟨i, rfl, rfl, rfl, wi⟩ := open_int under_int (hval 1 3 v1 rfl rfl) h1
  obtain ⟨c, rfl, rfl, rfl, wc⟩ := open_int under_u8 (hval 2 5 v2 rfl rfl) h2
  simp only [DataW.weightsEach, DataW.weights, List.append_nil, List.mem_singleton] at hsz
  have hz := hsz s.size rfl
  obtain ⟨i1, i2⟩ := bounds_i64 wi
  obtain ⟨c1, c2⟩ := bounds_byte wc
  by_cases hlet : 3000 < s.size ∨ i < 0 ∨ (s.size : Int) + 4 ≤ i ∨ c = 0
  · exact sumTells_let s i c hz i1 i2 c1 (by omega) hlet W
  · obtain ⟨i, rfl⟩ := Int.eq_ofNat_of_zero_le (show 0 ≤ i by omega)
    obtain ⟨c, rfl⟩ := Int.eq_ofNat_of_zero_le c1
    exact sumTells_law s i c (by omega) (by omega) (by omega) (by omega) W

theorem sumTells_holds : Rows.SumTellsSaid :=
  OpenClaim.holds_of_wide 5 Try.f5 rfl rfl rfl rfl rfl rfl rfl ⟨rfl, rfl, rfl, rfl, rfl⟩ rfl rfl rfl rfl rfl (by kernel_rfl) Try.func5 (by kernel_rfl)
    (of_decide_eq_true (by kernel_rfl)) (by unfold Func.isWrapper; rw [if_neg (of_decide_eq_false (by kernel_rfl))]; exact ⟨rfl, rfl⟩)
    (fun os started H enc _ => law_lift (s := Rows.sumTellsSpec) Try.func5 (by kernel_rfl) rfl rfl rfl (by rw [Try.params5]; intro t ht; simp at ht; rcases ht with rfl | rfl | rfl <;> exact ⟨by kernel_rfl, of_decide_eq_true (by kernel_rfl)⟩)
      (by rw [Try.params5]; intro H ds hds; match ds, hds with | [d1, d2, d3], _ => exact ⟨rfl, rfl, rfl⟩) sumTells_lawful os started H enc
      (ChangeSpec.witness6 (enc := enc) (C := Try.checked) false ⟨#[], #[.string ByteArray.empty, .int .i64 0, .int .u8 0], []⟩ 8 (by kernel_rfl) (by kernel_rfl) (by kernel_rfl) (by kernel_rfl)))
end Go.Proofs.Ytpnmhpkpkejdiaa
