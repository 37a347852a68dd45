/- Any bytes have the records that the document says; records, and anything behind that is no frame, have just them: the law LogScans answers true at every input. No condition. -/
import Derived.Test.YtpnmhpkpkejdiaaLogE
import Derived.Test.YtpnmhpkpkejdiaaLift
import Derived.Test.YtpnmhpkpkejdiaaStrs
namespace Go.Proofs.Ytpnmhpkpkejdiaa
open Go.ChangeShapes Go.WideShapes Go.ChangeAt Go.RowKit
open Go.ChangeMaps (open_string)

set_option maxRecDepth 100000 in
set_option maxHeartbeats 1600000 in
theorem logScans_let (s : ByteArray) (so : Option Addr) (n scap : Nat) (w : World) (hm : n ≤ maxLen) (hs : s.size ≤ 140737488351232) (hlet : 3000 < s.size ∨ 60 < n) :
    Calls Try.prog 12 #[.string s, .slice so n scap] w fun e w' => e = .returned (.bool true) ∧ Below w.heap.size w w' := by
  unfold maxLen at hm
  by_cases h1 : 3000 < s.size
  · go_enter Try.func12, Try.ntmps12
    go_wp2_with fail
    refine (logAwake w).mono ?_
    rintro e w1 ⟨rfl, hb1⟩
    have HB1 := Lib.hid hb1
    clear hb1
    go_wp2_with fail
    go_ret
    exact ⟨rfl, HB1.out⟩
  · have h2 : 60 < n := hlet.resolve_left h1
    go_enter Try.func12, Try.ntmps12
    go_wp2_with fail
    refine (logAwake w).mono ?_
    rintro e w1 ⟨rfl, hb1⟩
    have HB1 := Lib.hid hb1
    clear hb1
    go_wp2_with fail
    go_ret
    exact ⟨rfl, HB1.out⟩

theorem bytesL_succ (l : List ByteArray) (k : Nat) {x : ByteArray} (hx : l[k]? = some x) : bytesL (l.take (k + 1)) = bytesL (l.take k) ++ frameL x.data.toList := by
  rw [List.take_add_one, hx]
  exact bytesL_snoc _ x

set_option maxRecDepth 100000 in
set_option maxHeartbeats 6400000 in
theorem logScans_law (s : ByteArray) (so : Option Addr) (sb soff n scap : Nat) (l : List ByteArray) (w : World) (hs : s.size ≤ 3000) (hl : l.length = n) (hn : n ≤ 60) (hao : 0 < n → so = some ⟨sb, soff, none⟩) (hb : 0 < n → sb < w.heap.size)
    (hx : ∀ x ∈ l, x.size ≤ 140737488351232) (hc : ∀ i x, l[i]? = some x → w.cell? ⟨sb, soff + i, none⟩ = some (.string x)) :
    Calls Try.prog 12 #[.string s, .slice so n scap] w fun e w' => e = .returned (.bool true) ∧ Below w.heap.size w w' := by
  have hst : StrsAt w so l := fun i x hi => ⟨sb, soff, hao (by have := (List.getElem?_eq_some_iff.1 hi).1; omega), hc i x hi⟩
  have hrl : recLen s ≤ s.size := Nat.sub_le _ _
  obtain ⟨q, hq⟩ : ∃ q, recLen s = q := ⟨_, rfl⟩
  have HS1 : Hid (∀ v, Calls Try.prog 43 #[.string s] v (ScanPost s v)) := fun v => scan_any s (by omega) v
  have HS2 : Hid (∀ v, Calls Try.prog 44 #[.string s] v (ScanPost s v)) := fun v => refScan_any s (by omega) v
  have HQ := Lib.hid hq
  have HST := Lib.hid hst
  have HL := Lib.hid hl
  have HAO := Lib.hid hao
  have HB := Lib.hid hb
  have HX := Lib.hid hx
  have HC := Lib.hid hc
  clear hl hao hb hx hc hst hq
  go_enter Try.func12, Try.ntmps12
  go_wp2_with fail
  refine (logAwake w).mono ?_
  rintro e w1 ⟨rfl, hb1⟩
  have HB1 := Lib.hid hb1
  clear hb1
  go_wp2_with fail
  refine (HS1.out w1).mono ?_
  rintro e w2 ⟨v, he, hsl, hb2⟩
  rw [HQ.out] at he
  obtain ⟨ao2, cp2, rfl, _, _⟩ := hsl.shape
  have HB2 : Hid (Below w.heap.size w w2) := HB1.out.trans (hb2.mono HB1.out.size)
  have HST2 := Lib.hid hsl.strs
  obtain ⟨rn, hrn⟩ : ∃ rn, (recsOf s).length = rn := ⟨_, rfl⟩
  have hrnb : rn ≤ 140737488355328 := by
    have := recs_count s
    omega
  rw [hrn] at he
  have HRN := Lib.hid hrn
  subst he
  clear hsl hb2 hrn
  go_wp2_with fail
  refine (HS2.out w2).mono ?_
  rintro e w3 ⟨v, he, hsl, hb3⟩
  rw [HQ.out] at he
  obtain ⟨ao3, cp3, rfl, _, _⟩ := hsl.shape
  have HB3 : Hid (Below w.heap.size w w3) := HB2.out.trans (hb3.mono HB2.out.size)
  have hsm := same_any (recsOf s) (recsOf s) rn rn ao2 ao3 cp2 cp3 w3 (HST2.out.below hb3) hsl.strs HRN.out HRN.out hrnb hrnb true (by simp)
  rw [HRN.out] at he
  have HSM := Lib.hid hsm
  subst he
  clear hsl hb3 hsm
  go_wp2_with fail
  refine HSM.out.mono ?_
  rintro e w4 ⟨rfl, hb4⟩
  have HB4 : Hid (Below w.heap.size w w4) := HB3.out.trans (hb4.mono HB3.out.size)
  clear hb4 HSM HS1 HS2 HB1 HB2 HB3
  go_wp2_with fail
  go_loopw [9, 45] (fun t i wr => ∃ (k : Nat) (acc : ByteArray), k ≤ n ∧ i = .int .i64 k ∧ t = .string acc ∧ acc.size ≤ 3008 ∧ Hid (acc = txt (bytesL (l.take k)) ∧ ∀ x ∈ l.take k, x.size ≤ 3000) ∧ Hid (Below w.heap.size w wr)) (fun _ i _ => n - (intOf i).toNat)
  case atStart => exact ⟨0, ByteArray.empty, by omega, rfl, rfl, by decide, ⟨rfl, by simp⟩, HB4.out⟩
  case round =>
    obtain ⟨k, acc, hk, rfl, rfl, hacc, HA, HW⟩ := hrel
    clear HB4
    by_cases hlt : k < n
    · obtain rfl := HAO.out (by omega)
      obtain ⟨x, hx⟩ : ∃ x, l[k]? = some x := ⟨_, List.getElem?_eq_getElem (by rw [HL.out]; exact hlt)⟩
      have q0 : wr.cell? ⟨sb, soff + k, none⟩ = some (.string x) := (HW.out.cell (by exact HB.out (by omega))).trans (HC.out k x hx)
      have hxs := HX.out x (List.mem_of_getElem? hx)
      have HXX := Lib.hid hx
      clear hx
      have e1 : IntKind.i64.wrap ((acc.size : Int) + (x.size : Int)) = (acc.size : Int) + (x.size : Int) := IntWalk.i64_in _ (by omega)
      by_cases hbig : 3000 < acc.size + x.size
      · have d1 : decide ((3000 : Int) < (acc.size : Int) + (x.size : Int)) = true := by simp; omega
        go_wp2_with fail
        go_ret
        exact ⟨rfl, HW.out⟩
      · have d1 : decide ((3000 : Int) < (acc.size : Int) + (x.size : Int)) = false := by simp; omega
        obtain ⟨acc2, hacc2⟩ : ∃ a, a = txt (acc.data.toList ++ frameL x.data.toList) := ⟨_, rfl⟩
        have hadd := add_bytes acc.data.toList (frameL x.data.toList) (by rw [frameL_length, all_size, all_size]; omega)
        rw [bytes_toList] at hadd
        have hadd2 : ∀ w0, Sem.run Try.prog (Op.stringOp .add acc (txt (frameL x.data.toList))) w0 = .ok (.string acc2) w0 := fun w0 => by rw [hacc2]; exact hadd w0
        have hsz : acc2.size = acc.size + x.size + 8 := by rw [hacc2, txt_size, List.length_append, frameL_length, all_size, all_size]; omega
        have HA2 : Hid (acc2 = txt (bytesL (l.take (k + 1))) ∧ ∀ y ∈ l.take (k + 1), y.size ≤ 3000) := by
          refine ⟨?_, ?_⟩
          · rw [hacc2, bytesL_succ l k HXX.out]
            congr 2
            rw [HA.out.1, txt_data]
          · intro y hy
            rw [List.take_add_one, HXX.out] at hy
            rcases List.mem_append.1 hy with hy | hy
            · exact HA.out.2 y hy
            · have : y = x := by simpa using hy
              rw [this]; omega
        have HFR : Hid (∀ v : World, Calls Try.prog 22 #[.string x] v fun e w' => e = .returned (.string (txt (frameL x.data.toList))) ∧ Below v.heap.size v w') := fun v => refFrame_any x (by omega) v
        have hs2 : acc2.size ≤ 3008 := by omega
        generalize txt (frameL x.data.toList) = fr at *
        clear hadd hacc2 hsz
        have HADD := Lib.hid hadd2
        clear hadd2
        go_wp2_with fail
        refine (HFR.out wr).mono ?_
        rintro e w5 ⟨rfl, hb5⟩
        have HW5 : Hid (Below w.heap.size w w5) := HW.out.trans (hb5.mono HW.out.size)
        have hadd := HADD.out
        clear hb5 HFR HADD
        go_wp2_with fail
        go_roundw
        case rel => exact ⟨k + 1, acc2, by omega, by go_num, rfl, hs2, HA2.out, HW5.out⟩
        case measure => simp [intOf]; omega
    · obtain rfl : k = n := by omega
      have hlk : l.take k = l := by rw [← HL.out]; exact List.take_length
      have ha1 := HA.out.1
      have ha2 := HA.out.2
      rw [hlk] at ha1 ha2
      have hrr := recs_frames l acc [] (fun x hx => by have := ha2 x hx; omega) (by rw [ha1, txt_data, List.append_nil]) open_nil
      have hal : recLen acc = acc.size := by rw [hrr.2.2, ha1, txt_size]
      have hsc := scan_any acc (by omega) wr
      have HSC := Lib.hid hsc
      have HRR := Lib.hid hrr.1
      have HAL := Lib.hid hal
      clear hlk ha1 ha2 hrr hal hsc HA
      go_wp2_with fail
      refine HSC.out.mono ?_
      rintro e w5 ⟨v, he, hsl, hb5⟩
      rw [HAL.out] at he
      rw [HRR.out] at hsl
      obtain ⟨ao5, cp5, rfl, _, _⟩ := hsl.shape
      have HB5 : Hid (Below w.heap.size w w5) := HW.out.trans (hb5.mono HW.out.size)
      have hsm := same_any l l k k ao5 so cp5 scap w5 hsl.strs ((HST.out.below HW.out).below hb5) HL.out HL.out (by omega) (by omega) true (by simp)
      rw [HL.out] at he
      have HSM := Lib.hid hsm
      subst he
      clear hsl hb5 hsm HSC
      go_wp2_with fail
      refine HSM.out.mono ?_
      rintro e w6 ⟨rfl, hb6⟩
      have HB6 : Hid (Below w.heap.size w w6) := HB5.out.trans (hb6.mono HB5.out.size)
      clear hb6 HSM
      go_wp2_with fail
      go_ret
      exact ⟨rfl, HB6.out⟩

set_option maxRecDepth 100000 in
theorem logScans_lawful : Lawful 12 Try.f12 := by
  intro H enc W base args ds p hval hA hlt hsz
  rw [Try.params12] at hA hval hsz
  obtain ⟨v0, v1, d0, d1, p0, p1, rfl, rfl, rfl, h0, h1⟩ := trodAll_two hA
  obtain ⟨s, rfl, rfl, rfl, _⟩ := open_string under_str (hval 0 9 v0 rfl rfl) h0
  obtain ⟨l, b, off, ao, n, cap, rfl, hm, hl, hx, hao, hb, hc⟩ := strsArg 1 hval hsz hlt h1 rfl rfl rfl (fun x hx => by simp [hx])
  have hs : s.size ≤ 140737488351232 := hsz s.size (by simp only [DataW.weightsEach, DataW.weights]; exact List.mem_append_left _ (List.mem_singleton.2 rfl))
  by_cases hlet : 3000 < s.size ∨ 60 < n
  · exact logScans_let s ao n cap W hm hs hlet
  · exact logScans_law s ao b off n cap l W (by omega) hl (by omega) hao hb hx (fun i x hi => by
      have hil : i < n := by rw [← hl]; exact (List.getElem?_eq_some_iff.1 hi).1
      have := hc i hil
      rw [List.getD_eq_getElem?_getD, hi] at this
      exact this)

theorem logScans_holds : Rows.LogScansSaid :=
  OpenClaim.holds_of_wide 12 Try.f12 rfl rfl rfl rfl rfl rfl rfl ⟨rfl, rfl, rfl, rfl, rfl⟩ rfl rfl rfl rfl rfl (by kernel_rfl) Try.func12 (by kernel_rfl)
    (of_decide_eq_true (by kernel_rfl)) (by unfold Func.isWrapper; rw [if_neg (of_decide_eq_false (by kernel_rfl))]; exact ⟨rfl, rfl⟩)
    (fun os started H enc _ => law_lift (s := Rows.logScansSpec) Try.func12 (by kernel_rfl) rfl rfl rfl (by rw [Try.params12]; intro t ht; simp at ht; rcases ht with rfl | rfl <;> exact ⟨by kernel_rfl, of_decide_eq_true (by kernel_rfl)⟩)
      (by rw [Try.params12]; intro H ds hds; match ds, hds with | [d1, d2], _ => exact ⟨rfl, rfl, rfl⟩) logScans_lawful os started H enc
      (ChangeSpec.witness6 (enc := enc) (C := Try.checked) false ⟨#[], #[.string ByteArray.empty, .slice none 0 0], []⟩ 8 (by kernel_rfl) (by kernel_rfl) (by kernel_rfl) (by kernel_rfl)))
end Go.Proofs.Ytpnmhpkpkejdiaa
