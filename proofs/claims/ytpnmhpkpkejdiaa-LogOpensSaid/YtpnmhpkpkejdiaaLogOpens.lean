/- Of a disk with any bytes the log has the records that they have, and what stands behind is gone; of none, or one that is down, there is none: the law LogOpens answers true at every input. No condition. -/
import Derived.Test.YtpnmhpkpkejdiaaLogF
import Derived.Test.YtpnmhpkpkejdiaaLift
namespace Go.Proofs.Ytpnmhpkpkejdiaa
open Go.ChangeShapes Go.WideShapes Go.ChangeAt Go.RowKit
open Go.ChangeMaps (open_string)

set_option maxRecDepth 100000 in
set_option maxHeartbeats 1600000 in
theorem logOpens_let (s m : ByteArray) (w : World) (hs : s.size ≤ 140737488351232) (hm : m.size ≤ 140737488351232) (hlet : 3000 < s.size ∨ 300 < m.size) :
    Calls Try.prog 15 #[.string s, .string m] w fun e w' => e = .returned (.bool true) ∧ Below w.heap.size w w' := by
  by_cases h1 : 3000 < s.size
  · go_enter Try.func15, Try.ntmps15
    go_wp2_with fail
    refine (logAwake w).mono ?_
    rintro e w1 ⟨rfl, hb1⟩
    have HB1 := Lib.hid hb1
    clear hb1
    go_wp2_with fail
    go_ret
    exact ⟨rfl, HB1.out⟩
  · have h2 : 300 < m.size := hlet.resolve_left h1
    go_enter Try.func15, Try.ntmps15
    go_wp2_with fail
    refine (logAwake w).mono ?_
    rintro e w1 ⟨rfl, hb1⟩
    have HB1 := Lib.hid hb1
    clear hb1
    go_wp2_with fail
    go_ret
    exact ⟨rfl, HB1.out⟩

/-- what the disk comes to, step by step -/
theorem logOpens_plain (s m : ByteArray) (hs : s.size ≤ 3000) (hm : m.size ≤ 300) :
    ∃ t1 t2 t3 t4 t5 : DSt, ((dst0 10000).append s).2 = t1 ∧ t1.bytes = s ∧ DOk 1 t1 ∧ t1.all.length ≤ 10000 ∧ openD t1 = (0, t2) ∧ t2.all.length = recLen s ∧ t2.lasts.size = recLen s ∧ DOk 1 t2 ∧
      appD t2 m = (0, t3) ∧ DOk 2 t3 ∧ t3.all.length ≤ 10000 ∧ openD t3 = (0, t4) ∧ recsOf t3.bytes = recsOf s ++ [m] ∧ DOk 2 t4 ∧ (t4.fuse 0).sync = (8, t5) ∧ openD t5 = (8, t5) ∧ DOk 2 t5 ∧ t5.all.length ≤ 10000 := by
  obtain ⟨a1, a2, a3, a4, a5⟩ := new_append 10000 (by omega) s hs
  obtain ⟨t1, ht1⟩ : ∃ t1, ((dst0 10000).append s).2 = t1 := ⟨_, rfl⟩
  rw [ht1] at a1 a2 a3 a4 a5
  have hby : t1.bytes = s := by unfold DSt.bytes; rw [a1]
  obtain ⟨t2, o1, o2, o3, o4, o5, o6, o7⟩ := openD_any a2 a3 a5
  rw [hby] at o2 o3
  have hrl : recLen s ≤ s.size := Nat.sub_le _ _
  have h2l : t2.all.length = recLen s := by
    rw [o2, ← recs_bytes s, List.length_take, all_size]; omega
  have hap := appD_clean (s := t2) m o4 o5 (by rw [h2l, o6, a4]; omega)
  obtain ⟨tm, htm⟩ : ∃ tm, t2.more (txt (frameL m.data.toList)) = tm := ⟨_, rfl⟩
  have hmo : DOk 2 tm := by rw [← htm]; exact more_ok o7 (by rw [h2l, txt_frame_size, o6, a4]; omega)
  have hma : tm.all = bytesL (recsOf s ++ [m]) := by rw [← htm, more_frame_all, o2, bytesL_snoc]
  have hmp : tm.left = -1 ∧ tm.down = false ∧ tm.cap = 10000 := by rw [← htm]; exact ⟨o5, o4, o6.trans a4⟩
  rw [htm] at hap
  obtain ⟨t3, ht3⟩ : ∃ t3, tm.only tm.bytes = t3 := ⟨_, rfl⟩
  rw [ht3] at hap
  have h3o : DOk 2 t3 := by rw [← ht3]; exact only_ok2 hmo
  have h3a : t3.all = bytesL (recsOf s ++ [m]) := by rw [← ht3, only_bytes_all, hma]
  have h3p : t3.left = -1 ∧ t3.down = false ∧ t3.cap = 10000 := by rw [← ht3]; exact hmp
  have hsm : ∀ x ∈ recsOf s ++ [m], x.size ≤ 1048576 := by
    intro x hx
    rcases List.mem_append.1 hx with hx | hx
    · have := recs_small s x hx; omega
    · rw [List.mem_singleton.1 hx]; omega
  have hop := openD_clean (recsOf s ++ [m]) h3p.2.1 h3p.1 hsm h3a
  obtain ⟨t4, ht4⟩ : ∃ t4, t3.only t3.bytes = t4 := ⟨_, rfl⟩
  rw [ht4] at hop
  have h4o : DOk 2 t4 := by rw [← ht4]; exact only_ok2 h3o
  have h4d : t4.down = false := by rw [← ht4]; exact h3p.2.1
  obtain ⟨t5, f1, f2⟩ := fuse_burns h4d
  have h5o : DOk 2 t5 := by
    have := sync_ok (fuse_ok h4o 0 (by omega))
    rw [f1] at this
    exact this
  have h5c : t5.cap = 10000 := by
    have e := sync_cap (t4.fuse 0)
    rw [f1] at e
    have e2 : t4.cap = 10000 := by rw [← ht4]; exact h3p.2.2
    exact e.trans e2
  refine ⟨t1, t2, t3, t4, t5, ht1, hby, a5, ?_, o1, h2l, o3, o7, hap, h3o, ?_, hop.1, hop.2, h4o, f1, ?_, h5o, ?_⟩
  · have := a5.all; omega
  · have := h3o.all; rw [h3p.2.2] at this; omega
  · unfold openD; rw [if_pos f2]
  · have := h5o.all; omega

set_option maxRecDepth 100000 in
set_option maxHeartbeats 6400000 in
theorem logOpens_law (s m : ByteArray) (w : World) (hs : s.size ≤ 3000) (hm : m.size ≤ 300) :
    Calls Try.prog 15 #[.string s, .string m] w fun e w' => e = .returned (.bool true) ∧ Below w.heap.size w w' := by
  obtain ⟨t1, t2, t3, t4, t5, e1, e2, k1, l1, o1, n1, n2, k2, o2, k3, l3, o3, r3, k4, o4, o5, k5, l5⟩ := logOpens_plain s m hs hm
  have hrl : recLen s ≤ s.size := Nat.sub_le _ _
  have hrc := recs_count s
  obtain ⟨q, hq⟩ : ∃ q, recLen s = q := ⟨_, rfl⟩
  rw [hq] at n1 n2 hrl
  obtain ⟨rs, hrs⟩ : ∃ rs, recsOf s = rs := ⟨_, rfl⟩
  rw [hrs] at r3 hrc
  obtain ⟨rn, hrn⟩ : ∃ rn, rs.length = rn := ⟨_, rfl⟩
  rw [hrn] at hrc
  have HQ := Lib.hid hq
  have HRS := Lib.hid hrs
  have HRN := Lib.hid hrn
  have E1 := Lib.hid e1
  have E2 := Lib.hid e2
  have K1 := Lib.hid k1
  have L1 := Lib.hid l1
  have O1 := Lib.hid o1
  have N1 := Lib.hid n1
  have N2 := Lib.hid n2
  have K2 := Lib.hid k2
  have O2 := Lib.hid o2
  have K3 := Lib.hid k3
  have L3 := Lib.hid l3
  have O3 := Lib.hid o3
  have R3 := Lib.hid r3
  have K4 := Lib.hid k4
  have O4 := Lib.hid o4
  have O5 := Lib.hid o5
  have K5 := Lib.hid k5
  have L5 := Lib.hid l5
  clear hq hrs hrn e1 e2 k1 l1 o1 n1 n2 k2 o2 k3 l3 o3 r3 k4 o4 o5 k5 l5
  go_enter Try.func15, Try.ntmps15
  go_wp2_with fail
  refine (logAwake w).mono ?_
  rintro e w0 ⟨rfl, hb0⟩
  have HB0 := Lib.hid hb0
  clear hb0
  go_wp2_with fail
  refine (new_any 10000 w0).mono ?_
  rintro e w1 ⟨rfl, h1, b1⟩
  obtain ⟨gd, hgd⟩ : ∃ gd, w0.heap.size = gd := ⟨_, rfl⟩
  try rw [hgd]
  rw [hgd] at h1 b1
  have hz0 : w.heap.size ≤ gd := by have := HB0.out.size; omega
  have hz1 : gd ≤ w1.heap.size := by have := b1.size; omega
  have hap := append_any gd 0 (dst0 10000) (fun k => gd ≤ k) w1 s h1 (dst0_ok _) (by omega) (by omega)
  rw [E1.out] at hap
  have HAP := Lib.hid hap
  have HB1 : Hid (Below w.heap.size w w1) := HB0.out.trans (b1.mono hz0)
  clear h1 b1 hgd hap HB0
  go_wp2_with fail
  refine HAP.out.mono ?_
  rintro e w2 ⟨rfl, h2, c2⟩
  have hz2 := c2.size
  have hop := open_log gd 1 gd (fun _ => False) _ t1 w2 h2 K1.out (by omega) (by have := L1.out; omega) (fun k a => ⟨by omega, fun x => x⟩) (fun k a => a.elim) (by omega)
  have HOP := Lib.hid hop
  have HB2 : Hid (Below w.heap.size w w2) := HB1.out.trans (c2.below (by omega) (fun i hi a => by omega))
  clear h2 c2 hop HAP HB1
  go_wp2_with fail
  refine HOP.out.mono ?_
  rintro e w3 ⟨v, he, c3, -, hv, -⟩
  rw [O1.out] at he hv
  obtain ⟨gl, rfl, hld⟩ := hv rfl
  rw [E2.out, HRS.out] at hld
  subst he
  have hz3 := c3.size
  have HLD := Lib.hid hld
  have HB3 : Hid (Below w.heap.size w w3) := HB2.out.trans (c3.below (by omega) (fun i hi a => by omega))
  clear hv c3 hld HOP HB2
  go_wp2_with fail
  refine (refScan_any s (by omega) w3).mono ?_
  rintro e w4 ⟨v, he, hsl, hb4⟩
  rw [HQ.out] at he
  rw [HRS.out] at hsl
  obtain ⟨ao4, cp4, rfl, _, _⟩ := hsl.shape
  rw [HRN.out] at he
  subst he
  have HST4 := Lib.hid hsl.strs
  have HB4 : Hid (Below w.heap.size w w4) := HB3.out.trans (hb4.mono (by omega))
  have HLD4 := Lib.hid (HLD.out.below hb4)
  have hz4 := hb4.size
  obtain ⟨FL, hlg, -, -, -⟩ := HLD4.out.log (by omega)
  have hall := logAll_any gl gd rs FL w4 hlg (by rw [HRN.out]; omega)
  rw [HRN.out] at hall
  have HAL := Lib.hid hall
  clear hsl hb4 hlg hall HLD HB3
  go_wp2_with fail
  refine HAL.out.mono ?_
  rintro e w5 ⟨ao5, cp5, rfl, hst5, hb5⟩
  have hz5 := hb5.size
  have hsm := same_any rs rs rn rn ao5 ao4 cp5 cp4 w5 hst5 (HST4.out.below hb5) HRN.out HRN.out (by omega) (by omega) true (by simp)
  have HSM := Lib.hid hsm
  have HB5 : Hid (Below w.heap.size w w5) := HB4.out.trans (hb5.mono (by omega))
  have HLD5 := Lib.hid (HLD4.out.below hb5)
  clear hst5 hb5 hsm HAL HLD4 HB4
  go_wp2_with fail
  refine HSM.out.mono ?_
  rintro e w6 ⟨rfl, hb6⟩
  have hz6 := hb6.size
  have HB6 : Hid (Below w.heap.size w w6) := HB5.out.trans (hb6.mono (by omega))
  have HLD6 := Lib.hid (HLD5.out.below hb6)
  obtain ⟨FD, hd6, -, -, -, -⟩ := HLD6.out.disk (by omega)
  have hln := len_any gd t2 FD w6 hd6 (by rw [N1.out]; omega) (by have := K2.out.pieces; omega)
  rw [N1.out] at hln
  have HLN := Lib.hid hln
  clear hb6 hd6 hln HSM HLD5 HB5
  go_wp2_with fail
  refine HLN.out.mono ?_
  rintro e w7 ⟨rfl, hb7⟩
  have hz7 := hb7.size
  have HB7 : Hid (Below w.heap.size w w7) := HB6.out.trans (hb7.mono (by omega))
  have HLD7 := Lib.hid (HLD6.out.below hb7)
  obtain ⟨FD7, hd7, -, -, -, -⟩ := HLD7.out.disk (by omega)
  have hla := lasts_any gd t2 FD7 w7 hd7
  rw [N2.out] at hla
  have HLA := Lib.hid hla
  have hap := append_log gd 1 gd gl (fun _ => False) t2 rs w7 m HLD7.out K2.out (by omega) (by rw [HRN.out]; omega) (by omega) (by omega)
  rw [O2.out] at hap
  have HAP := Lib.hid hap
  clear hb7 hd7 hla hap HLN HLD6 HB6 HLD7
  go_wp2_with fail
  refine HLA.out.mono ?_
  rintro e w7' ⟨rfl, rfl⟩
  go_wp2_with fail
  refine HAP.out.mono ?_
  rintro e w8 ⟨rfl, hld8, c8⟩
  have hz8 := c8.size
  have HB8 : Hid (Below w.heap.size w w8) := HB7.out.trans (c8.below (by omega) (fun i hi a => by omega))
  obtain ⟨FD8, hd8, -, hF8, -, -⟩ := hld8.disk (by omega)
  have hop := open_log gd 2 gd (fun _ => False) FD8 t3 w8 hd8 K3.out (by omega) (by have := L3.out; omega) (fun k a => ⟨hF8 k a, fun x => x⟩) (fun k a => a.elim) (by omega)
  have HOP := Lib.hid hop
  have HF8 := Lib.hid hF8
  clear hld8 c8 hd8 hF8 hop HAP HLA HB7
  go_wp2_with fail
  refine HOP.out.mono ?_
  rintro e w9 ⟨v, he, c9, -, hv, -⟩
  rw [O3.out] at he hv
  obtain ⟨gl2, rfl, hld⟩ := hv rfl
  rw [R3.out] at hld
  subst he
  have hz9 := c9.size
  have HB9 : Hid (Below w.heap.size w w9) := HB8.out.trans (c9.below (by omega) (fun i hi a => by have := HF8.out i a; omega))
  obtain ⟨FL9, hlg9, -, -, -⟩ := hld.log (by omega)
  have hln := logLen_any gl2 gd (rs ++ [m]) FL9 w9 hlg9
  have e9 : (rs ++ [m]).length = rn + 1 := by rw [List.length_append, HRN.out]; rfl
  rw [e9] at hln
  have HLN := Lib.hid hln
  have hi9 : IntKind.i64.wrap ((rn : Int) + 1) = ((rn + 1 : Nat) : Int) := by rw [IntWalk.i64_in _ (by omega)]; omega
  have hi9' : (rn : Int) + 1 = ((rn + 1 : Nat) : Int) := by omega
  have HLD9 := Lib.hid hld
  clear hv c9 hld hlg9 hln e9 HOP HB8
  go_wp2_with fail
  refine HLN.out.mono ?_
  rintro e w9' ⟨rfl, rfl⟩
  obtain ⟨FD9, hd9, -, hF9, -, -⟩ := HLD9.out.disk (by omega)
  have HFU := Lib.hid (fuse_any gd t4 FD9 w9 0 hd9)
  have HF9 := Lib.hid hF9
  clear hd9 hF9 HLN HLD9 hi9 hi9'
  go_wp2_with fail
  refine HFU.out.mono ?_
  rintro e w10 ⟨rfl, h10, c10⟩
  have hz10 := c10.size
  have HB10 : Hid (Below w.heap.size w w10) := HB9.out.trans (c10.below (by omega) (fun i hi a => by have := HF9.out i a; omega))
  have hsy := sync_any gd 2 (t4.fuse 0) FD9 w10 h10 (fuse_ok K4.out 0 (by omega)) (by omega)
  rw [O4.out] at hsy
  have HSY := Lib.hid hsy
  clear h10 c10 hsy HFU HB9
  go_wp2_with fail
  refine HSY.out.mono ?_
  rintro e w11 ⟨rfl, h11, c11⟩
  have hz11 := c11.size
  have HB11 : Hid (Below w.heap.size w w11) := HB10.out.trans (c11.below (by omega) (fun i hi a => by have := HF9.out i a; omega))
  have hop := open_log gd 2 gd (fun _ => False) _ t5 w11 h11 K5.out (by omega) (by have := L5.out; omega) (fun k a => ⟨by
    rcases a with ⟨a, _⟩ | a
    · exact HF9.out k a
    · omega, fun x => x⟩) (fun k a => a.elim) (by omega)
  have HOP := Lib.hid hop
  clear h11 c11 hop HSY HB10
  go_wp2_with fail
  refine HOP.out.mono ?_
  rintro e w12 ⟨v, he, c12, -, -, hv⟩
  rw [O5.out] at he hv
  obtain rfl := hv (show ¬ ((8 : Int) = 0) by decide)
  subst he
  have HB12 : Hid (Below w.heap.size w w12) := HB11.out.trans (c12.below (by omega) (fun i hi a => by
    rcases a with ⟨a, _⟩ | a
    · have := HF9.out i a; omega
    · omega))
  clear hv c12 HOP HB11
  go_wp2_with fail
  refine (openNil w12).mono ?_
  rintro e w13 ⟨rfl, rfl⟩
  go_wp2_with fail
  refine (lastNil w12).mono ?_
  rintro e w13 ⟨rfl, rfl⟩
  go_wp2_with fail
  refine (appendNil15 _ w12).mono ?_
  rintro e w13 ⟨rfl, rfl⟩
  go_wp2_with fail
  refine (allNil w12).mono ?_
  rintro e w13 ⟨rfl, rfl⟩
  go_wp2_with fail
  refine (lenNil15 w12).mono ?_
  rintro e w13 ⟨rfl, rfl⟩
  go_wp2_with fail
  refine (roomNil15 w12).mono ?_
  rintro e w13 ⟨rfl, rfl⟩
  go_wp2_with fail
  go_ret
  exact ⟨rfl, HB12.out⟩

set_option maxRecDepth 100000 in
theorem logOpens_lawful : Lawful 15 Try.f15 := by
  intro H enc W base args ds p hval hA hlt hsz
  rw [Try.params15] at hA hval hsz
  obtain ⟨v0, v1, d0, d1, p0, p1, rfl, rfl, rfl, h0, h1⟩ := trodAll_two hA
  obtain ⟨s, rfl, rfl, rfl, _⟩ := open_string under_str (hval 0 9 v0 rfl rfl) h0
  obtain ⟨t, rfl, rfl, rfl, _⟩ := open_string under_str (hval 1 9 v1 rfl rfl) h1
  simp only [DataW.weightsEach, DataW.weights, List.append_nil, List.mem_append, List.mem_singleton] at hsz
  have hs := hsz s.size (Or.inl rfl)
  have ht := hsz t.size (Or.inr rfl)
  by_cases hlet : 3000 < s.size ∨ 300 < t.size
  · exact logOpens_let s t W hs ht hlet
  · exact logOpens_law s t W (by omega) (by omega)

theorem logOpens_holds : Rows.LogOpensSaid :=
  OpenClaim.holds_of_wide 15 Try.f15 rfl rfl rfl rfl rfl rfl rfl ⟨rfl, rfl, rfl, rfl, rfl⟩ rfl rfl rfl rfl rfl (by kernel_rfl) Try.func15 (by kernel_rfl)
    (of_decide_eq_true (by kernel_rfl)) (by unfold Func.isWrapper; rw [if_neg (of_decide_eq_false (by kernel_rfl))]; exact ⟨rfl, rfl⟩)
    (fun os started H enc _ => law_lift (s := Rows.logOpensSpec) Try.func15 (by kernel_rfl) rfl rfl rfl (by rw [Try.params15]; intro t ht; simp at ht; rcases ht with rfl | rfl <;> exact ⟨by kernel_rfl, of_decide_eq_true (by kernel_rfl)⟩)
      (by rw [Try.params15]; intro H ds hds; match ds, hds with | [d1, d2], _ => exact ⟨rfl, rfl, rfl⟩) logOpens_lawful os started H enc
      (ChangeSpec.witness6 (enc := enc) (C := Try.checked) false ⟨#[], #[.string ByteArray.empty, .string ByteArray.empty], []⟩ 8 (by kernel_rfl) (by kernel_rfl) (by kernel_rfl) (by kernel_rfl)))
end Go.Proofs.Ytpnmhpkpkejdiaa
