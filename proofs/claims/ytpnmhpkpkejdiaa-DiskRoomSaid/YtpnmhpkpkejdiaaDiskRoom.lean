/- What a disk holds, and what goes in, are its capacity together; a piece is refused just if it has no room: the law DiskRoom answers true at every input. No condition. -/
import Derived.Test.YtpnmhpkpkejdiaaDiskF
import Derived.Test.YtpnmhpkpkejdiaaLift
import Derived.Test.YtpnmhpkpkejdiaaStrs
namespace Go.Proofs.Ytpnmhpkpkejdiaa
open Go.ChangeShapes Go.WideShapes Go.ChangeAt Go.RowKit

set_option maxRecDepth 100000 in
set_option maxHeartbeats 1600000 in
theorem diskRoom_many (c : Int) (so : Option Addr) (n scap : Nat) (w : World) (hn : 60 < n) (hm : n ≤ maxLen) :
    Calls Try.prog 7 #[.int .u16 c, .slice so n scap] w fun e w' => e = .returned (.bool true) ∧ Below w.heap.size w w' := by
  unfold maxLen at hm
  go_enter Try.func7, Try.ntmps7
  go_wp2_with fail
  refine (diskAwake w).mono ?_
  rintro e w1 ⟨rfl, hb1⟩
  have HB1 := Lib.hid hb1
  clear hb1
  go_wp2_with fail
  go_ret
  exact ⟨rfl, HB1.out⟩

set_option maxRecDepth 100000 in
set_option maxHeartbeats 6400000 in
theorem diskRoom_law (c : Int) (hc0 : 0 ≤ c) (hc1 : c ≤ 65535) (so : Option Addr) (sb soff n scap : Nat) (l : List ByteArray) (w : World) (hl : l.length = n) (hn : n ≤ 60) (hao : 0 < n → so = some ⟨sb, soff, none⟩) (hb : 0 < n → sb < w.heap.size)
    (hx : ∀ x ∈ l, x.size ≤ 140737488351232) (hc : ∀ i x, l[i]? = some x → w.cell? ⟨sb, soff + i, none⟩ = some (.string x)) :
    Calls Try.prog 7 #[.int .u16 c, .slice so n scap] w fun e w' => e = .returned (.bool true) ∧ Below w.heap.size w w' := by
  have hcap : capOf c = c := by unfold capOf; omega
  have HCAP := Lib.hid hcap
  have HL := Lib.hid hl
  have HAO := Lib.hid hao
  have HB := Lib.hid hb
  have HX := Lib.hid hx
  have HC := Lib.hid hc
  clear hl hao hb hx hc hcap
  go_enter Try.func7, Try.ntmps7
  go_wp2_with fail
  refine (diskAwake w).mono ?_
  rintro e w1 ⟨rfl, hb1⟩
  have HB1 := Lib.hid hb1
  clear hb1
  go_wp2_with fail
  refine (new_any c w1).mono ?_
  rintro e w2 ⟨rfl, h2, hb2⟩
  have z1 := HB1.out.size
  obtain ⟨g, hg⟩ : ∃ g, w1.heap.size = g := ⟨_, rfl⟩
  have HR0 : Hid (DiskAt w2 (fun k => w.heap.size ≤ k) g (dst0 c) ∧ Below w.heap.size w w2) := by
    rw [← hg]
    exact ⟨h2.mono (fun k _ hk => Nat.le_trans z1 hk), HB1.out.trans (hb2.mono z1)⟩
  try rw [hg]
  clear h2 hb2 HB1 hg
  go_wp2_with fail
  go_loopw [6, 23] (fun t i wr => ∃ (k : Nat) (s : DSt), k ≤ n ∧ i = .int .i64 k ∧ t = .string s.bytes ∧ Hid (s.left = -1 ∧ s.down = false ∧ s.lasts = ByteArray.empty ∧ s.cap = c ∧ DOk k s) ∧ Hid (DiskAt wr (fun k => w.heap.size ≤ k) g s ∧ Below w.heap.size w wr)) (fun _ i _ => n - (intOf i).toNat)
  case atStart => exact ⟨0, dst0 c, by omega, rfl, rfl, ⟨rfl, rfl, rfl, HCAP.out, dst0_ok c⟩, HR0.out⟩
  case round =>
    obtain ⟨k, s, hk, rfl, rfl, HS, HR⟩ := hrel
    clear HR0
    by_cases hlt : k < n
    · obtain rfl := HAO.out (by omega)
      obtain ⟨x, hx⟩ : ∃ x, l[k]? = some x := ⟨_, List.getElem?_eq_getElem (by rw [HL.out]; exact hlt)⟩
      have q0 : wr.cell? ⟨sb, soff + k, none⟩ = some (.string x) := (HR.out.2.cell (by exact HB.out (by omega))).trans (HC.out k x hx)
      have hxs := HX.out x (List.mem_of_getElem? hx)
      clear hx
      by_cases h2000 : 2000 < x.size
      · go_wp2_with fail
        go_ret
        exact ⟨rfl, HR.out.2⟩
      · obtain ⟨hl, hd, hla, hcp, ok⟩ := HS.out
        have hal := ok.all
        have hpc := ok.pieces
        rw [hcp] at hal
        have hzr := HR.out.2.size
        have hrm := room_any g s _ wr HR.out.1 (by omega) (by omega) ok.c0 ok.c1
        rw [hcp] at hrm
        have hbs := bytes_size s
        by_cases hfit : (s.all.length : Int) + (x.size : Nat) ≤ c
        · obtain ⟨s2, ha, hadd, hp2⟩ : ∃ s2, s.append x = (0, s2) ∧ (∀ w0, Sem.run Try.prog (Op.stringOp .add s.bytes x) w0 = .ok (.string s2.bytes) w0) ∧ (s2.left = -1 ∧ s2.down = false ∧ s2.lasts = ByteArray.empty ∧ s2.cap = c ∧ DOk (k + 1) s2) := by
            have hadd := fun w0 => add_bytes s.all x.data.toList (by rw [all_size]; omega) w0
            rw [bytes_toList] at hadd
            by_cases hx0 : x.toList = []
            · refine ⟨s, append_none hl hd (by omega) hx0, fun w0 => ?_, hl, hd, hla, hcp, ok.mono (by omega)⟩
              have e : x.data.toList = [] := by rw [ByteArray.toList_eq] at hx0; exact hx0
              have := hadd w0
              rw [e, List.append_nil] at this
              exact this
            · refine ⟨s.more x, append_free hl hd (by omega) hx0, fun w0 => ?_, hl, hd, hla, hcp, more_ok ok (by omega)⟩
              have := hadd w0
              rw [← more_all] at this
              exact this
          have HRM := Lib.hid hrm
          have HA := Lib.hid ha
          have HOK0 := Lib.hid ok
          have HP2 := Lib.hid hp2
          have hq1 : (s.all.length : Int) ≤ c := hal
          obtain ⟨q, hq⟩ : ∃ q : Nat, s.all.length = q := ⟨_, rfl⟩
          rw [hq] at HRM hal hfit hq1
          have d1 : decide (c - (q : Int) < (x.size : Int)) = false := by simp; omega
          clear hrm ha ok hla hd hcp hq hl hbs hp2
          go_wp2_with fail
          refine HRM.out.mono ?_
          rintro e w3 ⟨rfl, hb3⟩
          have h3 := HR.out.1.below hb3 (Nat.le_refl _)
          have hap := append_any g k s _ w3 x h3 HOK0.out (by omega) hxs
          rw [HA.out] at hap
          have HAP := Lib.hid hap
          have HB3 : Hid (Below w.heap.size w w3) := HR.out.2.trans (hb3.mono hzr)
          have hz3 := HB3.out.size
          clear hb3 h3 hap
          go_wp2_with fail
          refine HAP.out.mono ?_
          rintro e w4 ⟨rfl, h4, c4⟩
          have HB4 : Hid (Below w.heap.size w w4) := HB3.out.trans (c4.below hz3 (fun i hi a => by omega))
          have HD4 : Hid (DiskAt w4 (fun k => w.heap.size ≤ k) g s2) := h4.mono fun k _ a => by
            rcases a with ⟨a, _⟩ | a
            · exact a
            · exact Nat.le_trans hz3 a
          clear h4 c4 HAP HRM HA HOK0
          obtain ⟨pl, pd, pla, pcp, pok⟩ := HP2.out
          have pal := pok.all
          have ppc := pok.pieces
          rw [pcp] at pal
          have hrd : Calls Try.prog 27 #[.pointer (some ⟨g, 0, none⟩)] w4 fun e w' => e = .returned (.tuple #[.string s2.bytes, .int .i64 0]) ∧ Below w4.heap.size w4 w' := read_up g s2 _ w4 HD4.out pd (by omega) (by omega)
          have HRD := Lib.hid hrd
          obtain ⟨p, hp⟩ : ∃ p : Nat, s2.all.length = p := ⟨_, rfl⟩
          have HPP := Lib.hid hp
          have hp1 : (p : Int) ≤ c := by omega
          have hp2 : p ≤ 100000000 := by omega
          have hpn : s2.pieces.length ≤ 1000000 := by omega
          have HLA : Hid (s2.lasts.size = 0) := by show s2.lasts.size = 0; rw [pla]; rfl
          have HCP := Lib.hid pcp
          have HOK := Lib.hid pok
          have e1 : IntKind.i64.wrap ((p : Int) + (c - (p : Int))) = c := by rw [IntWalk.i64_in _ (by omega)]; omega
          clear hrd hp pl pd pla pcp pok pal ppc
          go_wp2_with fail
          refine HRD.out.mono ?_
          rintro e v1 ⟨rfl, hb5⟩
          have HV1 : Hid (Below w.heap.size w v1) := HB4.out.trans (hb5.mono HB4.out.size)
          have HD1 := Lib.hid (HD4.out.below hb5 (Nat.le_refl _))
          have hln := len_any g s2 _ v1 HD1.out (by rw [HPP.out]; exact hp2) hpn
          rw [HPP.out] at hln
          have HLN := Lib.hid hln
          clear hb5 hln HRD
          go_wp2_with fail
          refine HLN.out.mono ?_
          rintro e v2 ⟨rfl, hb6⟩
          have HV2 : Hid (Below w.heap.size w v2) := HV1.out.trans (hb6.mono HV1.out.size)
          have HD2 := Lib.hid (HD1.out.below hb6 (Nat.le_refl _))
          have hrm2 := room_any g s2 _ v2 HD2.out (by rw [HPP.out]; exact hp2) hpn HOK.out.c0 HOK.out.c1
          rw [HPP.out, HCP.out] at hrm2
          have HRM2 := Lib.hid hrm2
          clear hb6 hrm2 HLN
          go_wp2_with fail
          refine HRM2.out.mono ?_
          rintro e v3 ⟨rfl, hb7⟩
          have HV3 : Hid (Below w.heap.size w v3) := HV2.out.trans (hb7.mono HV2.out.size)
          have HD3 := Lib.hid (HD2.out.below hb7 (Nat.le_refl _))
          have hla2 := lasts_any g s2 _ v3 HD3.out
          rw [HLA.out] at hla2
          have HLS := Lib.hid hla2
          clear hb7 hla2 HRM2
          go_wp2_with fail
          refine HLS.out.mono ?_
          rintro e v4 ⟨rfl, rfl⟩
          go_wp2_with fail
          go_roundw
          case rel => exact ⟨k + 1, s2, by omega, by go_num, rfl, HP2.out, HD3.out, HV3.out⟩
          case measure => simp [intOf]; omega
        · have ha : s.append x = (7, s) := append_full hd (by omega)
          have HRM := Lib.hid hrm
          have HA := Lib.hid ha
          have HOK0 := Lib.hid ok
          have HP2 : Hid (s.left = -1 ∧ s.down = false ∧ s.lasts = ByteArray.empty ∧ s.cap = c ∧ DOk (k + 1) s) := ⟨hl, hd, hla, hcp, ok.mono (by omega)⟩
          obtain ⟨q, hq⟩ : ∃ q : Nat, s.all.length = q := ⟨_, rfl⟩
          rw [hq] at HRM hal hfit
          have d1 : decide (c - (q : Int) < (x.size : Int)) = true := by simp; omega
          clear hrm ha ok hla hd hcp hq hl hbs
          go_wp2_with fail
          refine HRM.out.mono ?_
          rintro e w3 ⟨rfl, hb3⟩
          have h3 := HR.out.1.below hb3 (Nat.le_refl _)
          have hap := append_any g k s _ w3 x h3 HOK0.out (by omega) hxs
          rw [HA.out] at hap
          have HAP := Lib.hid hap
          have HB3 : Hid (Below w.heap.size w w3) := HR.out.2.trans (hb3.mono hzr)
          have hz3 := HB3.out.size
          clear hb3 h3 hap
          go_wp2_with fail
          refine HAP.out.mono ?_
          rintro e w4 ⟨rfl, h4, c4⟩
          have HB4 : Hid (Below w.heap.size w w4) := HB3.out.trans (c4.below hz3 (fun i hi a => by omega))
          have HD4 : Hid (DiskAt w4 (fun k => w.heap.size ≤ k) g s) := h4.mono fun k _ a => by
            rcases a with ⟨a, _⟩ | a
            · exact a
            · exact Nat.le_trans hz3 a
          clear h4 c4 HAP HRM HA HOK0
          obtain ⟨pl, pd, pla, pcp, pok⟩ := HP2.out
          have pal := pok.all
          have ppc := pok.pieces
          rw [pcp] at pal
          have hrd : Calls Try.prog 27 #[.pointer (some ⟨g, 0, none⟩)] w4 fun e w' => e = .returned (.tuple #[.string s.bytes, .int .i64 0]) ∧ Below w4.heap.size w4 w' := read_up g s _ w4 HD4.out pd (by omega) (by omega)
          have HRD := Lib.hid hrd
          obtain ⟨p, hp⟩ : ∃ p : Nat, s.all.length = p := ⟨_, rfl⟩
          have HPP := Lib.hid hp
          have hp1 : (p : Int) ≤ c := by omega
          have hp2 : p ≤ 100000000 := by omega
          have hpn : s.pieces.length ≤ 1000000 := by omega
          have HLA : Hid (s.lasts.size = 0) := by show s.lasts.size = 0; rw [pla]; rfl
          have HCP := Lib.hid pcp
          have HOK := Lib.hid pok
          have e1 : IntKind.i64.wrap ((p : Int) + (c - (p : Int))) = c := by rw [IntWalk.i64_in _ (by omega)]; omega
          clear hrd hp pl pd pla pcp pok pal ppc
          go_wp2_with fail
          refine HRD.out.mono ?_
          rintro e v1 ⟨rfl, hb5⟩
          have HV1 : Hid (Below w.heap.size w v1) := HB4.out.trans (hb5.mono HB4.out.size)
          have HD1 := Lib.hid (HD4.out.below hb5 (Nat.le_refl _))
          have hln := len_any g s _ v1 HD1.out (by rw [HPP.out]; exact hp2) hpn
          rw [HPP.out] at hln
          have HLN := Lib.hid hln
          clear hb5 hln HRD
          go_wp2_with fail
          refine HLN.out.mono ?_
          rintro e v2 ⟨rfl, hb6⟩
          have HV2 : Hid (Below w.heap.size w v2) := HV1.out.trans (hb6.mono HV1.out.size)
          have HD2 := Lib.hid (HD1.out.below hb6 (Nat.le_refl _))
          have hrm2 := room_any g s _ v2 HD2.out (by rw [HPP.out]; exact hp2) hpn HOK.out.c0 HOK.out.c1
          rw [HPP.out, HCP.out] at hrm2
          have HRM2 := Lib.hid hrm2
          clear hb6 hrm2 HLN
          go_wp2_with fail
          refine HRM2.out.mono ?_
          rintro e v3 ⟨rfl, hb7⟩
          have HV3 : Hid (Below w.heap.size w v3) := HV2.out.trans (hb7.mono HV2.out.size)
          have HD3 := Lib.hid (HD2.out.below hb7 (Nat.le_refl _))
          have hla2 := lasts_any g s _ v3 HD3.out
          rw [HLA.out] at hla2
          have HLS := Lib.hid hla2
          clear hb7 hla2 HRM2
          go_wp2_with fail
          refine HLS.out.mono ?_
          rintro e v4 ⟨rfl, rfl⟩
          go_wp2_with fail
          go_roundw
          case rel => exact ⟨k + 1, s, by omega, by go_num, rfl, HP2.out, HD3.out, HV3.out⟩
          case measure => simp [intOf]; omega
    · go_wp2_with fail
      go_ret
      exact ⟨rfl, HR.out.2⟩

theorem under_u16 : Try.prog.underlying 36 = some (.int .u16) := by kernel_rfl
set_option maxRecDepth 100000 in
theorem diskRoom_lawful : Lawful 7 Try.f7 := by
  intro H enc W base args ds p hval hA hlt hsz
  rw [Try.params7] at hA hval hsz
  obtain ⟨v0, v1, d0, d1, p0, p1, rfl, rfl, rfl, h0, h1⟩ := trodAll_two hA
  obtain ⟨c, rfl, rfl, rfl, hw⟩ := open_int under_u16 (hval 0 36 v0 rfl rfl) h0
  have hcb : 0 ≤ c ∧ c ≤ 65535 := by simpa [Lit.wf, IntKind.min, IntKind.max, IntKind.signed, IntKind.bits] using hw
  obtain ⟨l, b, off, ao, n, cap, rfl, hm, hl, hx, hao, hb, hc⟩ := strsArg 1 hval hsz hlt h1 rfl rfl rfl (fun x hx => by simp [hx])
  by_cases hlet : 60 < n
  · exact diskRoom_many c ao n cap W hlet hm
  · exact diskRoom_law c hcb.1 hcb.2 ao b off n cap l W hl (by omega) hao hb hx (fun i x hi => by
      have hil : i < n := by rw [← hl]; exact (List.getElem?_eq_some_iff.1 hi).1
      have := hc i hil
      rw [List.getD_eq_getElem?_getD, hi] at this
      exact this)

theorem diskRoom_holds : Rows.DiskRoomSaid :=
  OpenClaim.holds_of_wide 7 Try.f7 rfl rfl rfl rfl rfl rfl rfl ⟨rfl, rfl, rfl, rfl, rfl⟩ rfl rfl rfl rfl rfl (by kernel_rfl) Try.func7 (by kernel_rfl)
    (of_decide_eq_true (by kernel_rfl)) (by unfold Func.isWrapper; rw [if_neg (of_decide_eq_false (by kernel_rfl))]; exact ⟨rfl, rfl⟩)
    (fun os started H enc _ => law_lift (s := Rows.diskRoomSpec) Try.func7 (by kernel_rfl) rfl rfl rfl (by rw [Try.params7]; intro t ht; simp at ht; rcases ht with rfl | rfl <;> exact ⟨by kernel_rfl, of_decide_eq_true (by kernel_rfl)⟩)
      (by rw [Try.params7]; intro H ds hds; match ds, hds with | [d1, d2], _ => exact ⟨rfl, rfl, rfl⟩) diskRoom_lawful os started H enc
      (ChangeSpec.witness6 (enc := enc) (C := Try.checked) false ⟨#[], #[.int .u16 0, .slice none 0 0], []⟩ 8 (by kernel_rfl) (by kernel_rfl) (by kernel_rfl) (by kernel_rfl)))
end Go.Proofs.Ytpnmhpkpkejdiaa
