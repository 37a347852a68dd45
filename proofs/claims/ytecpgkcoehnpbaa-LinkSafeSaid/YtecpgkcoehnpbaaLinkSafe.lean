/- Whatever is sent, and whatever becomes of packets: what is taken out of a channel is, in order, the beginning of what was sent: the law LinkSafe answers true at every input. No condition. -/
import Derived.Test.YtecpgkcoehnpbaaLinkX
import Derived.Test.YtecpgkcoehnpbaaLinkH
namespace Go.Proofs.Ytecpgkcoehnpbaa
open Go.ChangeShapes Go.WideShapes Go.ChangeAt Go.RowKit

set_option maxRecDepth 100000 in
set_option maxHeartbeats 1600000 in
theorem linkSafe_let (c m : Int) (so : Option Addr) (sb soff n scap : Nat) (os : List LOp) (w : World) (hn : n ≤ maxLen) (hl : os.length = n) (hao : 0 < n → so = some ⟨sb, soff, none⟩) (hb : 0 < n → sb < w.heap.size) (hok : ∀ o ∈ os, LOpOk o)
    (hc : ∀ i o, os[i]? = some o → ∀ j u, (lopCells o)[j]? = some u → w.cell? ⟨sb, soff + i * 10 + j, none⟩ = some u) (hbig : Big17 os) :
    Calls Try.prog 8 #[.int .i64 c, .int .i64 m, .slice so n scap] w fun e w' => e = .returned (.bool true) ∧ Below w.heap.size w w' := by
  have HGR : ∀ w' : World, Below w.heap.size w w' → Calls Try.prog 35 #[.slice so n scap] w' fun e w'' => e = .returned (.bool true) ∧ Below w'.heap.size w' w'' := fun w' hb' =>
    great17_any so sb soff n scap os w' hn hl hao (fun h => Nat.lt_of_lt_of_le (hb h) hb'.size) hok (fun i o ho j u hj => (hb'.cell (by exact hb (by have := (List.getElem?_eq_some_iff.1 ho).1; omega))).trans (hc i o ho j u hj)) true (by simp [hbig])
  have HGRT := Lib.hid HGR
  clear hao hb hl hc hok hbig HGR hn
  go_enter Try.func8, Try.ntmps8
  go_wp2_with fail
  refine (linkAwake w).mono ?_
  rintro e w0 ⟨rfl, hb0⟩
  have HB0 := Lib.hid hb0
  clear hb0
  go_wp2_with fail
  refine (HGRT.out w0 HB0.out).mono ?_
  rintro e w1 ⟨rfl, hb1⟩
  have HB1 : Hid (Below w.heap.size w w1) := HB0.out.trans (hb1.mono HB0.out.size)
  clear hb1 HB0 HGRT
  go_wp2_with fail
  go_ret
  exact ⟨rfl, HB1.out⟩

set_option maxRecDepth 100000 in
set_option maxHeartbeats 3200000 in
theorem linkSafe_law (c m : Int) (so : Option Addr) (sb soff n scap : Nat) (os : List LOp) (w : World) (hn : n ≤ maxLen) (hl : os.length = n) (hao : 0 < n → so = some ⟨sb, soff, none⟩) (hb : 0 < n → sb < w.heap.size) (hok : ∀ o ∈ os, LOpOk o)
    (hc : ∀ i o, os[i]? = some o → ∀ j u, (lopCells o)[j]? = some u → w.cell? ⟨sb, soff + i * 10 + j, none⟩ = some u) (hbig : ¬ Big17 os) :
    Calls Try.prog 8 #[.int .i64 c, .int .i64 m, .slice so n scap] w fun e w' => e = .returned (.bool true) ∧ Below w.heap.size w w' := by
  have HGR : ∀ w' : World, Below w.heap.size w w' → Calls Try.prog 35 #[.slice so n scap] w' fun e w'' => e = .returned (.bool false) ∧ Below w'.heap.size w' w'' := fun w' hb' =>
    great17_any so sb soff n scap os w' hn hl hao (fun h => Nat.lt_of_lt_of_le (hb h) hb'.size) hok (fun i o ho j u hj => (hb'.cell (by exact hb (by have := (List.getElem?_eq_some_iff.1 ho).1; omega))).trans (hc i o ho j u hj)) false (by simp [hbig])
  have hn200 : n ≤ 200 := by
    have h : ¬ 200 < os.length := fun h => hbig (.inl h)
    omega
  have HGRT := Lib.hid HGR
  have HAO := Lib.hid hao
  have HB := Lib.hid hb
  have HL := Lib.hid hl
  have HC := Lib.hid hc
  clear hao hb hl hc hok hbig HGR hn
  go_enter Try.func8, Try.ntmps8
  go_wp2_with fail
  refine (linkAwake w).mono ?_
  rintro e w0 ⟨rfl, hb0⟩
  have HB0 := Lib.hid hb0
  clear hb0
  go_wp2_with fail
  refine (HGRT.out w0 HB0.out).mono ?_
  rintro e w1 ⟨rfl, hb1⟩
  have z1 : w.heap.size ≤ w1.heap.size := Nat.le_trans HB0.out.size hb1.size
  have HB1 : Hid (Below w.heap.size w w1) := HB0.out.trans (hb1.mono HB0.out.size)
  clear hb1 HB0 HGRT
  go_wp2_with fail
  refine (made_any c m w1).mono ?_
  rintro e w2 ⟨P, go, gi, gw, rfl, hp2, hb2⟩
  have HR0 : Hid (PairAt w2 (fun k => w.heap.size ≤ k) P go gi gw (pst0 c m) ∧ Below w.heap.size w w2) := ⟨hp2.mono (fun k _ hk => Nat.le_trans z1 hk), HB1.out.trans (hb2.mono z1)⟩
  clear hp2 hb2 HB1
  go_wp2_with fail
  go_loopw [19] (fun i wr => ∃ (j : Nat) (s : PSt), j ≤ n ∧ i = .int .i64 j ∧ Hid (Inv j s ∧ s.o.ch = c ∧ s.o.inc = m) ∧ Hid (PairAt wr (fun k => w.heap.size ≤ k) P go gi gw s ∧ Below w.heap.size w wr)) (fun i _ => n - (intOf i).toNat)
  case atStart => exact ⟨0, pst0 c m, by omega, rfl, ⟨inv0 c m, rfl, rfl⟩, HR0.out⟩
  case round =>
    obtain ⟨j, s, hj, rfl, HI, HR⟩ := hrel
    clear HR0
    by_cases hlt : j < n
    · obtain rfl := HAO.out (by omega)
      obtain ⟨⟨ok, oa, ob, ox, op⟩, ho⟩ : ∃ o, os[j]? = some o := ⟨_, List.getElem?_eq_getElem (by rw [HL.out]; exact hlt)⟩
      have hc : ∀ k u, (lopCells ⟨ok, oa, ob, ox, op⟩)[k]? = some u → wr.cell? ⟨sb, soff + j * 10 + k, none⟩ = some u := fun k u hk => (HR.out.2.cell (by exact HB.out (by omega))).trans (HC.out j _ ho k u hk)
      have q0 : wr.cell? ⟨sb, soff + j * 10, none⟩ = some (.int .i64 ok) := hc 0 _ rfl
      have q1 : wr.cell? ⟨sb, soff + j * 10 + 1, none⟩ = some (.int .i64 oa) := hc 1 _ rfl
      have q2 : wr.cell? ⟨sb, soff + j * 10 + 2, none⟩ = some (.int .i64 ob) := hc 2 _ rfl
      have q3 : wr.cell? ⟨sb, soff + j * 10 + 3, none⟩ = some (.string ox) := hc 3 _ rfl
      have q4 : wr.cell? ⟨sb, soff + j * 10 + 4, none⟩ = some (.int .i64 op.ch) := hc 4 _ rfl
      have q5 : wr.cell? ⟨sb, soff + j * 10 + 5, none⟩ = some (.int .i64 op.back) := hc 5 _ rfl
      have q6 : wr.cell? ⟨sb, soff + j * 10 + 6, none⟩ = some (.int .i64 op.inc) := hc 6 _ rfl
      have q7 : wr.cell? ⟨sb, soff + j * 10 + 7, none⟩ = some (.int .i64 op.seq) := hc 7 _ rfl
      have q8 : wr.cell? ⟨sb, soff + j * 10 + 8, none⟩ = some (.int .i64 op.ack) := hc 8 _ rfl
      have q9 : wr.cell? ⟨sb, soff + j * 10 + 9, none⟩ = some (.string op.load) := hc 9 _ rfl
      have hz := HR.out.2.size
      clear hc ho
      obtain ⟨wb, hwb⟩ : ∃ wb, wr.alloc (.cells #[.int .i64 ok, .int .i64 oa, .int .i64 ob, .string ox, .int .i64 op.ch, .int .i64 op.back, .int .i64 op.inc, .int .i64 op.seq, .int .i64 op.ack, .string op.load] 66) = wb := ⟨_, rfl⟩
      have hbx : wb.heap[wr.heap.size]? = some (.cells #[.int .i64 ok, .int .i64 oa, .int .i64 ob, .string ox, .int .i64 op.ch, .int .i64 op.back, .int .i64 op.inc, .int .i64 op.seq, .int .i64 op.ack, .string op.load] 66) := by rw [← hwb]; exact heap_alloc_new wr _
      have HPB : Hid (PairAt wb (fun k => w.heap.size ≤ k ∧ k < wr.heap.size) P go gi gw s) := by rw [← hwb]; exact HR.out.1.tight.below ((Below.refl wr.heap.size wr).alloc (Nat.le_refl _) _) (Nat.le_refl _)
      have HBW : Hid (Below w.heap.size w wb) := by rw [← hwb]; exact HR.out.2.alloc hz _
      have HOP := Lib.hid (op_any wb _ P go gi gw j s c m ⟨ok, oa, ob, ox, op⟩ HPB.out HI.out.1 (by omega) HI.out.2.1 HI.out.2.2)
      have HI2 : Hid (Inv (j + 1) (s.op ⟨ok, oa, ob, ox, op⟩) ∧ (s.op ⟨ok, oa, ob, ox, op⟩).o.ch = c ∧ (s.op ⟨ok, oa, ob, ox, op⟩).o.inc = m) := ⟨HI.out.1.op _, (op_o s _).1.trans HI.out.2.1, (op_o s _).2.trans HI.out.2.2⟩
      generalize s.op ⟨ok, oa, ob, ox, op⟩ = s' at *
      have k0 : wb.cell? ⟨wr.heap.size, 0, none⟩ = some (.int .i64 ok) := cell_at hbx rfl
      have k1 : wb.cell? ⟨wr.heap.size, 1, none⟩ = some (.int .i64 oa) := cell_at hbx rfl
      have k2 : wb.cell? ⟨wr.heap.size, 2, none⟩ = some (.int .i64 ob) := cell_at hbx rfl
      have k3 : wb.cell? ⟨wr.heap.size, 3, none⟩ = some (.string ox) := cell_at hbx rfl
      have k4 : wb.cell? ⟨wr.heap.size, 4, none⟩ = some (.int .i64 op.ch) := cell_at hbx rfl
      have k5 : wb.cell? ⟨wr.heap.size, 5, none⟩ = some (.int .i64 op.back) := cell_at hbx rfl
      have k6 : wb.cell? ⟨wr.heap.size, 6, none⟩ = some (.int .i64 op.inc) := cell_at hbx rfl
      have k7 : wb.cell? ⟨wr.heap.size, 7, none⟩ = some (.int .i64 op.seq) := cell_at hbx rfl
      have k8 : wb.cell? ⟨wr.heap.size, 8, none⟩ = some (.int .i64 op.ack) := cell_at hbx rfl
      have k9 : wb.cell? ⟨wr.heap.size, 9, none⟩ = some (.string op.load) := cell_at hbx rfl
      have hzb := HBW.out.size
      clear hbx HR
      go_wp2_with fail
      try rw [hwb]
      refine HOP.out.mono ?_
      rintro e w3 ⟨rfl, h3, c3⟩
      have HP3 : Hid (PairAt w3 (fun k => w.heap.size ≤ k) P go gi gw s') := h3.mono fun k _ hk => by
        rcases hk with ⟨a, _⟩ | a
        · exact a.1
        · exact Nat.le_trans hzb a
      have HB3 : Hid (Below w.heap.size w w3) := HBW.out.trans (c3.below hzb (fun i hi a => by omega))
      have HFN := Lib.hid (fine_any w3 _ P go gi gw (j + 1) s' HP3.out HI2.out.1 (by omega))
      clear hwb h3 c3 HOP k0 k1 k2 k3 k4 k5 k6 k7 k8 k9 q0 q1 q2 q3 q4 q5 q6 q7 q8 q9 HPB HBW
      go_wp2_with fail
      refine HFN.out.mono ?_
      rintro e w4 ⟨rfl, hb4⟩
      have HR4 : Hid (PairAt w4 (fun k => w.heap.size ≤ k) P go gi gw s' ∧ Below w.heap.size w w4) := ⟨HP3.out.below hb4 (Nat.le_refl _), HB3.out.trans (hb4.mono HB3.out.size)⟩
      clear hb4 HP3 HB3 HFN
      go_wp2_with fail
      go_roundw
      case rel => exact ⟨j + 1, s', by omega, by go_num, HI2.out, HR4.out⟩
      case measure => simp [intOf]; omega
    · go_wp2_with fail
      go_ret
      exact ⟨rfl, HR.out.2⟩

set_option maxRecDepth 100000 in
theorem linkSafe_lawful : Lawful 8 Try.f8 := by
  intro H enc W base args ds p hval hA hlt hsz
  rw [Try.params8] at hA hval hsz
  obtain ⟨v0, v1, v2, d0, d1, d2, p0, p1, p2, rfl, rfl, rfl, h0, h1, h2⟩ := trodAll_three hA
  obtain ⟨c, rfl, rfl, rfl, _⟩ := open_int under_int (hval 0 3 v0 rfl rfl) h0
  obtain ⟨m, rfl, rfl, rfl, _⟩ := open_int under_int (hval 1 3 v1 rfl rfl) h1
  obtain ⟨os, b, off, ao, n, cap, rfl, _, hn, hl, hok, hao, hb, hc⟩ := sliceArg lopCells LOpOk 10 (by omega) under_lops cells_lop rdLOp (hval 2 61 v2 rfl rfl) h2 (weights_in (j := 2) hsz rfl rfl) hlt (fun x hx => by simp [hx])
  by_cases hlet : Big17 os
  · exact linkSafe_let c m ao b off n cap os W hn hl hao hb hok hc hlet
  · exact linkSafe_law c m ao b off n cap os W hn hl hao hb hok hc hlet

theorem linkSafe_holds : Rows.LinkSafeSaid :=
  OpenClaim.holds_of_wide 8 Try.f8 rfl rfl rfl rfl rfl rfl rfl ⟨rfl, rfl, rfl, rfl, rfl⟩ rfl rfl rfl rfl rfl (by kernel_rfl) Try.func8 (by kernel_rfl)
    (of_decide_eq_true (by kernel_rfl)) (by unfold Func.isWrapper; rw [if_neg (of_decide_eq_false (by kernel_rfl))]; exact ⟨rfl, rfl⟩)
    (fun os started H enc _ => law_lift (s := Rows.linkSafeSpec) Try.func8 (by kernel_rfl) rfl rfl rfl (by rw [Try.params8]; intro t ht; simp at ht; rcases ht with rfl | rfl | rfl <;> exact ⟨by kernel_rfl, of_decide_eq_true (by kernel_rfl)⟩)
      (by rw [Try.params8]; intro H ds hds; match ds, hds with | [d1, d2, d3], _ => exact ⟨rfl, rfl, rfl⟩) linkSafe_lawful os started H enc
      (ChangeSpec.witness6 (enc := enc) (C := Try.checked) false ⟨#[], #[.int .i64 0, .int .i64 0, .slice none 0 0], []⟩ 8 (by kernel_rfl) (by kernel_rfl) (by kernel_rfl) (by kernel_rfl)))
end Go.Proofs.Ytecpgkcoehnpbaa
