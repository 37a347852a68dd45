/- Packets of an elder incarnation, mixed in as one likes, change nothing: the law LinkStale answers true at every input. No condition. -/
import Derived.Test.YtecpgkcoehnpbaaLinkY
import Derived.Test.YtecpgkcoehnpbaaLinkH
namespace Go.Proofs.Ytecpgkcoehnpbaa
open Go.ChangeShapes Go.WideShapes Go.ChangeAt Go.RowKit

theorem PairAt.ptr {w : World} {F : Nat → Prop} {P go gi gw : Nat} {s : PSt} (h : PairAt w F P go gi gw s) : ∃ a1 c1 a2 c2, w.cell? ⟨P, 0, none⟩ = some (.pointer (some ⟨go, 0, none⟩)) ∧ w.cell? ⟨P, 1, none⟩ = some (.pointer (some ⟨gi, 0, none⟩)) ∧
    w.cell? ⟨P, 3, none⟩ = some (.slice a1 s.sent.length c1) ∧ w.cell? ⟨P, 4, none⟩ = some (.slice a2 s.got.length c2) ∧ w.heap[P]? = some (pairObj go gi gw (.slice a1 s.sent.length c1) (.slice a2 s.got.length c2)) := by
  obtain ⟨a1, c1, a2, c2, h⟩ := h.row
  exact ⟨a1, c1, a2, c2, cell_at h rfl, cell_at h rfl, cell_at h rfl, cell_at h rfl, h⟩

set_option maxRecDepth 100000 in
set_option maxHeartbeats 1600000 in
theorem linkStale_big (so : Option Addr) (sb soff n scap : Nat) (os : List LOp) (to : Option Addr) (tb toff tn tcap : Nat) (ps : List Pk) (w : World) (hn : n ≤ maxLen) (hl : os.length = n) (hao : 0 < n → so = some ⟨sb, soff, none⟩) (hb : 0 < n → sb < w.heap.size) (hok : ∀ o ∈ os, LOpOk o)
    (hc : ∀ i o, os[i]? = some o → ∀ j u, (lopCells o)[j]? = some u → w.cell? ⟨sb, soff + i * 10 + j, none⟩ = some u) (hbig : Big17 os) :
    Calls Try.prog 9 #[.slice so n scap, .slice to tn tcap] w fun e w' => e = .returned (.bool true) ∧ Below w.heap.size w w' := by
  have HGR : ∀ w' : World, Below w.heap.size w w' → Calls Try.prog 35 #[.slice so n scap] w' fun e w'' => e = .returned (.bool true) ∧ Below w'.heap.size w' w'' := fun w' hb' =>
    great17_any so sb soff n scap os w' hn hl hao (fun h => Nat.lt_of_lt_of_le (hb h) hb'.size) hok (fun i o ho j u hj => (hb'.cell (by exact hb (by have := (List.getElem?_eq_some_iff.1 ho).1; omega))).trans (hc i o ho j u hj)) true (by simp [hbig])
  have HGRT := Lib.hid HGR
  clear hao hb hl hc hok hbig HGR hn
  go_enter Try.func9, Try.ntmps9
  go_wp2_with fail
  refine (linkAwake w).mono ?_
  rintro e w0 ⟨rfl, hb0⟩
  have HB0 := Lib.hid hb0
  clear hb0
  go_wp2_with fail
  refine (HGRT.out w0 HB0.out).mono ?_
  rintro e w1 ⟨rfl, hb1⟩
  have z1 : w.heap.size ≤ w1.heap.size := Nat.le_trans HB0.out.size hb1.size
  have HB1 : Hid (Below w.heap.size w w1) := HB0.out.trans (hb1.mono HB0.out.size)
  clear hb1 HB0 HGRT
  go_wp2_with fail
  go_ret
  exact ⟨rfl, HB1.out⟩
set_option maxRecDepth 100000 in
set_option maxHeartbeats 1600000 in
theorem linkStale_many (so : Option Addr) (sb soff n scap : Nat) (os : List LOp) (to : Option Addr) (tb toff tn tcap : Nat) (ps : List Pk) (w : World) (hn : n ≤ maxLen) (hl : os.length = n) (hao : 0 < n → so = some ⟨sb, soff, none⟩) (hb : 0 < n → sb < w.heap.size) (hok : ∀ o ∈ os, LOpOk o)
    (hc : ∀ i o, os[i]? = some o → ∀ j u, (lopCells o)[j]? = some u → w.cell? ⟨sb, soff + i * 10 + j, none⟩ = some u) (hbig : ¬ Big17 os) (ht : 60 < tn) (htn : tn ≤ maxLen) :
    Calls Try.prog 9 #[.slice so n scap, .slice to tn tcap] w fun e w' => e = .returned (.bool true) ∧ Below w.heap.size w w' := by
  have HGR : ∀ w' : World, Below w.heap.size w w' → Calls Try.prog 35 #[.slice so n scap] w' fun e w'' => e = .returned (.bool false) ∧ Below w'.heap.size w' w'' := fun w' hb' =>
    great17_any so sb soff n scap os w' hn hl hao (fun h => Nat.lt_of_lt_of_le (hb h) hb'.size) hok (fun i o ho j u hj => (hb'.cell (by exact hb (by have := (List.getElem?_eq_some_iff.1 ho).1; omega))).trans (hc i o ho j u hj)) false (by simp [hbig])
  have HGRT := Lib.hid HGR
  unfold maxLen at htn
  clear hao hb hl hc hok hbig HGR hn
  go_enter Try.func9, Try.ntmps9
  go_wp2_with fail
  refine (linkAwake w).mono ?_
  rintro e w0 ⟨rfl, hb0⟩
  have HB0 := Lib.hid hb0
  clear hb0
  go_wp2_with fail
  refine (HGRT.out w0 HB0.out).mono ?_
  rintro e w1 ⟨rfl, hb1⟩
  have z1 : w.heap.size ≤ w1.heap.size := Nat.le_trans HB0.out.size hb1.size
  have HB1 : Hid (Below w.heap.size w w1) := HB0.out.trans (hb1.mono HB0.out.size)
  clear hb1 HB0 HGRT
  go_wp2_with fail
  go_ret
  exact ⟨rfl, HB1.out⟩

set_option maxRecDepth 100000 in
set_option maxHeartbeats 6400000 in
theorem linkStale_law (so : Option Addr) (sb soff n scap : Nat) (os : List LOp) (to : Option Addr) (tb toff tn tcap : Nat) (ps : List Pk) (w : World) (hn : n ≤ maxLen) (hl : os.length = n) (hao : 0 < n → so = some ⟨sb, soff, none⟩) (hb : 0 < n → sb < w.heap.size) (hok : ∀ o ∈ os, LOpOk o)
    (hc : ∀ i o, os[i]? = some o → ∀ j u, (lopCells o)[j]? = some u → w.cell? ⟨sb, soff + i * 10 + j, none⟩ = some u) (hbig : ¬ Big17 os) (ht : tn ≤ 60) (htl : ps.length = tn) (hto : 0 < tn → to = some ⟨tb, toff, none⟩) (htb : 0 < tn → tb < w.heap.size)
    (htc : ∀ i p, ps[i]? = some p → ∀ j u, (pkCells p)[j]? = some u → w.cell? ⟨tb, toff + i * 6 + j, none⟩ = some u) :
    Calls Try.prog 9 #[.slice so n scap, .slice to tn tcap] w fun e w' => e = .returned (.bool true) ∧ Below w.heap.size w w' := by
  have HGR : ∀ w' : World, Below w.heap.size w w' → Calls Try.prog 35 #[.slice so n scap] w' fun e w'' => e = .returned (.bool false) ∧ Below w'.heap.size w' w'' := fun w' hb' =>
    great17_any so sb soff n scap os w' hn hl hao (fun h => Nat.lt_of_lt_of_le (hb h) hb'.size) hok (fun i o ho j u hj => (hb'.cell (by exact hb (by have := (List.getElem?_eq_some_iff.1 ho).1; omega))).trans (hc i o ho j u hj)) false (by simp [hbig])
  have hn200 : n ≤ 200 := by
    have h : ¬ 200 < os.length := fun h => hbig (.inl h)
    omega
  have HGRT := Lib.hid HGR
  have HAO := Lib.hid hao
  have HB := Lib.hid hb
  have HL := Lib.hid hl
  have HC := Lib.hid hc
  have HTO := Lib.hid hto
  have HTB := Lib.hid htb
  have HTL := Lib.hid htl
  have HTC := Lib.hid htc
  have mixed : Try.prog.follows .mixedOrders = true := by kernel_rfl
  clear hao hb hl hc hok hbig HGR hn hto htb htl htc
  go_enter Try.func9, Try.ntmps9
  go_wp2_with fail
  refine (linkAwake w).mono ?_
  rintro e w0 ⟨rfl, hb0⟩
  have HB0 := Lib.hid hb0
  clear hb0
  go_wp2_with fail
  refine (HGRT.out w0 HB0.out).mono ?_
  rintro e w1 ⟨rfl, hb1⟩
  have z1 : w.heap.size ≤ w1.heap.size := Nat.le_trans HB0.out.size hb1.size
  have HB1 : Hid (Below w.heap.size w w1) := HB0.out.trans (hb1.mono HB0.out.size)
  clear hb1 HB0 HGRT
  go_wp2_with fail
  refine (made_any 2 7 w1).mono ?_
  rintro e w2 ⟨P1, go1, gi1, gw1, rfl, hp2, hb2⟩
  have z2 := hb2.size
  have HP2 := Lib.hid hp2.tight
  have HB2 : Hid (Below w.heap.size w w2) := HB1.out.trans (hb2.mono z1)
  clear hp2 hb2 HB1
  go_wp2_with fail
  refine (made_any 2 7 w2).mono ?_
  rintro e w3 ⟨P2, go2, gi2, gw2, rfl, hp3, hb3⟩
  obtain ⟨PA, hPA⟩ : ∃ PA : PNum, PA = ⟨P1, go1, gi1, gw1⟩ := ⟨_, rfl⟩
  obtain ⟨PB, hPB⟩ : ∃ PB : PNum, PB = ⟨P2, go2, gi2, gw2⟩ := ⟨_, rfl⟩
  have HR0 : Hid (Both (fun k => w.heap.size ≤ k) w3 PA PB (pst0 2 7) (pst0 2 7) ∧ Below w.heap.size w w3) := by
    rw [hPA, hPB]
    exact ⟨⟨_, _, HP2.out.below hb3 (Nat.le_refl _), hp3, fun k hk => ⟨Nat.le_trans z1 hk.1, fun x => absurd hk.2 (by omega)⟩, fun k hk => Nat.le_trans z1 (Nat.le_trans z2 hk)⟩, HB2.out.trans (hb3.mono (Nat.le_trans z1 z2))⟩
  obtain rfl : P1 = PA.P := by rw [hPA]
  obtain rfl : P2 = PB.P := by rw [hPB]
  clear hp3 hb3 HB2 HP2 hPA hPB go1 gi1 gw1 go2 gi2 gw2
  go_wp2_with fail
  go_loopw [23] (fun i wr => ∃ (j : Nat) (s : PSt), j ≤ n ∧ i = .int .i64 j ∧ Hid (Inv j s ∧ s.o.ch = 2 ∧ s.o.inc = 7) ∧ Hid (Both (fun k => w.heap.size ≤ k) wr PA PB s s ∧ Below w.heap.size w wr)) (fun i _ => n - (intOf i).toNat)
  case atStart => exact ⟨0, pst0 2 7, by omega, rfl, ⟨inv0 2 7, rfl, rfl⟩, HR0.out⟩
  case round =>
    obtain ⟨j, s, hj, rfl, HI, HR⟩ := hrel
    clear HR0
    by_cases hlt : j < n
    · obtain rfl := HAO.out (by omega)
      obtain ⟨⟨ok, oa, ob, ox, op⟩, ho⟩ : ∃ o, os[j]? = some o := ⟨_, List.getElem?_eq_getElem (by rw [HL.out]; exact hlt)⟩
      have hc : ∀ k u, (lopCells ⟨ok, oa, ob, ox, op⟩)[k]? = some u → wr.cell? ⟨sb, soff + j * 10 + k, none⟩ = some u := fun k u hk => (HR.out.2.cell (by exact HB.out (by omega))).trans (HC.out j _ ho k u hk)
      have q0 : wr.cell? ⟨sb, soff + j * 10, none⟩ = some (.int .i64 ok) := hc 0 _ rfl
      have q1 : wr.cell? ⟨sb, soff + j * 10 + 1, none⟩ = some (.int .i64 oa) := hc 1 _ rfl
      have q2 : wr.cell? ⟨sb, soff + j * 10 + 2, none⟩ = some (.int .i64 ob) := hc 2 _ rfl
      have q3 : wr.cell? ⟨sb, soff + j * 10 + 3, none⟩ = some (.string ox) := hc 3 _ rfl
      have q4 : wr.cell? ⟨sb, soff + j * 10 + 4, none⟩ = some (.int .i64 op.ch) := hc 4 _ rfl
      have q5 : wr.cell? ⟨sb, soff + j * 10 + 5, none⟩ = some (.int .i64 op.back) := hc 5 _ rfl
      have q6 : wr.cell? ⟨sb, soff + j * 10 + 6, none⟩ = some (.int .i64 op.inc) := hc 6 _ rfl
      have q7 : wr.cell? ⟨sb, soff + j * 10 + 7, none⟩ = some (.int .i64 op.seq) := hc 7 _ rfl
      have q8 : wr.cell? ⟨sb, soff + j * 10 + 8, none⟩ = some (.int .i64 op.ack) := hc 8 _ rfl
      have q9 : wr.cell? ⟨sb, soff + j * 10 + 9, none⟩ = some (.string op.load) := hc 9 _ rfl
      have hz := HR.out.2.size
      clear hc ho
      obtain ⟨wb, hwb⟩ : ∃ wb, wr.alloc (.cells #[.int .i64 ok, .int .i64 oa, .int .i64 ob, .string ox, .int .i64 op.ch, .int .i64 op.back, .int .i64 op.inc, .int .i64 op.seq, .int .i64 op.ack, .string op.load] 66) = wb := ⟨_, rfl⟩
      have hbx : wb.heap[wr.heap.size]? = some (.cells #[.int .i64 ok, .int .i64 oa, .int .i64 ob, .string ox, .int .i64 op.ch, .int .i64 op.back, .int .i64 op.inc, .int .i64 op.seq, .int .i64 op.ack, .string op.load] 66) := by rw [← hwb]; exact heap_alloc_new wr _
      have HPB : Hid (Both (fun k => w.heap.size ≤ k ∧ k < wr.heap.size) wb PA PB s s) := by rw [← hwb]; exact (HR.out.1.tight (fun k a b => ⟨b, a⟩)).below ((Below.refl wr.heap.size wr).alloc (Nat.le_refl _) _) (Nat.le_refl _)
      have HBW : Hid (Below w.heap.size w wb) := by rw [← hwb]; exact HR.out.2.alloc hz _
      have k0 : wb.cell? ⟨wr.heap.size, 0, none⟩ = some (.int .i64 ok) := cell_at hbx rfl
      have k1 : wb.cell? ⟨wr.heap.size, 1, none⟩ = some (.int .i64 oa) := cell_at hbx rfl
      have k2 : wb.cell? ⟨wr.heap.size, 2, none⟩ = some (.int .i64 ob) := cell_at hbx rfl
      have k3 : wb.cell? ⟨wr.heap.size, 3, none⟩ = some (.string ox) := cell_at hbx rfl
      have k4 : wb.cell? ⟨wr.heap.size, 4, none⟩ = some (.int .i64 op.ch) := cell_at hbx rfl
      have k5 : wb.cell? ⟨wr.heap.size, 5, none⟩ = some (.int .i64 op.back) := cell_at hbx rfl
      have k6 : wb.cell? ⟨wr.heap.size, 6, none⟩ = some (.int .i64 op.inc) := cell_at hbx rfl
      have k7 : wb.cell? ⟨wr.heap.size, 7, none⟩ = some (.int .i64 op.seq) := cell_at hbx rfl
      have k8 : wb.cell? ⟨wr.heap.size, 8, none⟩ = some (.int .i64 op.ack) := cell_at hbx rfl
      have k9 : wb.cell? ⟨wr.heap.size, 9, none⟩ = some (.string op.load) := cell_at hbx rfl
      have hzb := HBW.out.size
      have hXb : wr.heap.size < wb.heap.size := heap_lt hbx
      have HBX := Lib.hid hbx
      clear hbx HR
      by_cases h7 : ok = 7
      · have e7 : (ok == 7) = true := by rw [beq_iff_eq]; exact h7
        have HI2 : Hid (Inv (j + 1) s ∧ s.o.ch = 2 ∧ s.o.inc = 7) := ⟨HI.out.1.mono (by omega), HI.out.2⟩
        have HR2 : Hid (Both (fun k => w.heap.size ≤ k) wb PA PB s s ∧ Below w.heap.size w wb) := ⟨HPB.out.tight (fun k _ hk => hk.1), HBW.out⟩
        clear h7
        go_wp2_with fail
        try rw [hwb]
        go_roundw
        case rel => exact ⟨j + 1, s, by omega, by go_num, HI2.out, HR2.out⟩
        case measure => simp [intOf]; omega
      · have e7 : (ok == 7) = false := by rw [beq_eq_false_iff_ne]; exact h7
        clear h7
        obtain ⟨Fa, hfa, turnA⟩ := HPB.out.a
        have HOP := Lib.hid (op_any wb _ PA.P PA.go PA.gi PA.gw j s 2 7 ⟨ok, oa, ob, ox, op⟩ hfa HI.out.1 (by omega) HI.out.2.1 HI.out.2.2)
        have HI2 : Hid (Inv (j + 1) (s.op ⟨ok, oa, ob, ox, op⟩) ∧ (s.op ⟨ok, oa, ob, ox, op⟩).o.ch = 2 ∧ (s.op ⟨ok, oa, ob, ox, op⟩).o.inc = 7) := ⟨HI.out.1.op _, (op_o s _).1.trans HI.out.2.1, (op_o s _).2.trans HI.out.2.2⟩
        obtain ⟨s', hs'⟩ : ∃ s', s.op ⟨ok, oa, ob, ox, op⟩ = s' := ⟨_, rfl⟩
        rw [hs'] at HOP HI2
        have HS' := Lib.hid hs'
        have HTA := Lib.hid turnA
        clear hfa turnA hs'
        go_wp2_with fail
        try rw [hwb]
        refine HOP.out.mono ?_
        rintro e w4 ⟨rfl, h4, c4⟩
        obtain ⟨b4, u4⟩ := HTA.out w4 s' h4 c4
        have x4 := u4.heap HBX.out (fun a => absurd a.2 (by omega))
        have HBX4 := Lib.hid x4
        have HB4 : Hid (Below w.heap.size w w4) := HBW.out.trans (u4.below hzb (fun i hi a => by omega))
        have hz4 := u4.size
        have hX4 : wr.heap.size < w4.heap.size := heap_lt x4
        obtain ⟨Fb, hfb, turnB⟩ := b4.b
        have HOP2 := Lib.hid (op_any w4 _ PB.P PB.go PB.gi PB.gw j s 2 7 ⟨ok, oa, ob, ox, op⟩ hfb HI.out.1 (by omega) HI.out.2.1 HI.out.2.2)
        rw [HS'.out] at HOP2
        have HTB2 := Lib.hid turnB
        clear hwb h4 c4 b4 u4 x4 hfb turnB HOP HTA HPB HBW HBX q0 q1 q2 q3 q4 q5 q6 q7 q8 q9 k0 k1 k2 k3 k4 k5 k6 k7 k8 k9
        have l0 : w4.cell? ⟨wr.heap.size, 0, none⟩ = some (.int .i64 ok) := cell_at HBX4.out rfl
        have l1 : w4.cell? ⟨wr.heap.size, 1, none⟩ = some (.int .i64 oa) := cell_at HBX4.out rfl
        have l2 : w4.cell? ⟨wr.heap.size, 2, none⟩ = some (.int .i64 ob) := cell_at HBX4.out rfl
        have l3 : w4.cell? ⟨wr.heap.size, 3, none⟩ = some (.string ox) := cell_at HBX4.out rfl
        have l4 : w4.cell? ⟨wr.heap.size, 4, none⟩ = some (.int .i64 op.ch) := cell_at HBX4.out rfl
        have l5 : w4.cell? ⟨wr.heap.size, 5, none⟩ = some (.int .i64 op.back) := cell_at HBX4.out rfl
        have l6 : w4.cell? ⟨wr.heap.size, 6, none⟩ = some (.int .i64 op.inc) := cell_at HBX4.out rfl
        have l7 : w4.cell? ⟨wr.heap.size, 7, none⟩ = some (.int .i64 op.seq) := cell_at HBX4.out rfl
        have l8 : w4.cell? ⟨wr.heap.size, 8, none⟩ = some (.int .i64 op.ack) := cell_at HBX4.out rfl
        have l9 : w4.cell? ⟨wr.heap.size, 9, none⟩ = some (.string op.load) := cell_at HBX4.out rfl
        go_wp2_with fail
        refine HOP2.out.mono ?_
        rintro e w5 ⟨rfl, h5, c5⟩
        obtain ⟨b5, u5⟩ := HTB2.out w5 s' h5 c5
        have HBoth : Hid (Both (fun k => w.heap.size ≤ k) w5 PA PB s' s') := b5.tight (fun k _ hk => by
          rcases hk with (⟨a, _⟩ | a) | a
          · exact a
          · exact Nat.le_trans hzb a
          · exact Nat.le_trans (Nat.le_trans hzb hz4) a)
        have HB5 : Hid (Below w.heap.size w w5) := HB4.out.trans (u5.below (by omega) (fun i hi a => by
          rcases a with ⟨a, _⟩ | a <;> omega))
        clear h5 c5 b5 u5 HOP2 HTB2 HB4 HS' HI HBX4 l0 l1 l2 l3 l4 l5 l6 l7 l8 l9
        have hz5 := HB5.out.size
        by_cases hjt : j < tn
        · obtain rfl := HTO.out (by omega)
          obtain ⟨p, hp⟩ : ∃ p, ps[j]? = some p := ⟨_, List.getElem?_eq_getElem (by rw [HTL.out]; exact hjt)⟩
          have hc : ∀ k u, (pkCells p)[k]? = some u → w5.cell? ⟨tb, toff + j * 6 + k, none⟩ = some u := fun k u hk => (HB5.out.cell (by exact HTB.out (by omega))).trans (HTC.out j _ hp k u hk)
          have q0 : w5.cell? ⟨tb, toff + j * 6, none⟩ = some (.int .i64 p.ch) := hc 0 _ rfl
          have q1 : w5.cell? ⟨tb, toff + j * 6 + 1, none⟩ = some (.int .i64 p.back) := hc 1 _ rfl
          have q2 : w5.cell? ⟨tb, toff + j * 6 + 2, none⟩ = some (.int .i64 p.inc) := hc 2 _ rfl
          have q3 : w5.cell? ⟨tb, toff + j * 6 + 3, none⟩ = some (.int .i64 p.seq) := hc 3 _ rfl
          have q4 : w5.cell? ⟨tb, toff + j * 6 + 4, none⟩ = some (.int .i64 p.ack) := hc 4 _ rfl
          have q5 : w5.cell? ⟨tb, toff + j * 6 + 5, none⟩ = some (.string p.load) := hc 5 _ rfl
          obtain ⟨q, hq⟩ : ∃ q : Int, (if (6 : Int) < p.inc then 6 else p.inc) = q := ⟨_, rfl⟩
          have hq7 : q ≤ 6 := by rw [← hq]; split <;> omega
          obtain ⟨X, hX⟩ : ∃ X, w5.heap.size = X := ⟨_, rfl⟩
          have hbx := heap_alloc_new w5 (.cells #[.int .i64 p.ch, .int .i64 p.back, .int .i64 q, .int .i64 p.seq, .int .i64 p.ack, .string p.load] 23)
          have HB6 : Hid (Below w.heap.size w (w5.alloc (.cells #[.int .i64 p.ch, .int .i64 p.back, .int .i64 q, .int .i64 p.seq, .int .i64 p.ack, .string p.load] 23))) := HB5.out.alloc hz5 _
          have HBo6 : Hid (Both (fun k => w.heap.size ≤ k) (w5.alloc (.cells #[.int .i64 p.ch, .int .i64 p.back, .int .i64 q, .int .i64 p.seq, .int .i64 p.ack, .string p.load] 23)) PA PB s' s') := HBoth.out.below ((Below.refl w5.heap.size w5).alloc (Nat.le_refl _) _) (Nat.le_refl _)
          obtain ⟨w6, hw6⟩ : ∃ w6, w5.alloc (.cells #[.int .i64 p.ch, .int .i64 p.back, .int .i64 q, .int .i64 p.seq, .int .i64 p.ack, .string p.load] 23) = w6 := ⟨_, rfl⟩
          rw [hw6] at hbx HB6 HBo6
          rw [hX] at hbx
          have HBX6 := Lib.hid hbx
          clear hc hp hbx
          go_wp2_with fail
          try rw [hw6]
          try rw [hX]
          clear hw6 hX
          obtain ⟨FB6, hB6⟩ := HBo6.out.snd
          obtain ⟨a3, c3, a4, c4, pb0, pb1, _, pb4, hrB⟩ := hB6.ptr
          have HRB := Lib.hid hrB
          have hno : ∀ bk : Int, ¬ (p.ch = s'.o.ch ∧ q = s'.o.inc ∧ p.back = bk) := fun bk y => by have := HI2.out.2.2; omega
          have hno0 : ¬ (p.ch = s'.i.ch ∧ q = s'.i.inc ∧ p.back = 0) := fun y => by have := HI2.out.2.2; have := HI2.out.1.inc; omega
          have HK := Lib.hid (pair_ack_no (w := w6.drew) (hB6.below (Below.refl w6.heap.size w6).drew (Nat.le_refl _)) ⟨p.ch, p.back, q, p.seq, p.ack, p.load⟩ (hno 1))
          have HNO := Lib.hid hno0
          have hS : (fun w' => w'.cell? ⟨PB.P, 0, none⟩ = some (.pointer (some ⟨PB.go, 0, none⟩)) ∧ w'.cell? ⟨X, 0, none⟩ = some (.int .i64 p.ch) ∧ w'.cell? ⟨X, 1, none⟩ = some (.int .i64 p.back) ∧ w'.cell? ⟨X, 2, none⟩ = some (.int .i64 q) ∧ w'.cell? ⟨X, 3, none⟩ = some (.int .i64 p.seq) ∧ w'.cell? ⟨X, 4, none⟩ = some (.int .i64 p.ack) ∧ w'.cell? ⟨X, 5, none⟩ = some (.string p.load) : World → Prop) w6.drew := ⟨pb0, cell_at HBX6.out rfl, cell_at HBX6.out rfl, cell_at HBX6.out rfl, cell_at HBX6.out rfl, cell_at HBX6.out rfl, cell_at HBX6.out rfl⟩
          clear q0 q1 q2 q3 q4 q5 hq hno hno0 pb0 pb1 pb4 hrB hB6 HBoth HB5
          go_wp2_with fail
          refine AnyTo.region (m := 99) (S := fun w' => w'.cell? ⟨PB.P, 0, none⟩ = some (.pointer (some ⟨PB.go, 0, none⟩)) ∧ w'.cell? ⟨X, 0, none⟩ = some (.int .i64 p.ch) ∧ w'.cell? ⟨X, 1, none⟩ = some (.int .i64 p.back) ∧ w'.cell? ⟨X, 2, none⟩ = some (.int .i64 q) ∧ w'.cell? ⟨X, 3, none⟩ = some (.int .i64 p.seq) ∧ w'.cell? ⟨X, 4, none⟩ = some (.int .i64 p.ack) ∧ w'.cell? ⟨X, 5, none⟩ = some (.string p.load)) mixed ?_
          refine AnyTo.takeA (i := 0) (v := ?va0) rfl (by kernel_rfl) (of_decide_eq_true (by kernel_rfl)) (by kernel_rfl) (by kernel_rfl) (fun _ _ _ h => h) (Or.inl ⟨by rfl, ?hya0⟩) hS ?resta0
          case hya0 => (intro w' hw'; (try dsimp only at hw'); go_simp; try (with_reducible rfl))
          refine AnyTo.takeA (i := 1) (v := ?va1) rfl (by kernel_rfl) (of_decide_eq_true (by kernel_rfl)) (by kernel_rfl) (by kernel_rfl) (fun _ _ _ h => h) (Or.inl ⟨by rfl, ?hya1⟩) hS ?resta1
          case hya1 => (intro w' hw'; (try dsimp only at hw'); go_simp; try (with_reducible rfl))
          refine AnyTo.takeA (i := 2) (v := ?va2) rfl (by kernel_rfl) (of_decide_eq_true (by kernel_rfl)) (by kernel_rfl) (by kernel_rfl) (fun _ _ _ h => h) (Or.inl ⟨by rfl, ?hya2⟩) hS ?resta2
          case hya2 => (intro w' hw'; (try dsimp only at hw'); go_simp; try (with_reducible rfl))
          refine AnyTo.takeA (i := 3) (v := ?va3) rfl (by kernel_rfl) (of_decide_eq_true (by kernel_rfl)) (by kernel_rfl) (by kernel_rfl) (fun _ _ _ h => h) (Or.inl ⟨by rfl, ?hya3⟩) hS ?resta3
          case hya3 => (intro w' hw'; (try dsimp only at hw'); go_simp; try (with_reducible rfl))
          refine AnyTo.takeA (i := 4) (v := ?va4) rfl (by kernel_rfl) (of_decide_eq_true (by kernel_rfl)) (by kernel_rfl) (by kernel_rfl) (fun _ _ _ h => h) (Or.inl ⟨by rfl, ?hya4⟩) hS ?resta4
          case hya4 => (intro w' hw'; (try dsimp only at hw'); go_simp; try (with_reducible rfl))
          try simp only [Act.put, List.setIfInBounds_toArray, List.set_cons_zero, List.set_cons_succ]
          refine AnyTo.step (i := 5) (by kernel_rfl) rfl (fun K hK => ?_)
          go_simp
          go_at_call 12
          refine HK.out.mono ?_
          rintro e w7 ⟨rfl, b7⟩
          have r7 := below_heap b7 (w := w6.drew) HRB.out (heap_lt HRB.out)
          have x7 := below_heap b7 (w := w6.drew) HBX6.out (heap_lt HBX6.out)
          have HB7 : Hid (Below w6.heap.size w6 w7) := ⟨b7.os, b7.tape, b7.output, b7.size, b7.block⟩
          clear b7
          go_wp2_with fail
          refine hK.out _ _ (fun _ => ⟨cell_at r7 rfl, cell_at x7 rfl, cell_at x7 rfl, cell_at x7 rfl, cell_at x7 rfl, cell_at x7 rfl, cell_at x7 rfl⟩) ?_
          clear hK K
          try simp only [Act.put, List.setIfInBounds_toArray, List.set_cons_zero, List.set_cons_succ]
          refine AnyTo.done (by kernel_rfl) ?_
          clear hS HK
          have HR7 := Lib.hid r7
          have HX7 := Lib.hid x7
          clear r7 x7
          have HBo7 := Lib.hid (HBo6.out.below HB7.out (Nat.le_refl _))
          have HB7w : Hid (Below w.heap.size w w7) := HB6.out.trans (HB7.out.mono HB6.out.size)
          obtain ⟨FB7, hB7⟩ := HBo7.out.snd
          have HK := Lib.hid (pair_in_no (w := w7.drew) (hB7.below (Below.refl w7.heap.size w7).drew (Nat.le_refl _)) ⟨p.ch, p.back, q, p.seq, p.ack, p.load⟩ HNO.out)
          have hS : (fun w' => w'.cell? ⟨PB.P, 1, none⟩ = some (.pointer (some ⟨PB.gi, 0, none⟩)) ∧ w'.cell? ⟨X, 0, none⟩ = some (.int .i64 p.ch) ∧ w'.cell? ⟨X, 1, none⟩ = some (.int .i64 p.back) ∧ w'.cell? ⟨X, 2, none⟩ = some (.int .i64 q) ∧ w'.cell? ⟨X, 3, none⟩ = some (.int .i64 p.seq) ∧ w'.cell? ⟨X, 4, none⟩ = some (.int .i64 p.ack) ∧ w'.cell? ⟨X, 5, none⟩ = some (.string p.load) : World → Prop) w7.drew := ⟨cell_at HR7.out rfl, cell_at HX7.out rfl, cell_at HX7.out rfl, cell_at HX7.out rfl, cell_at HX7.out rfl, cell_at HX7.out rfl, cell_at HX7.out rfl⟩
          clear hB7 HB7 HBo6 HB6 HBX6 HRB
          go_wp2_with fail
          refine AnyTo.region (m := 99) (S := fun w' => w'.cell? ⟨PB.P, 1, none⟩ = some (.pointer (some ⟨PB.gi, 0, none⟩)) ∧ w'.cell? ⟨X, 0, none⟩ = some (.int .i64 p.ch) ∧ w'.cell? ⟨X, 1, none⟩ = some (.int .i64 p.back) ∧ w'.cell? ⟨X, 2, none⟩ = some (.int .i64 q) ∧ w'.cell? ⟨X, 3, none⟩ = some (.int .i64 p.seq) ∧ w'.cell? ⟨X, 4, none⟩ = some (.int .i64 p.ack) ∧ w'.cell? ⟨X, 5, none⟩ = some (.string p.load)) mixed ?_
          refine AnyTo.takeA (i := 0) (v := ?vb0) rfl (by kernel_rfl) (of_decide_eq_true (by kernel_rfl)) (by kernel_rfl) (by kernel_rfl) (fun _ _ _ h => h) (Or.inl ⟨by rfl, ?hyb0⟩) hS ?restb0
          case hyb0 => (intro w' hw'; (try dsimp only at hw'); go_simp; try (with_reducible rfl))
          refine AnyTo.takeA (i := 1) (v := ?vb1) rfl (by kernel_rfl) (of_decide_eq_true (by kernel_rfl)) (by kernel_rfl) (by kernel_rfl) (fun _ _ _ h => h) (Or.inl ⟨by rfl, ?hyb1⟩) hS ?restb1
          case hyb1 => (intro w' hw'; (try dsimp only at hw'); go_simp; try (with_reducible rfl))
          refine AnyTo.takeA (i := 2) (v := ?vb2) rfl (by kernel_rfl) (of_decide_eq_true (by kernel_rfl)) (by kernel_rfl) (by kernel_rfl) (fun _ _ _ h => h) (Or.inl ⟨by rfl, ?hyb2⟩) hS ?restb2
          case hyb2 => (intro w' hw'; (try dsimp only at hw'); go_simp; try (with_reducible rfl))
          refine AnyTo.takeA (i := 3) (v := ?vb3) rfl (by kernel_rfl) (of_decide_eq_true (by kernel_rfl)) (by kernel_rfl) (by kernel_rfl) (fun _ _ _ h => h) (Or.inl ⟨by rfl, ?hyb3⟩) hS ?restb3
          case hyb3 => (intro w' hw'; (try dsimp only at hw'); go_simp; try (with_reducible rfl))
          refine AnyTo.takeA (i := 4) (v := ?vb4) rfl (by kernel_rfl) (of_decide_eq_true (by kernel_rfl)) (by kernel_rfl) (by kernel_rfl) (fun _ _ _ h => h) (Or.inl ⟨by rfl, ?hyb4⟩) hS ?restb4
          case hyb4 => (intro w' hw'; (try dsimp only at hw'); go_simp; try (with_reducible rfl))
          try simp only [Act.put, List.setIfInBounds_toArray, List.set_cons_zero, List.set_cons_succ]
          refine AnyTo.step (i := 5) (by kernel_rfl) rfl (fun K hK => ?_)
          go_simp
          go_at_call 20
          refine HK.out.mono ?_
          rintro e w8 ⟨rfl, b8⟩
          have r8 := below_heap b8 (w := w7.drew) HR7.out (heap_lt HR7.out)
          have x8 := below_heap b8 (w := w7.drew) HX7.out (heap_lt HX7.out)
          have HB8 : Hid (Below w7.heap.size w7 w8) := ⟨b8.os, b8.tape, b8.output, b8.size, b8.block⟩
          clear b8
          go_wp2_with fail
          refine hK.out _ _ (fun _ => ⟨cell_at r8 rfl, cell_at x8 rfl, cell_at x8 rfl, cell_at x8 rfl, cell_at x8 rfl, cell_at x8 rfl, cell_at x8 rfl⟩) ?_
          clear hK K
          try simp only [Act.put, List.setIfInBounds_toArray, List.set_cons_zero, List.set_cons_succ]
          refine AnyTo.step (i := 6) (by kernel_rfl) rfl (fun K hK => ?_)
          go_simp
          try go_wp2_with fail
          refine hK.out _ _ (fun _ => ⟨cell_at r8 rfl, cell_at x8 rfl, cell_at x8 rfl, cell_at x8 rfl, cell_at x8 rfl, cell_at x8 rfl, cell_at x8 rfl⟩) ?_
          clear hK K
          try simp only [Act.put, List.setIfInBounds_toArray, List.set_cons_zero, List.set_cons_succ]
          refine AnyTo.step (i := 7) (by kernel_rfl) rfl (fun K hK => ?_)
          go_simp
          try go_wp2_with fail
          refine hK.out _ _ (fun _ => ⟨cell_at r8 rfl, cell_at x8 rfl, cell_at x8 rfl, cell_at x8 rfl, cell_at x8 rfl, cell_at x8 rfl, cell_at x8 rfl⟩) ?_
          clear hK K
          try simp only [Act.put, List.setIfInBounds_toArray, List.set_cons_zero, List.set_cons_succ]
          refine AnyTo.done (by kernel_rfl) ?_
          clear hS HK r8 x8 HR7 HX7
          have HBo8 := Lib.hid (HBo7.out.below HB8.out (Nat.le_refl _))
          have HB8w : Hid (Below w.heap.size w w8) := HB7w.out.trans (HB8.out.mono HB7w.out.size)
          clear HBo7 HB7w HB8
          obtain ⟨FA, hA⟩ := HBo8.out.fst
          obtain ⟨FB, hB⟩ := HBo8.out.snd
          obtain ⟨a1, c1, a2, c2, pa0, pa1, _, pa4, _⟩ := hA.ptr
          obtain ⟨a3, c3, a4, c4, pb0, pb1, _, pb4, _⟩ := hB.ptr
          have HWa : Hid (∀ n, Calls Try.prog 17 #[.pointer (some ⟨PA.go, 0, none⟩)] (w8.drewN n) fun e w' => e = .returned (.int .i64 (s'.o.waits.length : Nat)) ∧ w8.drewN n = w') := fun n => pair_waits (hA.below (bl_drewN (Below.refl _ _) n) (Nat.le_refl _))
          have HWb : Hid (∀ n, Calls Try.prog 17 #[.pointer (some ⟨PB.go, 0, none⟩)] (w8.drewN n) fun e w' => e = .returned (.int .i64 (s'.o.waits.length : Nat)) ∧ w8.drewN n = w') := fun n => pair_waits (hB.below (bl_drewN (Below.refl _ _) n) (Nat.le_refl _))
          have HLa : Hid (∀ n, Calls Try.prog 19 #[.pointer (some ⟨PA.gi, 0, none⟩)] (w8.drewN n) fun e w' => e = .returned (.int .i64 (s'.i.loads.length : Nat)) ∧ w8.drewN n = w') := fun n => pair_inlen (hA.below (bl_drewN (Below.refl _ _) n) (Nat.le_refl _))
          have HLb : Hid (∀ n, Calls Try.prog 19 #[.pointer (some ⟨PB.gi, 0, none⟩)] (w8.drewN n) fun e w' => e = .returned (.int .i64 (s'.i.loads.length : Nat)) ∧ w8.drewN n = w') := fun n => pair_inlen (hB.below (bl_drewN (Below.refl _ _) n) (Nat.le_refl _))
          clear hA hB
          go_wp2_with fail
          go_quiet ((first | (go_at_call 17; first | (with_reducible exact quietL (HWa.out _)) | (with_reducible exact quietL (HWb.out _))) | (go_at_call 19; first | (with_reducible exact quietL (HLa.out _)) | (with_reducible exact quietL (HLb.out _)))))
          have HR2 : Hid (Both (fun k => w.heap.size ≤ k) (w8.drewN nq) PA PB s' s' ∧ Below w.heap.size w (w8.drewN nq)) := ⟨HBo8.out.below (bl_drewN (Below.refl _ _) nq) (Nat.le_refl _), bl_drewN HB8w.out nq⟩
          go_wp2_with fail
          go_roundw
          case rel => exact ⟨j + 1, s', by omega, by go_num, HI2.out, HR2.out⟩
          case measure => simp [intOf]; omega
        · obtain ⟨FA, hA⟩ := HBoth.out.fst
          obtain ⟨FB, hB⟩ := HBoth.out.snd
          obtain ⟨a1, c1, a2, c2, pa0, pa1, _, pa4, _⟩ := hA.ptr
          obtain ⟨a3, c3, a4, c4, pb0, pb1, _, pb4, _⟩ := hB.ptr
          have HWa : Hid (∀ n, Calls Try.prog 17 #[.pointer (some ⟨PA.go, 0, none⟩)] (w5.drewN n) fun e w' => e = .returned (.int .i64 (s'.o.waits.length : Nat)) ∧ w5.drewN n = w') := fun n => pair_waits (hA.below (bl_drewN (Below.refl _ _) n) (Nat.le_refl _))
          have HWb : Hid (∀ n, Calls Try.prog 17 #[.pointer (some ⟨PB.go, 0, none⟩)] (w5.drewN n) fun e w' => e = .returned (.int .i64 (s'.o.waits.length : Nat)) ∧ w5.drewN n = w') := fun n => pair_waits (hB.below (bl_drewN (Below.refl _ _) n) (Nat.le_refl _))
          have HLa : Hid (∀ n, Calls Try.prog 19 #[.pointer (some ⟨PA.gi, 0, none⟩)] (w5.drewN n) fun e w' => e = .returned (.int .i64 (s'.i.loads.length : Nat)) ∧ w5.drewN n = w') := fun n => pair_inlen (hA.below (bl_drewN (Below.refl _ _) n) (Nat.le_refl _))
          have HLb : Hid (∀ n, Calls Try.prog 19 #[.pointer (some ⟨PB.gi, 0, none⟩)] (w5.drewN n) fun e w' => e = .returned (.int .i64 (s'.i.loads.length : Nat)) ∧ w5.drewN n = w') := fun n => pair_inlen (hB.below (bl_drewN (Below.refl _ _) n) (Nat.le_refl _))
          clear hA hB
          go_wp2_with fail
          go_quiet ((first | (go_at_call 17; first | (with_reducible exact quietL (HWa.out _)) | (with_reducible exact quietL (HWb.out _))) | (go_at_call 19; first | (with_reducible exact quietL (HLa.out _)) | (with_reducible exact quietL (HLb.out _)))))
          have HR2 : Hid (Both (fun k => w.heap.size ≤ k) (w5.drewN nq) PA PB s' s' ∧ Below w.heap.size w (w5.drewN nq)) := ⟨HBoth.out.below (bl_drewN (Below.refl _ _) nq) (Nat.le_refl _), bl_drewN HB5.out nq⟩
          go_wp2_with fail
          go_roundw
          case rel => exact ⟨j + 1, s', by omega, by go_num, HI2.out, HR2.out⟩
          case measure => simp [intOf]; omega
    · go_wp2_with fail
      go_ret
      exact ⟨rfl, HR.out.2⟩

set_option maxRecDepth 100000 in
theorem linkStale_lawful : Lawful 9 Try.f9 := by
  intro H enc W base args ds p hval hA hlt hsz
  rw [Try.params9] at hA hval hsz
  obtain ⟨v0, v1, d0, d1, p0, p1, rfl, rfl, rfl, h0, h1⟩ := trodAll_two hA
  obtain ⟨os, b, off, ao, n, cap, rfl, _, hn, hl, hok, hao, hb, hc⟩ := sliceArg lopCells LOpOk 10 (by omega) under_lops cells_lop rdLOp (hval 0 61 v0 rfl rfl) h0 (weights_in (j := 0) hsz rfl rfl) hlt (fun x hx => by simp [hx])
  obtain ⟨ps, tb, toff, to, tn, tcap, rfl, _, htn, htl, _, hto, htb, htc⟩ := sliceArg pkCells PkOk 6 (by omega) under_pks cells_pk (fun fuel cs y a1 a2 _ => rdPk fuel cs y a1 a2) (hval 1 28 v1 rfl rfl) h1 (weights_in (j := 1) hsz rfl rfl) hlt (fun x hx => by simp [hx])
  by_cases hlet : Big17 os
  · exact linkStale_big ao b off n cap os to tb toff tn tcap ps W hn hl hao hb hok hc hlet
  · by_cases ht : 60 < tn
    · exact linkStale_many ao b off n cap os to tb toff tn tcap ps W hn hl hao hb hok hc hlet ht htn
    · exact linkStale_law ao b off n cap os to tb toff tn tcap ps W hn hl hao hb hok hc hlet (by omega) htl hto htb htc

theorem linkStale_holds : Rows.LinkStaleSaid :=
  OpenClaim.holds_of_wide 9 Try.f9 rfl rfl rfl rfl rfl rfl rfl ⟨rfl, rfl, rfl, rfl, rfl⟩ rfl rfl rfl rfl rfl (by kernel_rfl) Try.func9 (by kernel_rfl)
    (of_decide_eq_true (by kernel_rfl)) (by unfold Func.isWrapper; rw [if_neg (of_decide_eq_false (by kernel_rfl))]; exact ⟨rfl, rfl⟩)
    (fun os started H enc _ => law_lift (s := Rows.linkStaleSpec) Try.func9 (by kernel_rfl) rfl rfl rfl (by rw [Try.params9]; intro t ht; simp at ht; rcases ht with rfl | rfl <;> exact ⟨by kernel_rfl, of_decide_eq_true (by kernel_rfl)⟩)
      (by rw [Try.params9]; intro H ds hds; match ds, hds with | [d1, d2], _ => exact ⟨rfl, rfl, rfl⟩) linkStale_lawful os started H enc
      (ChangeSpec.witness6 (enc := enc) (C := Try.checked) false ⟨#[], #[.slice none 0 0, .slice none 0 0], []⟩ 8 (by kernel_rfl) (by kernel_rfl) (by kernel_rfl) (by kernel_rfl)))
end Go.Proofs.Ytecpgkcoehnpbaa
