/- Whatever is sent, taken, lost, doubled and turned about: a wire answers, and carries, what the document says: the law WirePlays answers true at every input. No condition. -/
import Derived.Test.YtecpgkcoehnpbaaWireJ
import Derived.Deep.DeepCutAuto
import Derived.Deep.CutBlock
namespace Go.Proofs.Ytecpgkcoehnpbaa
open Go.ChangeShapes Go.WideShapes Go.ChangeAt Go.RowKit

set_option maxRecDepth 100000 in
set_option maxHeartbeats 12800000 in
theorem wirePlays_law (so : Option Addr) (sb soff n scap : Nat) (os : List OpR) (w : World) (hn : n ≤ maxLen) (hl : os.length = n) (hao : 0 < n → so = some ⟨sb, soff, none⟩) (hb : 0 < n → sb < w.heap.size) (hok : ∀ o ∈ os, OpOk w o)
    (hc : ∀ i o, os[i]? = some o → ∀ j u, (opCells o)[j]? = some u → w.cell? ⟨sb, soff + i * 4 + j, none⟩ = some u) (hbig : ¬ Big os) :
    Calls Try.prog 6 #[.slice so n scap] w fun e w' => e = .returned (.bool true) ∧ Below w.heap.size w w' := by
  have HGR : ∀ w' : World, Below w.heap.size w w' → Calls Try.prog 28 #[.slice so n scap] w' fun e w'' => e = .returned (.bool false) ∧ Below w'.heap.size w' w'' := fun w' hb' =>
    great_any so sb soff n scap os w' hn hl hao (fun h => Nat.lt_of_lt_of_le (hb h) hb'.size) (fun o ho => (hok o ho).1) (fun i o ho j u hj => (hb'.cell (by exact hb (by have := (List.getElem?_eq_some_iff.1 ho).1; omega))).trans (hc i o ho j u hj)) false (by simp [hbig])
  have hn100 : n ≤ 100 := by
    have h : ¬ 100 < os.length := fun h => hbig (.inl h)
    omega
  have hsm : ∀ o ∈ os, o.n ≤ 100 := fun o ho => Nat.le_of_not_lt fun h => hbig (.inr ⟨o, ho, h⟩)
  have HGRT := Lib.hid HGR
  have HAO := Lib.hid hao
  have HB := Lib.hid hb
  have HL := Lib.hid hl
  have HC := Lib.hid hc
  have HOK := Lib.hid hok
  have HSM := Lib.hid hsm
  have mixed : Try.prog.follows .mixedOrders = true := by kernel_rfl
  clear hao hb hl hc hok hsm hbig HGR hn
  go_enter Try.func6, Try.ntmps6
  go_wp2_with fail
  refine (wireAwake w).mono ?_
  rintro e w0 ⟨rfl, hb0⟩
  have HB0 := Lib.hid hb0
  clear hb0
  go_wp2_with fail
  refine (HGRT.out w0 HB0.out).mono ?_
  rintro e w1 ⟨rfl, hb1⟩
  have z1 : w.heap.size ≤ w1.heap.size := Nat.le_trans HB0.out.size hb1.size
  have HB1 : Hid (Below w.heap.size w w1) := HB0.out.trans (hb1.mono HB0.out.size)
  clear hb1 HB0 HGRT
  go_wp2_with fail
  refine (wireNew_any w1).mono ?_
  rintro e w2 ⟨rfl, rfl⟩
  have HR0 : Hid (Two w.heap.size (fun _ => False) (w1.alloc (.cells #[.slice none 0 0] 85)) w1.heap.size [] (.slice none ([] : List Pk).length 0) [] ∧ Below w.heap.size w (w1.alloc (.cells #[.slice none 0 0] 85))) :=
    ⟨⟨fun k => k = w1.heap.size, fun _ => False, wire_new w1, Sl.nil _ _ _ _, fun k hk => by rw [World.size_alloc]; exact ⟨by omega, by omega, fun x => x⟩, fun _ x => x.elim, fun _ x => x.elim⟩, HB1.out.alloc z1 _⟩
  clear HB1
  generalize w1.alloc (.cells #[.slice none 0 0] 85) = w2 at *
  go_wp2_with fail
  go_loopw [4, 22] (fun v i wr => ∃ (j : Nat) (hs : List Pk) (ao : Option Addr) (c : Nat), j ≤ n ∧ i = .int .i64 j ∧ v = .slice ao hs.length c ∧ hs.length ≤ 64 ∧ Hid (Two w.heap.size (fun _ => False) wr w1.heap.size hs (.slice ao hs.length c) hs ∧ Below w.heap.size w wr)) (fun _ i _ => n - (intOf i).toNat)
  case atStart => exact ⟨0, [], none, 0, by omega, rfl, rfl, by simp, HR0.out⟩
  case round =>
    obtain ⟨j, hs, ao, c, hj, rfl, rfl, hlen, HR⟩ := hrel
    clear HR0
    by_cases hlt : j < n
    · obtain rfl := HAO.out (by omega)
      obtain ⟨⟨ok, oa, ob, oao, on, ocap, oblk, ooff, ol⟩, ho⟩ : ∃ o, os[j]? = some o := ⟨_, List.getElem?_eq_getElem (by rw [HL.out]; exact hlt)⟩
      have hc : ∀ k u, (opCells ⟨ok, oa, ob, oao, on, ocap, oblk, ooff, ol⟩)[k]? = some u → wr.cell? ⟨sb, soff + j * 4 + k, none⟩ = some u := fun k u hk => (HR.out.2.cell (by exact HB.out (by omega))).trans (HC.out j _ ho k u hk)
      have q0 : wr.cell? ⟨sb, soff + j * 4, none⟩ = some (.int .i64 ok) := hc 0 _ rfl
      have q1 : wr.cell? ⟨sb, soff + j * 4 + 1, none⟩ = some (.int .i64 oa) := hc 1 _ rfl
      have q2 : wr.cell? ⟨sb, soff + j * 4 + 2, none⟩ = some (.int .i64 ob) := hc 2 _ rfl
      have q3 : wr.cell? ⟨sb, soff + j * 4 + 3, none⟩ = some (.slice oao on ocap) := hc 3 _ rfl
      have hon : on ≤ 100 := HSM.out _ (List.mem_of_getElem? ho)
      have HOP := Lib.hid (HOK.out _ (List.mem_of_getElem? ho))
      have hz := HR.out.2.size
      clear hc ho
      obtain ⟨wb, hwb⟩ : ∃ wb, wr.alloc (.cells #[.int .i64 ok, .int .i64 oa, .int .i64 ob, .slice oao on ocap] 56) = wb := ⟨_, rfl⟩
      have HBX : Hid (wb.heap[wr.heap.size]? = some (.cells #[.int .i64 ok, .int .i64 oa, .int .i64 ob, .slice oao on ocap] 56)) := by rw [← hwb]; exact heap_alloc_new wr _
      have HT : Hid (Two w.heap.size (fun k => k = wr.heap.size) wb w1.heap.size hs (.slice ao hs.length c) hs) := by
        rw [← hwb]
        exact HR.out.1.next ((Below.refl wr.heap.size wr).alloc (Nat.le_refl _) _) (Nat.le_refl _) (fun k hk => by rw [World.size_alloc]; omega)
      have HBW : Hid (Below w.heap.size w wb) := by rw [← hwb]; exact HR.out.2.alloc hz _
      have k0 : wb.cell? ⟨wr.heap.size, 0, none⟩ = some (.int .i64 ok) := cell_at HBX.out rfl
      have k1 : wb.cell? ⟨wr.heap.size, 1, none⟩ = some (.int .i64 oa) := cell_at HBX.out rfl
      have k2 : wb.cell? ⟨wr.heap.size, 2, none⟩ = some (.int .i64 ob) := cell_at HBX.out rfl
      have k3 : wb.cell? ⟨wr.heap.size, 3, none⟩ = some (.slice oao on ocap) := cell_at HBX.out rfl
      clear HR
      go_upto_region 10 with fail
      go_cut [7] (fun s7 wx => ∃ th : Bool, s7 = .bool th ∧ (th = true ↔ (0 ≤ oa ∧ oa < (hs.length : Int))) ∧ wx = wb)
      case first =>
        by_cases h0 : oa < 0
        · have d0 : decide (0 ≤ oa) = false := by simp; omega
          go_wp2_with fail
          go_meet
          exact ⟨false, rfl, by simp; omega, rfl⟩
        · by_cases h1 : oa < (hs.length : Int)
          · have d0 : decide (0 ≤ oa) = true := by simp; omega
            have d1 : decide (oa < (hs.length : Int)) = true := by simp; omega
            go_wp2_with fail
            go_meet
            exact ⟨true, rfl, by simp; omega, rfl⟩
          · have d0 : decide (0 ≤ oa) = true := by simp; omega
            have d1 : decide (oa < (hs.length : Int)) = false := by simp; omega
            go_wp2_with fail
            go_meet
            exact ⟨false, rfl, by simp; omega, rfl⟩
      case rest =>
        obtain ⟨th, rfl, hth, rfl⟩ := hcut
        have HTH := Lib.hid hth
        clear hth
        go_upto_block 2 with fail
        go_cut [4, 8, 9] (fun s4 s8 s9 wx => ∃ (hs2 : List Pk) (ao2 : Option Addr) (c2 : Nat) (x : Bool), s4 = .slice ao2 hs2.length c2 ∧ s8 = .bool x ∧ s9 = .bool x ∧ hs2.length ≤ 64 ∧ Hid (Two w.heap.size (fun _ => False) wx w1.heap.size hs2 (.slice ao2 hs2.length c2) hs2 ∧ Below w.heap.size w wx))
        case first =>
          have hzb : w.heap.size ≤ wc.heap.size := HBW.out.size
          by_cases c0 : ok = 0
          · subst c0
            have hnw : News w 6 (.slice oao on ocap) ol.length (pksCells ol) := news_arg (cap := ocap) HOP.out.2.2.1 HOP.out.2.1 HOP.out.2.2.2.2
            have hol : ol.length = on := HOP.out.2.1
            have p3 : 0 < on → oao = some ⟨oblk, ooff, none⟩ := HOP.out.2.2.1
            have p4 : 0 < on → oblk < w.heap.size := HOP.out.2.2.2.1
            have hnx : ∀ w' : World, Below w.heap.size w w' → News w' 6 (.slice oao on ocap) ol.length (pksCells ol) := fun w' hb' => hnw.below hb' (fun a c e hm => by
              simp only [Value.slice.injEq] at e
              have h0 := p3 (by omega)
              rw [h0] at e
              rw [← Option.some.inj e.1]
              exact p4 (by omega))
            have HNX := Lib.hid hnx
            have HOL := Lib.hid hol
            have HS := Lib.hid (two_send HT.out hzb ol _ (hnx _ HBW.out) (by omega))
            clear hnw hnx hol p3 p4
            go_wp2_with fail
            refine HS.out.mono ?_
            rintro e wL ⟨rfl, hL, hbL, kL⟩
            have HXL := Lib.hid (kL _ _ rfl HBX.out)
            have hzL : w.heap.size ≤ wL.heap.size := Nat.le_trans hzb hbL.size
            obtain ⟨ao1, cc1, wc1, hr1, hT1, hB1, hK1⟩ := two_copy hL hzL (by omega)
            have hzC : w.heap.size ≤ wc1.heap.size := Nat.le_trans hzL hB1.size
            obtain ⟨ao2, cc2, wc2, hr2, hT2, hB2, hK2⟩ := two_append hT1 hzC ol _ (HNX.out wc1 ((HBW.out.trans hbL).trans hB1)) (by have := HOL.out; omega)
            have HX1 := Lib.hid (hK1 _ _ (.inl rfl) HXL.out)
            have HX2 := Lib.hid (hK2 _ _ rfl HX1.out)
            have hcut := two_cut hT2 (by rw [List.length_append, HOL.out]; omega)
            obtain ⟨N, hN⟩ : ∃ N, (hs ++ ol).length = N := ⟨_, rfl⟩
            rw [hN] at hr2 hcut
            have HCUT := Lib.hid hcut
            have HR1 := Lib.hid hr1
            have HR2 := Lib.hid hr2
            have HB2 := Lib.hid (((HBW.out.trans hbL).trans hB1).trans hB2)
            have hS : (fun w' : World => w'.cell? ⟨wr.heap.size, 3, none⟩ = some (.slice oao on ocap)) wL.drew := cell_at HXL.out rfl
            clear hL hbL kL hr1 hr2 hT1 hT2 hB1 hB2 hK1 hK2 HS hcut hN
            go_wp2_with fail
            refine AnyTo.region (m := 7) (S := fun w' : World => w'.cell? ⟨wr.heap.size, 3, none⟩ = some (.slice oao on ocap)) mixed ?_
            refine AnyTo.take (i := 1) (v := ?vz1) rfl (by kernel_rfl) (by kernel_rfl) (by kernel_rfl) (by kernel_rfl) (fun _ _ _ h => h) (Or.inl ⟨by rfl, ?hyz1⟩) hS ?restz1
            case hyz1 => (intro w' hw'; (try dsimp only at hw'); go_simp; try (with_reducible rfl))
            try simp only [Act.put, List.setIfInBounds_toArray, List.set_cons_zero, List.set_cons_succ]
            refine AnyTo.take (i := 3) (v := ?vz3) rfl (by kernel_rfl) (by kernel_rfl) (by kernel_rfl) (by kernel_rfl) (fun _ _ _ h => h) (Or.inl ⟨by rfl, ?hyz3⟩) hS ?restz3
            case hyz3 => (intro w' hw'; (try dsimp only at hw'); go_simp; try (with_reducible rfl))
            try simp only [Act.put, List.setIfInBounds_toArray, List.set_cons_zero, List.set_cons_succ]
            refine AnyTo.take (i := 4) (v := ?vz4) rfl (by kernel_rfl) (by kernel_rfl) (by kernel_rfl) (by kernel_rfl) (fun _ _ _ h => h) (Or.inl ⟨by rfl, ?hyz4⟩) hS ?restz4
            case hyz4 => (intro w' hw'; (try dsimp only at hw'); go_simp; try (with_reducible rfl))
            try simp only [Act.put, List.setIfInBounds_toArray, List.set_cons_zero, List.set_cons_succ]
            refine AnyTo.step (i := 0) (by kernel_rfl) rfl (fun K hK => ?_)
            go_simp
            refine hK.out _ _ (fun _ => cell_at (heap_alloc_same HXL.out _) rfl) ?_
            clear hK K
            try simp only [Act.put, List.setIfInBounds_toArray, List.set_cons_zero, List.set_cons_succ]
            refine AnyTo.step (i := 2) (by kernel_rfl) rfl (fun K hK => ?_)
            refine step_append_run (t := 28) rfl rfl (v := .slice (some ⟨wL.heap.size, 0, none⟩) 0 0) (u := .slice ao hs.length c) (by simp [Act.eval, Act.put]) (by simp [Act.eval, Act.put]) HR1.out ?_
            refine hK.out _ _ (fun _ => cell_at HX1.out rfl) ?_
            clear hK K
            try simp only [Act.put, List.setIfInBounds_toArray, List.set_cons_zero, List.set_cons_succ]
            refine AnyTo.step (i := 5) (by kernel_rfl) rfl (fun K hK => ?_)
            refine step_append_run (t := 28) rfl rfl (v := .slice ao1 hs.length cc1) (u := .slice oao on ocap) (by simp [Act.eval, Act.put]) (by simp [Act.eval, Act.put]) HR2.out ?_
            refine hK.out _ _ (fun _ => cell_at HX2.out rfl) ?_
            clear hK K
            try simp only [Act.put, List.setIfInBounds_toArray, List.set_cons_zero, List.set_cons_succ]
            refine AnyTo.step (i := 6) (by kernel_rfl) rfl (fun K hK => ?_)
            go_simp
            refine HCUT.out.mono ?_
            rintro e wM ⟨v', rfl, hM, rfl⟩
            obtain ⟨GM, hsM⟩ := hM.slice
            obtain ⟨ao', c', rfl, _, _⟩ := hsM.shape
            have HTM := Lib.hid hM.forget
            have hel : (cutPks (hs ++ ol)).length ≤ 64 := by rw [cutPks_length]; omega
            clear hM hsM
            go_wp2_with fail
            refine hK.out _ _ (fun _ => cell_at HX2.out rfl) ?_
            clear hK K
            try simp only [Act.put, List.setIfInBounds_toArray, List.set_cons_zero, List.set_cons_succ]
            refine AnyTo.step (i := 7) (by kernel_rfl) rfl (fun K hK => ?_)
            go_simp
            refine hK.out _ _ (fun z => absurd rfl z) ?_
            clear hK K
            try simp only [Act.put, List.setIfInBounds_toArray, List.set_cons_zero, List.set_cons_succ]
            refine AnyTo.done (by kernel_rfl) ?_
            clear HR1 HR2 HCUT HX1 HX2 hS
            go_wp2_with fail
            go_meet
            exact ⟨cutPks (hs ++ ol), ao', c', false, rfl, rfl, rfl, hel, HTM.out, HB2.out⟩
          by_cases c1 : ok = 1
          · subst c1
            cases th with
            | false =>
              have hin : oa < 0 ∨ (hs.length : Int) ≤ oa := by have h := HTH.out; simp at h; omega
              have HS := Lib.hid (two_take_none HT.out hzb oa hin)
              clear hin
              go_wp2_with fail
              refine HS.out.mono ?_
              rintro e wL ⟨rfl, hL, hbL, -⟩
              have hzL : w.heap.size ≤ wL.heap.size := Nat.le_trans hzb hbL.size
              have hpz := heap_alloc_new wL (pkObj pk0)
              have HTL := Lib.hid (hL.below ((Below.refl wL.heap.size wL).alloc (Nat.le_refl _) (pkObj pk0)) (Nat.le_refl _)).forget
              have HBL : Hid (Below w.heap.size w (wL.alloc (pkObj pk0))) := (HBW.out.trans hbL).alloc hzL _
              obtain ⟨wZ, hwZ⟩ : ∃ wZ, wL.alloc (.cells #[.int .i64 0, .int .i64 0, .int .i64 0, .int .i64 0, .int .i64 0, .string ByteArray.empty] 23) = wZ := ⟨_, rfl⟩
              change Hid (Two _ _ (wL.alloc (.cells #[.int .i64 0, .int .i64 0, .int .i64 0, .int .i64 0, .int .i64 0, .string ByteArray.empty] 23)) _ _ _ _) at HTL
              change Hid (Below _ _ (wL.alloc (.cells #[.int .i64 0, .int .i64 0, .int .i64 0, .int .i64 0, .int .i64 0, .string ByteArray.empty] 23))) at HBL
              change (wL.alloc (.cells #[.int .i64 0, .int .i64 0, .int .i64 0, .int .i64 0, .int .i64 0, .string ByteArray.empty] 23)).heap[_]? = _ at hpz
              rw [hwZ] at HTL HBL hpz
              have y0 : wZ.cell? ⟨wL.heap.size, 0, none⟩ = some (.int .i64 0) := cell_at hpz rfl
              have y1 : wZ.cell? ⟨wL.heap.size, 1, none⟩ = some (.int .i64 0) := cell_at hpz rfl
              have y2 : wZ.cell? ⟨wL.heap.size, 2, none⟩ = some (.int .i64 0) := cell_at hpz rfl
              have y3 : wZ.cell? ⟨wL.heap.size, 3, none⟩ = some (.int .i64 0) := cell_at hpz rfl
              have y4 : wZ.cell? ⟨wL.heap.size, 4, none⟩ = some (.int .i64 0) := cell_at hpz rfl
              have y5 : wZ.cell? ⟨wL.heap.size, 5, none⟩ = some (.string ByteArray.empty) := cell_at hpz rfl
              clear hL hbL HS hpz
              go_wp2_with fail
              try rw [hwZ]
              clear hwZ
              go_quiet (fail)
              go_wp2_with fail
              go_meet
              exact ⟨hs, ao, c, false, rfl, rfl, rfl, hlen, HTL.out.below (bl_drewN (Below.refl wZ.heap.size wZ) _) (Nat.le_refl _), bl_drewN HBL.out _⟩
            | true =>
              have hin := HTH.out.1 rfl
              obtain ⟨i, rfl⟩ := Int.eq_ofNat_of_zero_le hin.1
              have hi : i < hs.length := by omega
              clear hin
              obtain ⟨p, hp⟩ : ∃ p, hs[i]? = some p := ⟨_, List.getElem?_eq_getElem hi⟩
              have HS := Lib.hid (two_take HT.out hzb i p hp (by omega))
              have HP := Lib.hid hp
              clear hp
              go_wp2_with fail
              refine HS.out.mono ?_
              rintro e wL ⟨rfl, hL, hbL, kL⟩
              have hzL : w.heap.size ≤ wL.heap.size := Nat.le_trans hzb hbL.size
              have hpz := heap_alloc_new wL (pkObj p)
              have HXL := Lib.hid (heap_alloc_same (kL _ _ rfl HBX.out) (pkObj p))
              have HTL := Lib.hid (hL.below ((Below.refl wL.heap.size wL).alloc (Nat.le_refl _) (pkObj p)) (Nat.le_refl _))
              have HBL : Hid (Below w.heap.size w (wL.alloc (pkObj p))) := (HBW.out.trans hbL).alloc hzL _
              obtain ⟨wZ, hwZ⟩ : ∃ wZ, wL.alloc (.cells #[.int .i64 p.ch, .int .i64 p.back, .int .i64 p.inc, .int .i64 p.seq, .int .i64 p.ack, .string p.load] 23) = wZ := ⟨_, rfl⟩
              change Hid (Two _ _ (wL.alloc (.cells #[.int .i64 p.ch, .int .i64 p.back, .int .i64 p.inc, .int .i64 p.seq, .int .i64 p.ack, .string p.load] 23)) _ _ _ _) at HTL
              change Hid (Below _ _ (wL.alloc (.cells #[.int .i64 p.ch, .int .i64 p.back, .int .i64 p.inc, .int .i64 p.seq, .int .i64 p.ack, .string p.load] 23))) at HBL
              change Hid ((wL.alloc (.cells #[.int .i64 p.ch, .int .i64 p.back, .int .i64 p.inc, .int .i64 p.seq, .int .i64 p.ack, .string p.load] 23)).heap[_]? = _) at HXL
              change (wL.alloc (.cells #[.int .i64 p.ch, .int .i64 p.back, .int .i64 p.inc, .int .i64 p.seq, .int .i64 p.ack, .string p.load] 23)).heap[_]? = _ at hpz
              rw [hwZ] at HTL HBL hpz HXL
              have y0 : wZ.cell? ⟨wL.heap.size, 0, none⟩ = some (.int .i64 p.ch) := cell_at hpz rfl
              have y1 : wZ.cell? ⟨wL.heap.size, 1, none⟩ = some (.int .i64 p.back) := cell_at hpz rfl
              have y2 : wZ.cell? ⟨wL.heap.size, 2, none⟩ = some (.int .i64 p.inc) := cell_at hpz rfl
              have y3 : wZ.cell? ⟨wL.heap.size, 3, none⟩ = some (.int .i64 p.seq) := cell_at hpz rfl
              have y4 : wZ.cell? ⟨wL.heap.size, 4, none⟩ = some (.int .i64 p.ack) := cell_at hpz rfl
              have y5 : wZ.cell? ⟨wL.heap.size, 5, none⟩ = some (.string p.load) := cell_at hpz rfl
              have m1 : wZ.cell? ⟨wr.heap.size, 1, none⟩ = some (.int .i64 (i : Int)) := cell_at HXL.out rfl
              obtain ⟨GL, hsL⟩ := HTL.out.slice
              obtain ⟨b2, off2, cap2, he, _⟩ := hsL.at (by omega)
              simp only [Value.slice.injEq] at he
              obtain ⟨rfl, -, rfl⟩ := he
              have hcL := pk_cells hsL HP.out
              have x0 : wZ.cell? ⟨b2, off2 + i * 6, none⟩ = some (.int .i64 p.ch) := hcL 0 _ rfl
              have x1 := hcL 1 _ rfl
              have x2 := hcL 2 _ rfl
              have x3 := hcL 3 _ rfl
              have x4 := hcL 4 _ rfl
              have x5 := hcL 5 _ rfl
              clear hL hbL kL HS hpz hsL hcL
              go_wp2_with fail
              try rw [hwZ]
              clear hwZ
              go_quiet (fail)
              have HTZ := Lib.hid (HTL.out.below (bl_drewN (Below.refl wZ.heap.size wZ) nq) (Nat.le_refl _))
              have HBZ : Hid (Below w.heap.size w (wZ.drewN nq)) := bl_drewN HBL.out _
              have m2 : (wZ.drewN nq).cell? ⟨wr.heap.size, 1, none⟩ = some (.int .i64 (i : Int)) := m1
              clear x0 x1 x2 x3 x4 x5 y0 y1 y2 y3 y4 y5 m1 HTL HBL
              generalize wZ.drewN nq = wY at *
              have HS2 := Lib.hid (two_without HTZ.out HBZ.out.size i hi (by omega))
              go_wp2_with fail
              refine HS2.out.mono ?_
              rintro e wM ⟨v', rfl, hM, hbM, -⟩
              obtain ⟨GM, hsM⟩ := hM.slice
              obtain ⟨ao', c', rfl, _, _⟩ := hsM.shape
              have HTM := Lib.hid hM.forget
              have HBM := Lib.hid (HBZ.out.trans hbM)
              have hel : (hs.eraseIdx i).length ≤ 64 := by rw [List.length_eraseIdx_of_lt hi]; omega
              clear hM hbM hsM HS2 HBZ HTZ
              go_wp2_with fail
              go_meet
              exact ⟨hs.eraseIdx i, ao', c', true, rfl, rfl, rfl, hel, HTM.out, HBM.out⟩
          by_cases c2 : ok = 2
          · subst c2
            cases th with
            | false =>
              have hin : oa < 0 ∨ (hs.length : Int) ≤ oa := by have h := HTH.out; simp at h; omega
              have HS := Lib.hid (two_lose_none HT.out hzb oa hin)
              clear hin
              go_wp2_with fail
              refine HS.out.mono ?_
              rintro e wL ⟨rfl, hL, hbL, -⟩
              have HTL := Lib.hid hL.forget
              have HBL := Lib.hid (HBW.out.trans hbL)
              clear hL hbL HS
              go_wp2_with fail
              go_meet
              exact ⟨hs, ao, c, false, rfl, rfl, rfl, hlen, HTL.out, HBL.out⟩
            | true =>
              have hin := HTH.out.1 rfl
              obtain ⟨i, rfl⟩ := Int.eq_ofNat_of_zero_le hin.1
              have hi : i < hs.length := by omega
              clear hin
              have HS := Lib.hid (two_lose HT.out hzb i hi (by omega))
              go_wp2_with fail
              refine HS.out.mono ?_
              rintro e wL ⟨rfl, hL, hbL, kL⟩
              have HXL := Lib.hid (kL _ _ rfl HBX.out)
              have m1 : wL.cell? ⟨wr.heap.size, 1, none⟩ = some (.int .i64 (i : Int)) := cell_at HXL.out rfl
              have hzL : w.heap.size ≤ wL.heap.size := Nat.le_trans hzb hbL.size
              have HS2 := Lib.hid (two_without hL hzL i hi (by omega))
              have HBL := Lib.hid (HBW.out.trans hbL)
              clear hL hbL kL HS
              go_wp2_with fail
              refine HS2.out.mono ?_
              rintro e wM ⟨v', rfl, hM, hbM, -⟩
              obtain ⟨GM, hsM⟩ := hM.slice
              obtain ⟨ao', c', rfl, _, _⟩ := hsM.shape
              have HTM := Lib.hid hM.forget
              have HBM := Lib.hid (HBL.out.trans hbM)
              have hel : (hs.eraseIdx i).length ≤ 64 := by rw [List.length_eraseIdx_of_lt hi]; omega
              clear hM hbM hsM HS2 HBL
              go_wp2_with fail
              go_meet
              exact ⟨hs.eraseIdx i, ao', c', true, rfl, rfl, rfl, hel, HTM.out, HBM.out⟩
          by_cases c3 : ok = 3
          · subst c3
            cases th with
            | false =>
              have hin : oa < 0 ∨ (hs.length : Int) ≤ oa := by have h := HTH.out; simp at h; omega
              have HS := Lib.hid (two_twice_none HT.out oa hin)
              clear hin
              go_wp2_with fail
              refine HS.out.mono ?_
              rintro e wL ⟨rfl, rfl⟩
              clear HS
              go_wp2_with fail
              go_meet
              exact ⟨hs, ao, c, false, rfl, rfl, rfl, hlen, HT.out.forget, HBW.out⟩
            | true =>
              have hin := HTH.out.1 rfl
              obtain ⟨i, rfl⟩ := Int.eq_ofNat_of_zero_le hin.1
              have hi : i < hs.length := by omega
              clear hin
              obtain ⟨p, hp⟩ : ∃ p, hs[i]? = some p := ⟨_, List.getElem?_eq_getElem hi⟩
              have HS := Lib.hid (two_twice HT.out hzb i p hp (by omega))
              have HP := Lib.hid hp
              clear hp
              go_wp2_with fail
              refine HS.out.mono ?_
              rintro e wL ⟨rfl, hL, hbL, kL⟩
              have hzL : w.heap.size ≤ wL.heap.size := Nat.le_trans hzb hbL.size
              have HXL := Lib.hid (kL _ _ rfl HBX.out)
              have HBL := Lib.hid (HBW.out.trans hbL)
              have HTL := Lib.hid hL
              have hel : (cutPks (hs ++ [p])).length ≤ 64 := by rw [cutPks_length]; omega
              clear hL hbL kL HS
              go_wp2_with fail
              refine reg32 HTL.out hzL HXL.out hi HP.out hlen (fun _ _ _ _ _ h => h) ?_
              intro ao' c' w' x104 x105 x106 x107 x108 x109 x110 x111 x112 x113 x114 hT hB
              have HTM := Lib.hid hT
              have HBM := Lib.hid (HBL.out.trans hB)
              clear hT hB
              go_wp2_with fail
              go_meet
              exact ⟨cutPks (hs ++ [p]), ao', c', true, rfl, rfl, rfl, hel, HTM.out, HBM.out⟩
          by_cases c4 : ok = 4
          · subst c4
            cases th with
            | false =>
              have hin : oa < 0 ∨ (hs.length : Int) ≤ oa := by have h := HTH.out; simp at h; omega
              have HS := Lib.hid (two_turn_none HT.out hzb oa ob hin)
              clear hin
              go_wp2_with fail
              refine HS.out.mono ?_
              rintro e wL ⟨rfl, hL, hbL, -⟩
              have HTL := Lib.hid hL.forget
              have HBL := Lib.hid (HBW.out.trans hbL)
              clear hL hbL HS
              go_wp2_with fail
              go_meet
              exact ⟨hs, ao, c, false, rfl, rfl, rfl, hlen, HTL.out, HBL.out⟩
            | true =>
              have hin := HTH.out.1 rfl
              obtain ⟨i, rfl⟩ := Int.eq_ofNat_of_zero_le hin.1
              have hi : i < hs.length := by omega
              clear hin
              obtain ⟨p, hp⟩ : ∃ p, hs[i]? = some p := ⟨_, List.getElem?_eq_getElem hi⟩
              have HS := Lib.hid (two_turn HT.out hzb i ob p hp (by omega))
              have HP := Lib.hid hp
              clear hp
              go_wp2_with fail
              refine HS.out.mono ?_
              rintro e wL ⟨rfl, hL, hbL, kL⟩
              have hzL : w.heap.size ≤ wL.heap.size := Nat.le_trans hzb hbL.size
              have HXL := Lib.hid (kL _ _ rfl HBX.out)
              have HBL := Lib.hid (HBW.out.trans hbL)
              obtain ⟨GL, hsL⟩ := hL.slice
              obtain ⟨b2, off2, cap2, he, _, hb2, _⟩ := hsL.at (by omega)
              simp only [Value.slice.injEq] at he
              obtain ⟨rfl, -, rfl⟩ := he
              have hcL := pk_cells hsL HP.out
              have x0 : wL.cell? ⟨b2, off2 + i * 6, none⟩ = some (.int .i64 p.ch) := hcL 0 _ rfl
              have x1 := hcL 1 _ rfl
              have x2 := hcL 2 _ rfl
              have x3 := hcL 3 _ rfl
              have x4 := hcL 4 _ rfl
              have x5 := hcL 5 _ rfl
              have m1 : wL.cell? ⟨wr.heap.size, 1, none⟩ = some (.int .i64 (i : Int)) := cell_at HXL.out rfl
              have hrw : wr.heap.size < wL.heap.size := heap_lt HXL.out
              obtain ⟨wP, hwP⟩ : ∃ wP, wL.alloc (.cells #[.int .i64 p.ch, .int .i64 p.back, .int .i64 p.inc, .int .i64 p.seq, .int .i64 p.ack, .string p.load] 23) = wP := ⟨_, rfl⟩
              have HPB : Hid (wP.heap[wL.heap.size]? = some (pkObj p)) := by rw [← hwP]; exact heap_alloc_new wL (pkObj p)
              have HXP : Hid (wP.heap[wr.heap.size]? = some (.cells #[.int .i64 4, .int .i64 (i : Int), .int .i64 ob, .slice oao on ocap] 56)) := by rw [← hwP]; exact heap_alloc_same HXL.out _
              have m1' : wP.cell? ⟨wr.heap.size, 1, none⟩ = some (.int .i64 (i : Int)) := cell_at HXP.out rfl
              obtain ⟨rs, hrs⟩ : ∃ rs, hs.eraseIdx i = rs := ⟨_, rfl⟩
              have hrl : rs.length = hs.length - 1 := by rw [← hrs]; exact List.length_eraseIdx_of_lt hi
              rw [hrs, ← hrl] at hL
              have hrl1 : rs.length + 1 ≤ hs.length := by omega
              clear hrl
              obtain ⟨m, hm⟩ : ∃ m, turnTo ob rs.length = m := ⟨_, rfl⟩
              have hml : m ≤ rs.length := by rw [← hm]; exact turnTo_le _ _
              rw [hm] at hL
              obtain ⟨q, hq⟩ : ∃ q : Int, (if ob < 0 then 0 else ob) = q := ⟨_, rfl⟩
              have hqm : (if (rs.length : Int) < q then (rs.length : Int) else q) = ((m : Nat) : Int) := by
                rw [← hq, ← hm]; unfold turnTo; split <;> split <;> (try split) <;> omega
              have HQ := Lib.hid hq
              have HQM := Lib.hid hqm
              clear hm hq hqm
              have HTP : Hid (Two w.heap.size (fun k => k = wr.heap.size ∨ k = wL.heap.size) wP w1.heap.size (insPk rs m p) (.slice (some ⟨b2, off2, none⟩) hs.length c) hs) := by
                rw [← hwP]
                exact hL.next ((Below.refl wL.heap.size wL).alloc (Nat.le_refl _) _) (Nat.le_refl _) (fun k hk => by
                  rw [World.size_alloc]
                  rcases hk with hk | hk
                  · exact ⟨.inl hk, by omega⟩
                  · exact ⟨.inr (by omega), by omega⟩)
              have HBP : Hid (Below w.heap.size w wP) := by rw [← hwP]; exact HBL.out.alloc hzL _
              have hzP : w.heap.size ≤ wP.heap.size := HBP.out.size
              have hs2 := two_without HTP.out hzP i hi (by omega)
              rw [hrs] at hs2
              have HS2 := Lib.hid hs2
              clear hL hbL kL HS hcL hsL hrs hs2
              go_wp2_with fail
              try rw [hwP]
              clear hwP
              refine HS2.out.mono ?_
              rintro e wM ⟨v', rfl, hM, hbM, kM⟩
              clear x0 x1 x2 x3 x4 x5 m1 m1' HS2
              obtain ⟨GM, hsM⟩ := hM.slice
              obtain ⟨aoR, cR, rfl, hnR, hcR⟩ := hsM.shape
              have HPM := Lib.hid (kM _ _ (.inr rfl) HPB.out)
              have m2 : wM.cell? ⟨wr.heap.size, 2, none⟩ = some (.int .i64 ob) := cell_at (kM _ _ (.inl rfl) HXP.out) rfl
              have hzM : w.heap.size ≤ wM.heap.size := Nat.le_trans hzP hbM.size
              have HBM : Hid (Below w.heap.size w wM) := HBP.out.trans hbM
              have hpl : wL.heap.size < wM.heap.size := heap_lt HPM.out
              have hMr : Two w.heap.size (fun k => k = wL.heap.size) wM w1.heap.size (insPk rs m p) (.slice aoR rs.length cR) rs := hM.next (Below.refl wM.heap.size wM) (Nat.le_refl _) (fun k hk => ⟨.inl (.inr hk), by omega⟩)
              have HMR := Lib.hid hMr
              have hrl6 : rs.length ≤ 63 := by omega
              have hel : (insPk rs m p).length ≤ 64 := by rw [insPk_length _ _ _ hml]; omega
              have hq := HQ.out
              have hqm := HQM.out
              clear hM hbM kM hsM hMr
              go_wp2_with fail
              refine reg39 HMR.out hzM HPM.out hml hrl6 (fun _ _ _ _ _ h => h) ?_
              clear hq hqm
              intro ao' c' w' x139 x140 x141 x142 x143 x144 x145 x146 x147 x148 x149 x150 hT hB
              have HTM := Lib.hid hT
              have HBB := Lib.hid (HBM.out.trans hB)
              clear hT hB
              go_wp2_with fail
              go_meet
              exact ⟨insPk rs m p, ao', c', true, rfl, rfl, rfl, hel, HTM.out, HBB.out⟩
          by_cases c5 : ok = 5
          · subst c5
            have HS := Lib.hid (two_clear HT.out hzb)
            go_wp2_with fail
            refine HS.out.mono ?_
            rintro e wL ⟨rfl, hL, hbL, -⟩
            have HTL := Lib.hid hL.nil.forget
            have HBL := Lib.hid (HBW.out.trans hbL)
            clear hL hbL HS
            go_wp2_with fail
            go_meet
            exact ⟨[], none, 0, false, rfl, rfl, rfl, by simp, HTL.out, HBL.out⟩
          have e0 : (ok == 0) = false := by simp [c0]
          have e1 : (ok == 1) = false := by simp [c1]
          have e2 : (ok == 2) = false := by simp [c2]
          have e3 : (ok == 3) = false := by simp [c3]
          have e4 : (ok == 4) = false := by simp [c4]
          have e5 : (ok == 5) = false := by simp [c5]
          go_wp2_with fail
          go_meet
          exact ⟨hs, ao, c, false, rfl, rfl, rfl, hlen, HT.out.forget, HBW.out⟩
        case rest =>
          obtain ⟨hs2, ao2, c2, x, rfl, rfl, rfl, hlen2, hH⟩ := hcut
          have HT2 := Lib.hid hH.out.1
          have HBW2 := Lib.hid hH.out.2
          clear hH HT HBW HBX k0 k1 k2 k3
          have hzT := HBW2.out.size
          have HS := Lib.hid (two_len HT2.out)
          go_wp2_with fail
          refine HS.out.mono ?_
          rintro e wl ⟨rfl, rfl⟩
          clear HS
          have HS := Lib.hid (two_all HT2.out hzT (by omega))
          go_wp2_with fail
          refine HS.out.mono ?_
          rintro e wA ⟨u, rfl, hu, hTA, hBA⟩
          obtain ⟨FA, hu⟩ := hu
          obtain ⟨GA, hvA⟩ := hTA.slice
          have HS2 := Lib.hid (same_yes _ _ _ wA hu hvA (by omega))
          have HTA := Lib.hid hTA
          have HBA := Lib.hid (HBW2.out.trans hBA)
          clear hu hvA hTA hBA HS HT2 HBW2
          go_wp2_with fail
          refine HS2.out.mono ?_
          rintro e wS ⟨rfl, hBS⟩
          have HRS : Hid (Two w.heap.size (fun _ => False) wS w1.heap.size hs2 (.slice ao2 hs2.length c2) hs2 ∧ Below w.heap.size w wS) := ⟨(HTA.out.below hBS (Nat.le_refl _)).forget, HBA.out.trans (hBS.mono HBA.out.size)⟩
          clear hBS HS2 HTA HBA hzT
          go_wp2_with fail
          go_roundw
          case rel => exact ⟨j + 1, hs2, ao2, c2, by omega, by go_num, rfl, by omega, HRS⟩
          case measure => simp [intOf]; omega
    · go_wp2_with fail
      go_ret
      exact ⟨rfl, HR.out.2⟩

set_option maxRecDepth 100000 in
set_option maxHeartbeats 1600000 in
theorem wirePlays_let (so : Option Addr) (sb soff n scap : Nat) (os : List OpR) (w : World) (hn : n ≤ maxLen) (hl : os.length = n) (hao : 0 < n → so = some ⟨sb, soff, none⟩) (hb : 0 < n → sb < w.heap.size) (hok : ∀ o ∈ os, OpOk w o)
    (hc : ∀ i o, os[i]? = some o → ∀ j u, (opCells o)[j]? = some u → w.cell? ⟨sb, soff + i * 4 + j, none⟩ = some u) (hbig : Big os) :
    Calls Try.prog 6 #[.slice so n scap] w fun e w' => e = .returned (.bool true) ∧ Below w.heap.size w w' := by
  have HGR : ∀ w' : World, Below w.heap.size w w' → Calls Try.prog 28 #[.slice so n scap] w' fun e w'' => e = .returned (.bool true) ∧ Below w'.heap.size w' w'' := fun w' hb' =>
    great_any so sb soff n scap os w' hn hl hao (fun h => Nat.lt_of_lt_of_le (hb h) hb'.size) (fun o ho => (hok o ho).1) (fun i o ho j u hj => (hb'.cell (by exact hb (by have := (List.getElem?_eq_some_iff.1 ho).1; omega))).trans (hc i o ho j u hj)) true (by simp [hbig])
  have HGRT := Lib.hid HGR
  clear hao hb hl hc hok hbig HGR hn
  go_enter Try.func6, Try.ntmps6
  go_wp2_with fail
  refine (wireAwake w).mono ?_
  rintro e w0 ⟨rfl, hb0⟩
  have HB0 := Lib.hid hb0
  clear hb0
  go_wp2_with fail
  refine (HGRT.out w0 HB0.out).mono ?_
  rintro e w1 ⟨rfl, hb1⟩
  have HB1 : Hid (Below w.heap.size w w1) := HB0.out.trans (hb1.mono HB0.out.size)
  clear hb1 HB0 HGRT
  go_wp2_with fail
  go_ret
  exact ⟨rfl, HB1.out⟩

set_option maxRecDepth 100000 in
theorem wirePlays_lawful : Lawful 6 Try.f6 := by
  intro H enc W base args ds p hval hA hlt hsz
  rw [Try.params6] at hA hval hsz
  obtain ⟨v0, d0, rfl, rfl, h0⟩ := trodAll_one hA
  obtain ⟨os, b, off, ao, n, cap, rfl, _, hn, hl, hok, hao, hb, hc⟩ := sliceArg opCells (OpOk W) 4 (by omega) under_ops cells_op rdOp (hval 0 53 v0 rfl rfl) h0 (weights_in (j := 0) hsz rfl rfl) hlt (fun x hx => hx)
  by_cases hlet : Big os
  · exact wirePlays_let ao b off n cap os W hn hl hao hb hok hc hlet
  · exact wirePlays_law ao b off n cap os W hn hl hao hb hok hc hlet

theorem wirePlays_holds : Rows.WirePlaysSaid :=
  OpenClaim.holds_of_wide 6 Try.f6 rfl rfl rfl rfl rfl rfl rfl ⟨rfl, rfl, rfl, rfl, rfl⟩ rfl rfl rfl rfl rfl (by kernel_rfl) Try.func6 (by kernel_rfl)
    (of_decide_eq_true (by kernel_rfl)) (by unfold Func.isWrapper; rw [if_neg (of_decide_eq_false (by kernel_rfl))]; exact ⟨rfl, rfl⟩)
    (fun os started H enc _ => law_lift (s := Rows.wirePlaysSpec) Try.func6 (by kernel_rfl) rfl rfl rfl (by rw [Try.params6]; intro t ht; simp at ht; exact ht ▸ ⟨by kernel_rfl, of_decide_eq_true (by kernel_rfl)⟩)
      (by rw [Try.params6]; intro H ds hds; match ds, hds with | [d], _ => exact ⟨rfl, rfl, rfl⟩) wirePlays_lawful os started H enc
      (ChangeSpec.witness6 (enc := enc) (C := Try.checked) false ⟨#[], #[.slice none 0 0], []⟩ 8 (by kernel_rfl) (by kernel_rfl) (by kernel_rfl) (by kernel_rfl)))
end Go.Proofs.Ytecpgkcoehnpbaa
