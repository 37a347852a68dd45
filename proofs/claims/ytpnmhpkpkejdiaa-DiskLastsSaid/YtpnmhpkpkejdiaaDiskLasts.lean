/- What lasts stays, byte by byte, through all but Truncate; synced, all lasts; a crash leaves no more than there was: the law DiskLasts answers true at every input. No condition. -/
import Derived.Test.YtpnmhpkpkejdiaaDiskI
namespace Go.Proofs.Ytpnmhpkpkejdiaa
open Go.ChangeShapes Go.WideShapes Go.ChangeAt Go.RowKit

set_option maxRecDepth 100000 in
set_option maxHeartbeats 1600000 in
theorem diskLasts_let (so : Option Addr) (sb soff n scap : Nat) (os : List DOp) (w : World) (hn : n ≤ maxLen) (hl : os.length = n) (hao : 0 < n → so = some ⟨sb, soff, none⟩) (hb : 0 < n → sb < w.heap.size) (hok : ∀ o ∈ os, DOpOk w o)
    (hc : ∀ i o, os[i]? = some o → ∀ j u, (dopCells o)[j]? = some u → w.cell? ⟨sb, soff + i * 5 + j, none⟩ = some u) (hbig : Big14 os) :
    Calls Try.prog 8 #[.slice so n scap] w fun e w' => e = .returned (.bool true) ∧ Below w.heap.size w w' := by
  have HGR : ∀ w' : World, Below w.heap.size w w' → Calls Try.prog 30 #[.slice so n scap] w' fun e w'' => e = .returned (.bool true) ∧ Below w'.heap.size w' w'' := fun w' hb' =>
    great14_any so sb soff n scap os w' hn hl hao (fun h => Nat.lt_of_lt_of_le (hb h) hb'.size) (fun o ho => ⟨(hok o ho).1, (hok o ho).2.1⟩) (fun i o ho j u hj => (hb'.cell (by exact hb (by have := (List.getElem?_eq_some_iff.1 ho).1; omega))).trans (hc i o ho j u hj)) true (by simp [hbig])
  have HGRT := Lib.hid HGR
  clear hao hb hl hc hok hbig HGR hn
  go_enter Try.func8, Try.ntmps8
  go_wp2_with fail
  refine (diskAwake w).mono ?_
  rintro e w0 ⟨rfl, hb0⟩
  have HB0 := Lib.hid hb0
  clear hb0
  go_wp2_with fail
  refine (HGRT.out w0 HB0.out).mono ?_
  rintro e w1 ⟨rfl, hb1⟩
  have z1 : w.heap.size ≤ w1.heap.size := Nat.le_trans HB0.out.size hb1.size
  have HB1 : Hid (Below w.heap.size w w1) := HB0.out.trans (hb1.mono HB0.out.size)
  clear hb1 HB0 HGRT
  go_wp2_with fail
  go_ret
  exact ⟨rfl, HB1.out⟩

set_option maxRecDepth 100000 in
set_option maxHeartbeats 12800000 in
theorem diskLasts_law (so : Option Addr) (sb soff n scap : Nat) (os : List DOp) (w : World) (hn : n ≤ maxLen) (hl : os.length = n) (hao : 0 < n → so = some ⟨sb, soff, none⟩) (hb : 0 < n → sb < w.heap.size) (hok : ∀ o ∈ os, DOpOk w o)
    (hc : ∀ i o, os[i]? = some o → ∀ j u, (dopCells o)[j]? = some u → w.cell? ⟨sb, soff + i * 5 + j, none⟩ = some u) (hbig : ¬ Big14 os) :
    Calls Try.prog 8 #[.slice so n scap] w fun e w' => e = .returned (.bool true) ∧ Below w.heap.size w w' := by
  have HGR : ∀ w' : World, Below w.heap.size w w' → Calls Try.prog 30 #[.slice so n scap] w' fun e w'' => e = .returned (.bool false) ∧ Below w'.heap.size w' w'' := fun w' hb' =>
    great14_any so sb soff n scap os w' hn hl hao (fun h => Nat.lt_of_lt_of_le (hb h) hb'.size) (fun o ho => ⟨(hok o ho).1, (hok o ho).2.1⟩) (fun i o ho j u hj => (hb'.cell (by exact hb (by have := (List.getElem?_eq_some_iff.1 ho).1; omega))).trans (hc i o ho j u hj)) false (by simp [hbig])
  have hn100 : n ≤ 100 := by
    have h : ¬ 100 < os.length := fun h => hbig (.inl h)
    omega
  have hsm : ∀ o ∈ os, o.keep.length ≤ 200 := fun o ho => Nat.le_of_not_lt fun h => hbig (.inr ⟨o, ho, .inr h⟩)
  have HGRT := Lib.hid HGR
  have HAO := Lib.hid hao
  have HB := Lib.hid hb
  have HL := Lib.hid hl
  have HC := Lib.hid hc
  have HOK := Lib.hid hok
  have HSM := Lib.hid hsm
  clear hao hb hl hc hok hsm hbig HGR hn
  go_enter Try.func8, Try.ntmps8
  go_wp2_with fail
  refine (diskAwake w).mono ?_
  rintro e w0 ⟨rfl, hb0⟩
  have HB0 := Lib.hid hb0
  clear hb0
  go_wp2_with fail
  refine (HGRT.out w0 HB0.out).mono ?_
  rintro e w1 ⟨rfl, hb1⟩
  have z1 : w.heap.size ≤ w1.heap.size := Nat.le_trans HB0.out.size hb1.size
  have HB1 : Hid (Below w.heap.size w w1) := HB0.out.trans (hb1.mono HB0.out.size)
  clear hb1 HB0 HGRT
  go_wp2_with fail
  refine (new_any 5000 w1).mono ?_
  rintro e w2 ⟨rfl, hp2, hb2⟩
  obtain ⟨g, hg⟩ : ∃ g, w1.heap.size = g := ⟨_, rfl⟩
  have HR0 : Hid (DiskAt w2 (fun k => w.heap.size ≤ k) g (dst0 5000) ∧ Below w.heap.size w w2) := by
    rw [← hg]
    exact ⟨hp2.mono (fun k _ hk => Nat.le_trans z1 hk), HB1.out.trans (hb2.mono z1)⟩
  try rw [hg]
  clear hp2 hb2 HB1 hg
  go_wp2_with fail
  go_loopw [4, 17] (fun t i wr => ∃ (j : Nat) (s : DSt) (y : ByteArray), j ≤ n ∧ i = .int .i64 j ∧ t = .string y ∧ Hid (DOk j s ∧ s.cap = 5000 ∧ y.data.toList <+: s.lasts.data.toList) ∧ Hid (DiskAt wr (fun k => w.heap.size ≤ k) g s) ∧ Hid (Below w.heap.size w wr)) (fun _ i _ => n - (intOf i).toNat)
  case atStart => exact ⟨0, dst0 5000, ByteArray.empty, by omega, rfl, rfl, ⟨dst0_ok 5000, rfl, List.nil_prefix⟩, HR0.out.1, HR0.out.2⟩
  case round =>
    obtain ⟨j, s, y, hj, rfl, rfl, HP, HD, HW⟩ := hrel
    clear HR0
    by_cases hlt : j < n
    · obtain rfl := HAO.out (by omega)
      obtain ⟨⟨ok, on, os', oko, okc, okp, oc⟩, ho⟩ : ∃ o, os[j]? = some o := ⟨_, List.getElem?_eq_getElem (by rw [HL.out]; exact hlt)⟩
      have hc : ∀ k u, (dopCells ⟨ok, on, os', oko, okc, okp, oc⟩)[k]? = some u → wr.cell? ⟨sb, soff + j * 5 + k, none⟩ = some u := fun k u hk => (HW.out.cell (by exact HB.out (by omega))).trans (HC.out j _ ho k u hk)
      have q0 : wr.cell? ⟨sb, soff + j * 5, none⟩ = some (.int .i64 ok) := hc 0 _ rfl
      have q1 : wr.cell? ⟨sb, soff + j * 5 + 1, none⟩ = some (.int .i64 on) := hc 1 _ rfl
      have q2 : wr.cell? ⟨sb, soff + j * 5 + 2, none⟩ = some (.string os') := hc 2 _ rfl
      have q3 : wr.cell? ⟨sb, soff + j * 5 + 3, none⟩ = some (.slice oko okp.length okc) := hc 3 _ rfl
      have q4 : wr.cell? ⟨sb, soff + j * 5 + 4, none⟩ = some (.int .i64 oc) := hc 4 _ rfl
      obtain ⟨hs1, hs2, hs3, hs4, hs5, hs6⟩ := HOK.out _ (List.mem_of_getElem? ho)
      have hkl := HSM.out _ (List.mem_of_getElem? ho)
      simp only at hs1 hs2 hs3 hs4 hs5 hs6 hkl
      have hz := HW.out.size
      clear hc ho
      obtain ⟨wb, hwb⟩ : ∃ wb, wr.alloc (.cells #[.int .i64 ok, .int .i64 on, .string os', .slice oko okp.length okc, .int .i64 oc] 50) = wb := ⟨_, rfl⟩
      have hbx : wb.heap[wr.heap.size]? = some (.cells #[.int .i64 ok, .int .i64 on, .string os', .slice oko okp.length okc, .int .i64 oc] 50) := by rw [← hwb]; exact heap_alloc_new wr _
      have HDB : Hid (DiskAt wb (fun k => w.heap.size ≤ k ∧ k < wr.heap.size) g s) := by rw [← hwb]; exact (HD.out.mono (fun k a b => ⟨b, a⟩)).below ((Below.refl wr.heap.size wr).alloc (Nat.le_refl _) _) (Nat.le_refl _)
      have HBW : Hid (Below w.heap.size w wb) := by rw [← hwb]; exact HW.out.alloc hz _
      obtain ⟨pok0, pcp0, ppx0⟩ := HP.out
      have pal0 := pok0.all
      have ppc0 := pok0.pieces
      rw [pcp0] at pal0
      have k0 : wb.cell? ⟨wr.heap.size, 0, none⟩ = some (.int .i64 ok) := cell_at hbx rfl
      have k1 : wb.cell? ⟨wr.heap.size, 1, none⟩ = some (.int .i64 on) := cell_at hbx rfl
      have k2 : wb.cell? ⟨wr.heap.size, 2, none⟩ = some (.string os') := cell_at hbx rfl
      have k3 : wb.cell? ⟨wr.heap.size, 3, none⟩ = some (.slice oko okp.length okc) := cell_at hbx rfl
      have k4 : wb.cell? ⟨wr.heap.size, 4, none⟩ = some (.int .i64 oc) := cell_at hbx rfl
      have hXb : wr.heap.size < wb.heap.size := heap_lt hbx
      have hzb := HBW.out.size
      have HBX := Lib.hid hbx
      have hln := len_any g s _ wb HDB.out (by omega) (by omega)
      obtain ⟨was, hwas⟩ : ∃ x, s.all.length = x := ⟨_, rfl⟩
      rw [hwas] at hln
      have hw5 : was ≤ 5000 := by omega
      have HWAS := Lib.hid hwas
      have HLN := Lib.hid hln
      clear hbx hln hwas pok0 pcp0 ppx0 pal0 ppc0 hs2 hs4 hs6 HD HW
      have HBL : Hid (∀ v : World, Below wb.heap.size wb v → Below w.heap.size w v ∧ v.heap[wr.heap.size]? = some (.cells #[.int .i64 ok, .int .i64 on, .string os', .slice oko okp.length okc, .int .i64 oc] 50)) := fun v hv => ⟨HBW.out.trans (hv.mono hzb), below_heap hv HBX.out hXb⟩
      by_cases e0 : ok = 0
      · subst e0
        go_wp2_with fail
        try rw [hwb]
        refine HLN.out.mono ?_
        rintro e wc ⟨rfl, hbc⟩
        clear hwb
        have hxc := (HBL.out wc hbc).2
        have HWC := Lib.hid (HBL.out wc hbc).1
        have HDC := Lib.hid (HDB.out.below hbc (Nat.le_refl _))
        have hzc := hbc.size
        have HXC := Lib.hid hxc
        have c0 : wc.cell? ⟨wr.heap.size, 0, none⟩ = some (.int .i64 0) := cell_at hxc rfl
        have c1 : wc.cell? ⟨wr.heap.size, 1, none⟩ = some (.int .i64 on) := cell_at hxc rfl
        have c2 : wc.cell? ⟨wr.heap.size, 2, none⟩ = some (.string os') := cell_at hxc rfl
        have c3 : wc.cell? ⟨wr.heap.size, 3, none⟩ = some (.slice oko okp.length okc) := cell_at hxc rfl
        have c4 : wc.cell? ⟨wr.heap.size, 4, none⟩ = some (.int .i64 oc) := cell_at hxc rfl
        clear hbc hxc
        have HS2 : Hid (DOk (j + 1) (s.append os').2 ∧ (s.append os').2.cap = 5000 ∧ y.data.toList <+: (s.append os').2.lasts.data.toList) := ⟨append_ok HP.out.1 os', (append_cap s os').trans HP.out.2.1, HP.out.2.2.trans (append_stays s os')⟩
        have HK := Lib.hid (append_any g j s _ wc os' HDC.out HP.out.1 (by omega) hs1)
        generalize (s.append os').1 = code at *
        generalize (s.append os').2 = s2 at *
        go_wp2_with fail
        refine HK.out.mono ?_
        rintro e w3 ⟨rfl, h3, ch3⟩
        clear c0 c1 c2 c3 c4 k0 k1 k2 k3 k4 q0 q1 q2 q3 q4 HLN HBL HDB HBW HBX HXC
        have HD3 : Hid (DiskAt w3 (fun k => w.heap.size ≤ k) g s2) := h3.mono fun k _ a => by
          rcases a with ⟨⟨a, _⟩, _⟩ | a
          · exact a
          · exact Nat.le_trans (Nat.le_trans hzb hzc) a
        have HW3 : Hid (Below w.heap.size w w3) := HWC.out.trans (ch3.below (Nat.le_trans hzb hzc) (fun i hi a => by omega))
        clear h3 ch3

        have hdn := down_any g s2 _ w3 HD3.out
        cases hdc : s2.down with
        | true =>
          rw [hdc] at hdn
          have HDN := Lib.hid hdn
          clear hdn hdc
          go_wp2_with fail
          refine HDN.out.mono ?_
          rintro e v1 ⟨rfl, rfl⟩
          go_wp2_with fail
          go_roundw
          case rel => exact ⟨j + 1, s2, y, by omega, by go_num, rfl, HS2.out, HD3.out, HW3.out⟩
          case measure => simp [intOf]; omega
        | false =>
          rw [hdc] at hdn
          have HDN := Lib.hid hdn
          obtain ⟨pok, pcp, ppx⟩ := HS2.out
          have pal := pok.all
          have ppc := pok.pieces
          rw [pcp] at pal
          have hrd : Calls Try.prog 27 #[.pointer (some ⟨g, 0, none⟩)] w3 fun e w' => e = .returned (.tuple #[.string s2.bytes, .int .i64 0]) ∧ Below w3.heap.size w3 w' := read_up g s2 _ w3 HD3.out hdc (by omega) (by omega)
          have HRD := Lib.hid hrd
          have hpre := lasts_cut s2 y ppx
          have hlas := lasts_all s2
          have hyl : y.size ≤ s2.lasts.size := lasts_le s2 y ppx
          have hlb : s2.lasts.size ≤ s2.bytes.size := bytes_ge s2
          have hbb : s2.bytes.size ≤ 5000 := by rw [bytes_size]; omega
          have HNX : Hid (DOk (j + 1) s2 ∧ s2.cap = 5000 ∧ s2.lasts.data.toList <+: s2.lasts.data.toList) := ⟨pok, pcp, List.prefix_rfl⟩
          clear hrd hdn hdc pok pcp ppx pal ppc
          have HLZ : Hid (∀ v : World, DiskAt v (fun k => w.heap.size ≤ k) g s2 → Calls Try.prog 29 #[.pointer (some ⟨g, 0, none⟩)] v fun e w' => e = .returned (.int .i64 (s2.lasts.size : Nat)) ∧ v = w') := fun v h => lasts_any g s2 _ v h
          obtain ⟨BY, hBY⟩ : ∃ b, s2.bytes = b := ⟨_, rfl⟩
          obtain ⟨LA, hLA⟩ : ∃ b, s2.lasts = b := ⟨_, rfl⟩
          rw [hBY] at HRD hpre hlas hlb hbb
          rw [hLA] at hlas hyl hlb HLZ
          have HBY := Lib.hid hBY
          have HLA := Lib.hid hLA
          clear hBY hLA
          go_wp2_with fail
          refine HDN.out.mono ?_
          rintro e v1 ⟨rfl, rfl⟩
          go_wp2_with fail
          refine HRD.out.mono ?_
          rintro e v2 ⟨rfl, hb2⟩
          have HV2 : Hid (Below w.heap.size w v2) := HW3.out.trans (hb2.mono HW3.out.size)
          have HD2 := Lib.hid (HD3.out.below hb2 (Nat.le_refl _))
          have HL2 := Lib.hid (HLZ.out v2 HD2.out)
          clear hb2 HRD HDN
          go_wp2_with fail
          refine HL2.out.mono ?_
          rintro e v3 ⟨rfl, rfl⟩
          go_wp2_with fail
          refine HL2.out.mono ?_
          rintro e v3 ⟨rfl, rfl⟩
          go_wp2_with fail
          go_roundw
          case rel => exact ⟨j + 1, s2, s2.lasts, by omega, by go_num, by rw [HLA.out], HNX.out, HD2.out, HV2.out⟩
          case measure => simp [intOf]; omega
      by_cases e1 : ok = 1
      · subst e1
        go_wp2_with fail
        try rw [hwb]
        refine HLN.out.mono ?_
        rintro e wc ⟨rfl, hbc⟩
        clear hwb
        have hxc := (HBL.out wc hbc).2
        have HWC := Lib.hid (HBL.out wc hbc).1
        have HDC := Lib.hid (HDB.out.below hbc (Nat.le_refl _))
        have hzc := hbc.size
        have HXC := Lib.hid hxc
        have c0 : wc.cell? ⟨wr.heap.size, 0, none⟩ = some (.int .i64 1) := cell_at hxc rfl
        have c1 : wc.cell? ⟨wr.heap.size, 1, none⟩ = some (.int .i64 on) := cell_at hxc rfl
        have c2 : wc.cell? ⟨wr.heap.size, 2, none⟩ = some (.string os') := cell_at hxc rfl
        have c3 : wc.cell? ⟨wr.heap.size, 3, none⟩ = some (.slice oko okp.length okc) := cell_at hxc rfl
        have c4 : wc.cell? ⟨wr.heap.size, 4, none⟩ = some (.int .i64 oc) := cell_at hxc rfl
        clear hbc hxc
        have HS2 : Hid (DOk (j + 1) s.sync.2 ∧ s.sync.2.cap = 5000 ∧ y.data.toList <+: s.sync.2.lasts.data.toList) := ⟨(sync_ok HP.out.1).mono (by omega), (sync_cap s).trans HP.out.2.1, HP.out.2.2.trans (sync_stays s)⟩
        have HK := Lib.hid (sync_any g j s _ wc HDC.out HP.out.1 (by omega))
        have hz0 := sync_zero s
        generalize s.sync.1 = code at *
        generalize s.sync.2 = s2 at *
        by_cases hcz : code = 0
        · have hz1 := hz0 hcz
          have HZ1 := Lib.hid hz1
          subst hcz
          clear hz0 hz1
          go_wp2_with fail
          refine HK.out.mono ?_
          rintro e w3 ⟨rfl, h3, ch3⟩
          have HD3 : Hid (DiskAt w3 (fun k => w.heap.size ≤ k) g s2) := h3.mono fun k _ a => by
            rcases a with ⟨⟨a, _⟩, _⟩ | a
            · exact a
            · exact Nat.le_trans (Nat.le_trans hzb hzc) a
          have HW3 : Hid (Below w.heap.size w w3) := HWC.out.trans (ch3.below (Nat.le_trans hzb hzc) (fun i hi a => by omega))
          clear h3 ch3
          have hla := lasts_any g s2 _ w3 HD3.out
          rw [HZ1.out] at hla
          have hle := len_any g s2 _ w3 HD3.out (by have := HS2.out.1.all; have := HS2.out.2.1; omega) (by have := HS2.out.1.pieces; omega)
          generalize s2.all.length = q at *
          have HLA9 := Lib.hid hla
          have HLE9 := Lib.hid hle
          clear hla hle HZ1
          go_wp2_with fail
          refine HLA9.out.mono ?_
          rintro e w4 ⟨rfl, rfl⟩
          go_wp2_with fail
          refine HLE9.out.mono ?_
          rintro e w5 ⟨rfl, hb5⟩
          have HD5 := Lib.hid (HD3.out.below hb5 (Nat.le_refl _))
          have HW5 : Hid (Below w.heap.size w w5) := HW3.out.trans (hb5.mono HW3.out.size)
          clear hb5 HLA9 HLE9
          clear c0 c1 c2 c3 c4 k0 k1 k2 k3 k4 q0 q1 q2 q3 q4 HLN HBL HDB HBW HBX HXC

          have hdn := down_any g s2 _ w5 HD5.out
          cases hdc : s2.down with
          | true =>
            rw [hdc] at hdn
            have HDN := Lib.hid hdn
            clear hdn hdc
            go_wp2_with fail
            refine HDN.out.mono ?_
            rintro e v1 ⟨rfl, rfl⟩
            go_wp2_with fail
            go_roundw
            case rel => exact ⟨j + 1, s2, y, by omega, by go_num, rfl, HS2.out, HD5.out, HW5.out⟩
            case measure => simp [intOf]; omega
          | false =>
            rw [hdc] at hdn
            have HDN := Lib.hid hdn
            obtain ⟨pok, pcp, ppx⟩ := HS2.out
            have pal := pok.all
            have ppc := pok.pieces
            rw [pcp] at pal
            have hrd : Calls Try.prog 27 #[.pointer (some ⟨g, 0, none⟩)] w5 fun e w' => e = .returned (.tuple #[.string s2.bytes, .int .i64 0]) ∧ Below w5.heap.size w5 w' := read_up g s2 _ w5 HD5.out hdc (by omega) (by omega)
            have HRD := Lib.hid hrd
            have hpre := lasts_cut s2 y ppx
            have hlas := lasts_all s2
            have hyl : y.size ≤ s2.lasts.size := lasts_le s2 y ppx
            have hlb : s2.lasts.size ≤ s2.bytes.size := bytes_ge s2
            have hbb : s2.bytes.size ≤ 5000 := by rw [bytes_size]; omega
            have HNX : Hid (DOk (j + 1) s2 ∧ s2.cap = 5000 ∧ s2.lasts.data.toList <+: s2.lasts.data.toList) := ⟨pok, pcp, List.prefix_rfl⟩
            clear hrd hdn hdc pok pcp ppx pal ppc
            have HLZ : Hid (∀ v : World, DiskAt v (fun k => w.heap.size ≤ k) g s2 → Calls Try.prog 29 #[.pointer (some ⟨g, 0, none⟩)] v fun e w' => e = .returned (.int .i64 (s2.lasts.size : Nat)) ∧ v = w') := fun v h => lasts_any g s2 _ v h
            obtain ⟨BY, hBY⟩ : ∃ b, s2.bytes = b := ⟨_, rfl⟩
            obtain ⟨LA, hLA⟩ : ∃ b, s2.lasts = b := ⟨_, rfl⟩
            rw [hBY] at HRD hpre hlas hlb hbb
            rw [hLA] at hlas hyl hlb HLZ
            have HBY := Lib.hid hBY
            have HLA := Lib.hid hLA
            clear hBY hLA
            go_wp2_with fail
            refine HDN.out.mono ?_
            rintro e v1 ⟨rfl, rfl⟩
            go_wp2_with fail
            refine HRD.out.mono ?_
            rintro e v2 ⟨rfl, hb2⟩
            have HV2 : Hid (Below w.heap.size w v2) := HW5.out.trans (hb2.mono HW5.out.size)
            have HD2 := Lib.hid (HD5.out.below hb2 (Nat.le_refl _))
            have HL2 := Lib.hid (HLZ.out v2 HD2.out)
            clear hb2 HRD HDN
            go_wp2_with fail
            refine HL2.out.mono ?_
            rintro e v3 ⟨rfl, rfl⟩
            go_wp2_with fail
            refine HL2.out.mono ?_
            rintro e v3 ⟨rfl, rfl⟩
            go_wp2_with fail
            go_roundw
            case rel => exact ⟨j + 1, s2, s2.lasts, by omega, by go_num, by rw [HLA.out], HNX.out, HD2.out, HV2.out⟩
            case measure => simp [intOf]; omega
        · have hcb : (code == 0) = false := by rw [beq_eq_false_iff_ne]; exact hcz
          clear hz0 hcz
          go_wp2_with fail
          refine HK.out.mono ?_
          rintro e w3 ⟨rfl, h3, ch3⟩
          clear c0 c1 c2 c3 c4 k0 k1 k2 k3 k4 q0 q1 q2 q3 q4 HLN HBL HDB HBW HBX HXC
          have HD3 : Hid (DiskAt w3 (fun k => w.heap.size ≤ k) g s2) := h3.mono fun k _ a => by
            rcases a with ⟨⟨a, _⟩, _⟩ | a
            · exact a
            · exact Nat.le_trans (Nat.le_trans hzb hzc) a
          have HW3 : Hid (Below w.heap.size w w3) := HWC.out.trans (ch3.below (Nat.le_trans hzb hzc) (fun i hi a => by omega))
          clear h3 ch3

          have hdn := down_any g s2 _ w3 HD3.out
          cases hdc : s2.down with
          | true =>
            rw [hdc] at hdn
            have HDN := Lib.hid hdn
            clear hdn hdc
            go_wp2_with fail
            refine HDN.out.mono ?_
            rintro e v1 ⟨rfl, rfl⟩
            go_wp2_with fail
            go_roundw
            case rel => exact ⟨j + 1, s2, y, by omega, by go_num, rfl, HS2.out, HD3.out, HW3.out⟩
            case measure => simp [intOf]; omega
          | false =>
            rw [hdc] at hdn
            have HDN := Lib.hid hdn
            obtain ⟨pok, pcp, ppx⟩ := HS2.out
            have pal := pok.all
            have ppc := pok.pieces
            rw [pcp] at pal
            have hrd : Calls Try.prog 27 #[.pointer (some ⟨g, 0, none⟩)] w3 fun e w' => e = .returned (.tuple #[.string s2.bytes, .int .i64 0]) ∧ Below w3.heap.size w3 w' := read_up g s2 _ w3 HD3.out hdc (by omega) (by omega)
            have HRD := Lib.hid hrd
            have hpre := lasts_cut s2 y ppx
            have hlas := lasts_all s2
            have hyl : y.size ≤ s2.lasts.size := lasts_le s2 y ppx
            have hlb : s2.lasts.size ≤ s2.bytes.size := bytes_ge s2
            have hbb : s2.bytes.size ≤ 5000 := by rw [bytes_size]; omega
            have HNX : Hid (DOk (j + 1) s2 ∧ s2.cap = 5000 ∧ s2.lasts.data.toList <+: s2.lasts.data.toList) := ⟨pok, pcp, List.prefix_rfl⟩
            clear hrd hdn hdc pok pcp ppx pal ppc
            have HLZ : Hid (∀ v : World, DiskAt v (fun k => w.heap.size ≤ k) g s2 → Calls Try.prog 29 #[.pointer (some ⟨g, 0, none⟩)] v fun e w' => e = .returned (.int .i64 (s2.lasts.size : Nat)) ∧ v = w') := fun v h => lasts_any g s2 _ v h
            obtain ⟨BY, hBY⟩ : ∃ b, s2.bytes = b := ⟨_, rfl⟩
            obtain ⟨LA, hLA⟩ : ∃ b, s2.lasts = b := ⟨_, rfl⟩
            rw [hBY] at HRD hpre hlas hlb hbb
            rw [hLA] at hlas hyl hlb HLZ
            have HBY := Lib.hid hBY
            have HLA := Lib.hid hLA
            clear hBY hLA
            go_wp2_with fail
            refine HDN.out.mono ?_
            rintro e v1 ⟨rfl, rfl⟩
            go_wp2_with fail
            refine HRD.out.mono ?_
            rintro e v2 ⟨rfl, hb2⟩
            have HV2 : Hid (Below w.heap.size w v2) := HW3.out.trans (hb2.mono HW3.out.size)
            have HD2 := Lib.hid (HD3.out.below hb2 (Nat.le_refl _))
            have HL2 := Lib.hid (HLZ.out v2 HD2.out)
            clear hb2 HRD HDN
            go_wp2_with fail
            refine HL2.out.mono ?_
            rintro e v3 ⟨rfl, rfl⟩
            go_wp2_with fail
            refine HL2.out.mono ?_
            rintro e v3 ⟨rfl, rfl⟩
            go_wp2_with fail
            go_roundw
            case rel => exact ⟨j + 1, s2, s2.lasts, by omega, by go_num, by rw [HLA.out], HNX.out, HD2.out, HV2.out⟩
            case measure => simp [intOf]; omega
      by_cases e3 : ok = 3
      · subst e3
        go_wp2_with fail
        try rw [hwb]
        refine HLN.out.mono ?_
        rintro e wc ⟨rfl, hbc⟩
        clear hwb
        have hxc := (HBL.out wc hbc).2
        have HWC := Lib.hid (HBL.out wc hbc).1
        have HDC := Lib.hid (HDB.out.below hbc (Nat.le_refl _))
        have hzc := hbc.size
        have HXC := Lib.hid hxc
        have c0 : wc.cell? ⟨wr.heap.size, 0, none⟩ = some (.int .i64 3) := cell_at hxc rfl
        have c1 : wc.cell? ⟨wr.heap.size, 1, none⟩ = some (.int .i64 on) := cell_at hxc rfl
        have c2 : wc.cell? ⟨wr.heap.size, 2, none⟩ = some (.string os') := cell_at hxc rfl
        have c3 : wc.cell? ⟨wr.heap.size, 3, none⟩ = some (.slice oko okp.length okc) := cell_at hxc rfl
        have c4 : wc.cell? ⟨wr.heap.size, 4, none⟩ = some (.int .i64 oc) := cell_at hxc rfl
        clear hbc hxc
        have HS2 : Hid (DOk (j + 1) (s.fuse on) ∧ (s.fuse on).cap = 5000 ∧ y.data.toList <+: (s.fuse on).lasts.data.toList) := ⟨(fuse_ok HP.out.1 on hs5.2).mono (by omega), HP.out.2.1, HP.out.2.2⟩
        have HK := Lib.hid (fuse_any g s _ wc on HDC.out)
        generalize s.fuse on = s2 at *
        go_wp2_with fail
        refine HK.out.mono ?_
        rintro e w3 ⟨rfl, h3, ch3⟩
        have HD3 : Hid (DiskAt w3 (fun k => w.heap.size ≤ k) g s2) := h3.mono fun k _ a => a.1
        have HW3 : Hid (Below w.heap.size w w3) := HWC.out.trans (ch3.below (Nat.le_trans hzb hzc) (fun i hi a => by omega))
        clear h3 ch3
        clear c0 c1 c2 c3 c4 k0 k1 k2 k3 k4 q0 q1 q2 q3 q4 HLN HBL HDB HBW HBX HXC

        have hdn := down_any g s2 _ w3 HD3.out
        cases hdc : s2.down with
        | true =>
          rw [hdc] at hdn
          have HDN := Lib.hid hdn
          clear hdn hdc
          go_wp2_with fail
          refine HDN.out.mono ?_
          rintro e v1 ⟨rfl, rfl⟩
          go_wp2_with fail
          go_roundw
          case rel => exact ⟨j + 1, s2, y, by omega, by go_num, rfl, HS2.out, HD3.out, HW3.out⟩
          case measure => simp [intOf]; omega
        | false =>
          rw [hdc] at hdn
          have HDN := Lib.hid hdn
          obtain ⟨pok, pcp, ppx⟩ := HS2.out
          have pal := pok.all
          have ppc := pok.pieces
          rw [pcp] at pal
          have hrd : Calls Try.prog 27 #[.pointer (some ⟨g, 0, none⟩)] w3 fun e w' => e = .returned (.tuple #[.string s2.bytes, .int .i64 0]) ∧ Below w3.heap.size w3 w' := read_up g s2 _ w3 HD3.out hdc (by omega) (by omega)
          have HRD := Lib.hid hrd
          have hpre := lasts_cut s2 y ppx
          have hlas := lasts_all s2
          have hyl : y.size ≤ s2.lasts.size := lasts_le s2 y ppx
          have hlb : s2.lasts.size ≤ s2.bytes.size := bytes_ge s2
          have hbb : s2.bytes.size ≤ 5000 := by rw [bytes_size]; omega
          have HNX : Hid (DOk (j + 1) s2 ∧ s2.cap = 5000 ∧ s2.lasts.data.toList <+: s2.lasts.data.toList) := ⟨pok, pcp, List.prefix_rfl⟩
          clear hrd hdn hdc pok pcp ppx pal ppc
          have HLZ : Hid (∀ v : World, DiskAt v (fun k => w.heap.size ≤ k) g s2 → Calls Try.prog 29 #[.pointer (some ⟨g, 0, none⟩)] v fun e w' => e = .returned (.int .i64 (s2.lasts.size : Nat)) ∧ v = w') := fun v h => lasts_any g s2 _ v h
          obtain ⟨BY, hBY⟩ : ∃ b, s2.bytes = b := ⟨_, rfl⟩
          obtain ⟨LA, hLA⟩ : ∃ b, s2.lasts = b := ⟨_, rfl⟩
          rw [hBY] at HRD hpre hlas hlb hbb
          rw [hLA] at hlas hyl hlb HLZ
          have HBY := Lib.hid hBY
          have HLA := Lib.hid hLA
          clear hBY hLA
          go_wp2_with fail
          refine HDN.out.mono ?_
          rintro e v1 ⟨rfl, rfl⟩
          go_wp2_with fail
          refine HRD.out.mono ?_
          rintro e v2 ⟨rfl, hb2⟩
          have HV2 : Hid (Below w.heap.size w v2) := HW3.out.trans (hb2.mono HW3.out.size)
          have HD2 := Lib.hid (HD3.out.below hb2 (Nat.le_refl _))
          have HL2 := Lib.hid (HLZ.out v2 HD2.out)
          clear hb2 HRD HDN
          go_wp2_with fail
          refine HL2.out.mono ?_
          rintro e v3 ⟨rfl, rfl⟩
          go_wp2_with fail
          refine HL2.out.mono ?_
          rintro e v3 ⟨rfl, rfl⟩
          go_wp2_with fail
          go_roundw
          case rel => exact ⟨j + 1, s2, s2.lasts, by omega, by go_num, by rw [HLA.out], HNX.out, HD2.out, HV2.out⟩
          case measure => simp [intOf]; omega
      by_cases e4 : ok = 4
      · subst e4
        go_wp2_with fail
        try rw [hwb]
        refine HLN.out.mono ?_
        rintro e wc ⟨rfl, hbc⟩
        clear hwb
        have hxc := (HBL.out wc hbc).2
        have HWC := Lib.hid (HBL.out wc hbc).1
        have HDC := Lib.hid (HDB.out.below hbc (Nat.le_refl _))
        have hzc := hbc.size
        have HXC := Lib.hid hxc
        have c0 : wc.cell? ⟨wr.heap.size, 0, none⟩ = some (.int .i64 4) := cell_at hxc rfl
        have c1 : wc.cell? ⟨wr.heap.size, 1, none⟩ = some (.int .i64 on) := cell_at hxc rfl
        have c2 : wc.cell? ⟨wr.heap.size, 2, none⟩ = some (.string os') := cell_at hxc rfl
        have c3 : wc.cell? ⟨wr.heap.size, 3, none⟩ = some (.slice oko okp.length okc) := cell_at hxc rfl
        have c4 : wc.cell? ⟨wr.heap.size, 4, none⟩ = some (.int .i64 oc) := cell_at hxc rfl
        clear hbc hxc
        have hbk := (hs3.below (HWC.out) )
        have HS2 : Hid (DOk (j + 1) (s.crash okp oc) ∧ (s.crash okp oc).cap = 5000 ∧ y.data.toList <+: (s.crash okp oc).lasts.data.toList) := ⟨(crash_ok HP.out.1 okp oc).mono (by omega), HP.out.2.1, HP.out.2.2.trans (crash_stays s okp oc)⟩
        have HK := Lib.hid (crash_any g j s _ wc okp oko okc oc HDC.out HP.out.1 (by omega) hbk (by omega))
        have hcl : (s.crash okp oc).all.length ≤ was := by rw [← HWAS.out]; exact crash_len s okp oc
        have hcz : (s.crash okp oc).lasts.size = (s.crash okp oc).all.length := crash_lasts s okp oc
        have hcd : (s.crash okp oc).down = false := rfl
        generalize s.crash okp oc = s2 at *
        have HCZ := Lib.hid hcz
        have HCD := Lib.hid hcd
        clear hcz hcd hbk
        go_wp2_with fail
        refine HK.out.mono ?_
        rintro e w3 ⟨rfl, h3, ch3⟩
        have HD3 : Hid (DiskAt w3 (fun k => w.heap.size ≤ k) g s2) := h3.mono fun k _ a => by
          rcases a with ⟨⟨a, _⟩, _⟩ | a
          · exact a
          · exact Nat.le_trans (Nat.le_trans hzb hzc) a
        have HW3 : Hid (Below w.heap.size w w3) := HWC.out.trans (ch3.below (Nat.le_trans hzb hzc) (fun i hi a => by omega))
        clear h3 ch3
        have hle := len_any g s2 _ w3 HD3.out (by omega) (by have := HS2.out.1.pieces; omega)
        have HLEN : Hid (∀ v : World, DiskAt v (fun k => w.heap.size ≤ k) g s2 → Calls Try.prog 28 #[.pointer (some ⟨g, 0, none⟩)] v fun e w' => e = .returned (.int .i64 (s2.all.length : Nat)) ∧ Below v.heap.size v w') := fun v h => len_any g s2 _ v h (by omega) (by have := HS2.out.1.pieces; omega)
        have HLAS : Hid (∀ v : World, DiskAt v (fun k => w.heap.size ≤ k) g s2 → Calls Try.prog 29 #[.pointer (some ⟨g, 0, none⟩)] v fun e w' => e = .returned (.int .i64 (s2.all.length : Nat)) ∧ v = w') := fun v h => by
          have := lasts_any g s2 _ v h
          rw [HCZ.out] at this
          exact this
        clear hle
        obtain ⟨q, hq⟩ : ∃ q, s2.all.length = q := ⟨_, rfl⟩
        rw [hq] at HLEN HLAS hcl
        clear hq
        have dq : decide (was < q) = false := by simp; omega
        have HL1 := Lib.hid (HLEN.out w3 HD3.out)
        go_wp2_with fail
        refine HL1.out.mono ?_
        rintro e w4 ⟨rfl, hb4⟩
        have HD4 := Lib.hid (HD3.out.below hb4 (Nat.le_refl _))
        have HW4 : Hid (Below w.heap.size w w4) := HW3.out.trans (hb4.mono HW3.out.size)
        have HL2 := Lib.hid (HLAS.out w4 HD4.out)
        have HL3 := Lib.hid (HLEN.out w4 HD4.out)
        clear hb4 HL1
        go_wp2_with fail
        refine HL2.out.mono ?_
        rintro e w5 ⟨rfl, rfl⟩
        go_wp2_with fail
        refine HL3.out.mono ?_
        rintro e w5 ⟨rfl, hb5⟩
        have HD5 := Lib.hid (HD4.out.below hb5 (Nat.le_refl _))
        have HW5 : Hid (Below w.heap.size w w5) := HW4.out.trans (hb5.mono HW4.out.size)
        have hdn5 := down_any g s2 _ w5 HD5.out
        rw [HCD.out] at hdn5
        have HDN5 := Lib.hid hdn5
        clear hb5 HL2 HL3 hdn5 HLEN HLAS dq
        go_wp2_with fail
        refine HDN5.out.mono ?_
        rintro e w6 ⟨rfl, rfl⟩
        clear c0 c1 c2 c3 c4 k0 k1 k2 k3 k4 q0 q1 q2 q3 q4 HLN HBL HDB HBW HBX HXC

        have hdn := down_any g s2 _ w5 HD5.out
        cases hdc : s2.down with
        | true =>
          rw [hdc] at hdn
          have HDN := Lib.hid hdn
          clear hdn hdc
          go_wp2_with fail
          refine HDN.out.mono ?_
          rintro e v1 ⟨rfl, rfl⟩
          go_wp2_with fail
          go_roundw
          case rel => exact ⟨j + 1, s2, y, by omega, by go_num, rfl, HS2.out, HD5.out, HW5.out⟩
          case measure => simp [intOf]; omega
        | false =>
          rw [hdc] at hdn
          have HDN := Lib.hid hdn
          obtain ⟨pok, pcp, ppx⟩ := HS2.out
          have pal := pok.all
          have ppc := pok.pieces
          rw [pcp] at pal
          have hrd : Calls Try.prog 27 #[.pointer (some ⟨g, 0, none⟩)] w5 fun e w' => e = .returned (.tuple #[.string s2.bytes, .int .i64 0]) ∧ Below w5.heap.size w5 w' := read_up g s2 _ w5 HD5.out hdc (by omega) (by omega)
          have HRD := Lib.hid hrd
          have hpre := lasts_cut s2 y ppx
          have hlas := lasts_all s2
          have hyl : y.size ≤ s2.lasts.size := lasts_le s2 y ppx
          have hlb : s2.lasts.size ≤ s2.bytes.size := bytes_ge s2
          have hbb : s2.bytes.size ≤ 5000 := by rw [bytes_size]; omega
          have HNX : Hid (DOk (j + 1) s2 ∧ s2.cap = 5000 ∧ s2.lasts.data.toList <+: s2.lasts.data.toList) := ⟨pok, pcp, List.prefix_rfl⟩
          clear hrd hdn hdc pok pcp ppx pal ppc
          have HLZ : Hid (∀ v : World, DiskAt v (fun k => w.heap.size ≤ k) g s2 → Calls Try.prog 29 #[.pointer (some ⟨g, 0, none⟩)] v fun e w' => e = .returned (.int .i64 (s2.lasts.size : Nat)) ∧ v = w') := fun v h => lasts_any g s2 _ v h
          obtain ⟨BY, hBY⟩ : ∃ b, s2.bytes = b := ⟨_, rfl⟩
          obtain ⟨LA, hLA⟩ : ∃ b, s2.lasts = b := ⟨_, rfl⟩
          rw [hBY] at HRD hpre hlas hlb hbb
          rw [hLA] at hlas hyl hlb HLZ
          have HBY := Lib.hid hBY
          have HLA := Lib.hid hLA
          clear hBY hLA
          go_wp2_with fail
          refine HDN.out.mono ?_
          rintro e v1 ⟨rfl, rfl⟩
          go_wp2_with fail
          refine HRD.out.mono ?_
          rintro e v2 ⟨rfl, hb2⟩
          have HV2 : Hid (Below w.heap.size w v2) := HW5.out.trans (hb2.mono HW5.out.size)
          have HD2 := Lib.hid (HD5.out.below hb2 (Nat.le_refl _))
          have HL2 := Lib.hid (HLZ.out v2 HD2.out)
          clear hb2 HRD HDN
          go_wp2_with fail
          refine HL2.out.mono ?_
          rintro e v3 ⟨rfl, rfl⟩
          go_wp2_with fail
          refine HL2.out.mono ?_
          rintro e v3 ⟨rfl, rfl⟩
          go_wp2_with fail
          go_roundw
          case rel => exact ⟨j + 1, s2, s2.lasts, by omega, by go_num, by rw [HLA.out], HNX.out, HD2.out, HV2.out⟩
          case measure => simp [intOf]; omega
      go_wp2_with fail
      try rw [hwb]
      refine HLN.out.mono ?_
      rintro e wc ⟨rfl, hbc⟩
      clear hwb
      have hxc := (HBL.out wc hbc).2
      have HWC := Lib.hid (HBL.out wc hbc).1
      have HDC := Lib.hid (HDB.out.below hbc (Nat.le_refl _))
      have hzc := hbc.size
      have HXC := Lib.hid hxc
      have c0 : wc.cell? ⟨wr.heap.size, 0, none⟩ = some (.int .i64 ok) := cell_at hxc rfl
      have c1 : wc.cell? ⟨wr.heap.size, 1, none⟩ = some (.int .i64 on) := cell_at hxc rfl
      have c2 : wc.cell? ⟨wr.heap.size, 2, none⟩ = some (.string os') := cell_at hxc rfl
      have c3 : wc.cell? ⟨wr.heap.size, 3, none⟩ = some (.slice oko okp.length okc) := cell_at hxc rfl
      have c4 : wc.cell? ⟨wr.heap.size, 4, none⟩ = some (.int .i64 oc) := cell_at hxc rfl
      clear hbc hxc
      have HS2 : Hid (DOk (j + 1) s ∧ s.cap = 5000 ∧ y.data.toList <+: s.lasts.data.toList) := ⟨HP.out.1.mono (by omega), HP.out.2⟩
      have HD3 : Hid (DiskAt wc (fun k => w.heap.size ≤ k) g s) := HDC.out.mono fun k _ a => a.1
      have f0 : (ok == 0) = false := by rw [beq_eq_false_iff_ne]; exact e0
      have f1 : (ok == 1) = false := by rw [beq_eq_false_iff_ne]; exact e1
      have f3 : (ok == 3) = false := by rw [beq_eq_false_iff_ne]; exact e3
      have f4 : (ok == 4) = false := by rw [beq_eq_false_iff_ne]; exact e4
      clear c1 c2 c3 c4 k1 k2 k3 k4 q0 q1 q2 q3 q4 HLN HBL HDB HBW HBX HXC

      have hdn := down_any g s _ wc HD3.out
      cases hdc : s.down with
      | true =>
        rw [hdc] at hdn
        have HDN := Lib.hid hdn
        clear hdn hdc
        go_wp2_with fail
        refine HDN.out.mono ?_
        rintro e v1 ⟨rfl, rfl⟩
        go_wp2_with fail
        go_roundw
        case rel => exact ⟨j + 1, s, y, by omega, by go_num, rfl, HS2.out, HD3.out, HWC.out⟩
        case measure => simp [intOf]; omega
      | false =>
        rw [hdc] at hdn
        have HDN := Lib.hid hdn
        obtain ⟨pok, pcp, ppx⟩ := HS2.out
        have pal := pok.all
        have ppc := pok.pieces
        rw [pcp] at pal
        have hrd : Calls Try.prog 27 #[.pointer (some ⟨g, 0, none⟩)] wc fun e w' => e = .returned (.tuple #[.string s.bytes, .int .i64 0]) ∧ Below wc.heap.size wc w' := read_up g s _ wc HD3.out hdc (by omega) (by omega)
        have HRD := Lib.hid hrd
        have hpre := lasts_cut s y ppx
        have hlas := lasts_all s
        have hyl : y.size ≤ s.lasts.size := lasts_le s y ppx
        have hlb : s.lasts.size ≤ s.bytes.size := bytes_ge s
        have hbb : s.bytes.size ≤ 5000 := by rw [bytes_size]; omega
        have HNX : Hid (DOk (j + 1) s ∧ s.cap = 5000 ∧ s.lasts.data.toList <+: s.lasts.data.toList) := ⟨pok, pcp, List.prefix_rfl⟩
        clear hrd hdn hdc pok pcp ppx pal ppc
        have HLZ : Hid (∀ v : World, DiskAt v (fun k => w.heap.size ≤ k) g s → Calls Try.prog 29 #[.pointer (some ⟨g, 0, none⟩)] v fun e w' => e = .returned (.int .i64 (s.lasts.size : Nat)) ∧ v = w') := fun v h => lasts_any g s _ v h
        obtain ⟨BY, hBY⟩ : ∃ b, s.bytes = b := ⟨_, rfl⟩
        obtain ⟨LA, hLA⟩ : ∃ b, s.lasts = b := ⟨_, rfl⟩
        rw [hBY] at HRD hpre hlas hlb hbb
        rw [hLA] at hlas hyl hlb HLZ
        have HBY := Lib.hid hBY
        have HLA := Lib.hid hLA
        clear hBY hLA
        go_wp2_with fail
        refine HDN.out.mono ?_
        rintro e v1 ⟨rfl, rfl⟩
        go_wp2_with fail
        refine HRD.out.mono ?_
        rintro e v2 ⟨rfl, hb2⟩
        have HV2 : Hid (Below w.heap.size w v2) := HWC.out.trans (hb2.mono HWC.out.size)
        have HD2 := Lib.hid (HD3.out.below hb2 (Nat.le_refl _))
        have HL2 := Lib.hid (HLZ.out v2 HD2.out)
        clear hb2 HRD HDN
        go_wp2_with fail
        refine HL2.out.mono ?_
        rintro e v3 ⟨rfl, rfl⟩
        go_wp2_with fail
        refine HL2.out.mono ?_
        rintro e v3 ⟨rfl, rfl⟩
        go_wp2_with fail
        go_roundw
        case rel => exact ⟨j + 1, s, s.lasts, by omega, by go_num, by rw [HLA.out], HNX.out, HD2.out, HV2.out⟩
        case measure => simp [intOf]; omega
    · go_wp2_with fail
      go_ret
      exact ⟨rfl, HW.out⟩

set_option maxRecDepth 100000 in
theorem diskLasts_lawful : Lawful 8 Try.f8 := by
  intro H enc W base args ds p hval hA hlt hsz
  rw [Try.params8] at hA hval hsz
  obtain ⟨v0, d0, rfl, rfl, h0⟩ := trodAll_one hA
  obtain ⟨os, b, off, ao, n, cap, rfl, _, hn, hl, hok, hao, hb, hc⟩ := sliceArg dopCells (DOpOk W) 5 (by omega) under_dops cells_dop rdDOp (hval 0 44 v0 rfl rfl) h0 (weights_in (j := 0) hsz rfl rfl) hlt (fun x hx => hx)
  by_cases hlet : Big14 os
  · exact diskLasts_let ao b off n cap os W hn hl hao hb hok hc hlet
  · exact diskLasts_law ao b off n cap os W hn hl hao hb hok hc hlet

theorem diskLasts_holds : Rows.DiskLastsSaid :=
  OpenClaim.holds_of_wide 8 Try.f8 rfl rfl rfl rfl rfl rfl rfl ⟨rfl, rfl, rfl, rfl, rfl⟩ rfl rfl rfl rfl rfl (by kernel_rfl) Try.func8 (by kernel_rfl)
    (of_decide_eq_true (by kernel_rfl)) (by unfold Func.isWrapper; rw [if_neg (of_decide_eq_false (by kernel_rfl))]; exact ⟨rfl, rfl⟩)
    (fun os started H enc _ => law_lift (s := Rows.diskLastsSpec) Try.func8 (by kernel_rfl) rfl rfl rfl (by rw [Try.params8]; intro t ht; simp at ht; exact ht ▸ ⟨by kernel_rfl, of_decide_eq_true (by kernel_rfl)⟩)
      (by rw [Try.params8]; intro H ds hds; match ds, hds with | [d], _ => exact ⟨rfl, rfl, rfl⟩) diskLasts_lawful os started H enc
      (ChangeSpec.witness6 (enc := enc) (C := Try.checked) false ⟨#[], #[.slice none 0 0], []⟩ 8 (by kernel_rfl) (by kernel_rfl) (by kernel_rfl) (by kernel_rfl)))
end Go.Proofs.Ytpnmhpkpkejdiaa
