/- Whatever is appended, burnt, crashed and opened again: the log has all that was appended, and, perhaps, what was being appended; what is refused changes nothing: the law LogPlays answers true at every input. No condition. -/
import Derived.Test.YtpnmhpkpkejdiaaLogPlaysB
import Derived.Test.YtpnmhpkpkejdiaaLift
set_option linter.unusedSimpArgs false
namespace Go.Proofs.Ytpnmhpkpkejdiaa
open Go.ChangeShapes Go.WideShapes Go.ChangeAt Go.RowKit


set_option maxRecDepth 100000 in
set_option maxHeartbeats 1600000 in
theorem logPlays_let (c : Int) (hc1 : 0 ≤ c) (hc2 : c ≤ 65535) (so : Option Addr) (sb soff n scap : Nat) (os : List DOp) (w : World) (hn : n ≤ maxLen) (hl : os.length = n) (hao : 0 < n → so = some ⟨sb, soff, none⟩) (hb : 0 < n → sb < w.heap.size) (hok : ∀ o ∈ os, DOpOk w o)
    (hc : ∀ i o, os[i]? = some o → ∀ j u, (dopCells o)[j]? = some u → w.cell? ⟨sb, soff + i * 5 + j, none⟩ = some u) (hbig : Big15 os) :
    Calls Try.prog 14 #[.int .u16 c, .slice so n scap] w fun e w' => e = .returned (.bool true) ∧ Below w.heap.size w w' := by
  have HGR : ∀ w' : World, Below w.heap.size w w' → Calls Try.prog 49 #[.slice so n scap] w' fun e w'' => e = .returned (.bool true) ∧ Below w'.heap.size w' w'' := fun w' hb' =>
    great15_any so sb soff n scap os w' hn hl hao (fun h => Nat.lt_of_lt_of_le (hb h) hb'.size) (fun o ho => ⟨(hok o ho).1, (hok o ho).2.1⟩) (fun i o ho j u hj => (hb'.cell (by exact hb (by have := (List.getElem?_eq_some_iff.1 ho).1; omega))).trans (hc i o ho j u hj)) true (by simp [hbig])
  have HGRT := Lib.hid HGR
  clear hao hb hl hc hok hbig HGR hn hc1 hc2
  go_enter Try.func14, Try.ntmps14
  go_wp2_with fail
  refine (logAwake w).mono ?_
  rintro e w0 ⟨rfl, hb0⟩
  have HB0 := Lib.hid hb0
  clear hb0
  go_wp2_with fail
  refine (HGRT.out w0 HB0.out).mono ?_
  rintro e w1 ⟨rfl, hb1⟩
  have z1 : w.heap.size ≤ w1.heap.size := Nat.le_trans HB0.out.size hb1.size
  have HB1 : Hid (Below w.heap.size w w1) := HB0.out.trans (hb1.mono HB0.out.size)
  clear hb1 HB0 HGRT
  go_wp2_with fail
  go_ret
  exact ⟨rfl, HB1.out⟩

set_option maxRecDepth 100000 in
set_option maxHeartbeats 12800000 in
theorem logPlays_law (c : Int) (hc1 : 0 ≤ c) (hc2 : c ≤ 65535) (so : Option Addr) (sb soff n scap : Nat) (os : List DOp) (w : World) (hn : n ≤ maxLen) (hl : os.length = n) (hao : 0 < n → so = some ⟨sb, soff, none⟩) (hb : 0 < n → sb < w.heap.size) (hok : ∀ o ∈ os, DOpOk w o)
    (hc : ∀ i o, os[i]? = some o → ∀ j u, (dopCells o)[j]? = some u → w.cell? ⟨sb, soff + i * 5 + j, none⟩ = some u) (hbig : ¬ Big15 os) :
    Calls Try.prog 14 #[.int .u16 c, .slice so n scap] w fun e w' => e = .returned (.bool true) ∧ Below w.heap.size w w' := by
  have mixed : Try.prog.follows .mixedOrders = true := by kernel_rfl
  have HGR : ∀ w' : World, Below w.heap.size w w' → Calls Try.prog 49 #[.slice so n scap] w' fun e w'' => e = .returned (.bool false) ∧ Below w'.heap.size w' w'' := fun w' hb' =>
    great15_any so sb soff n scap os w' hn hl hao (fun h => Nat.lt_of_lt_of_le (hb h) hb'.size) (fun o ho => ⟨(hok o ho).1, (hok o ho).2.1⟩) (fun i o ho j u hj => (hb'.cell (by exact hb (by have := (List.getElem?_eq_some_iff.1 ho).1; omega))).trans (hc i o ho j u hj)) false (by simp [hbig])
  have hn60 : n ≤ 60 := by
    have h : ¬ 60 < os.length := fun h => hbig (.inl h)
    omega
  have hsm : ∀ o ∈ os, o.s.size ≤ 300 ∧ o.keep.length ≤ 100 := fun o ho => ⟨Nat.le_of_not_lt fun h => hbig (.inr ⟨o, ho, .inl h⟩), Nat.le_of_not_lt fun h => hbig (.inr ⟨o, ho, .inr h⟩)⟩
  have HGRT := Lib.hid HGR
  have HAO := Lib.hid hao
  have HB := Lib.hid hb
  have HL := Lib.hid hl
  have HC := Lib.hid hc
  have HOK := Lib.hid hok
  have HSM := Lib.hid hsm
  clear hao hb hl hc hok hsm hbig HGR hn
  go_enter Try.func14, Try.ntmps14
  go_wp2_with fail
  refine (logAwake w).mono ?_
  rintro e w0 ⟨rfl, hb0⟩
  have HB0 := Lib.hid hb0
  clear hb0
  go_wp2_with fail
  refine (HGRT.out w0 HB0.out).mono ?_
  rintro e w1 ⟨rfl, hb1⟩
  have z1 : w.heap.size ≤ w1.heap.size := Nat.le_trans HB0.out.size hb1.size
  have HB1 : Hid (Below w.heap.size w w1) := HB0.out.trans (hb1.mono HB0.out.size)
  clear hb1 HB0 HGRT
  go_wp2_with fail
  refine (new_any c w1).mono ?_
  rintro e w2 ⟨rfl, h2, b2⟩
  obtain ⟨gd, hgd⟩ : ∃ gd, w1.heap.size = gd := ⟨_, rfl⟩
  try rw [hgd]
  rw [hgd] at h2 b2
  rw [dst0_clean c (by omega)] at h2
  have hz2 : gd ≤ w2.heap.size := by have := b2.size; omega
  have hoc := open_clean c [] (by simp)
  have hop := open_log w.heap.size 0 gd (fun _ => False) (fun k => gd ≤ k) (stClean c []) w2 h2 (clean_ok _ _ (by simp [bytesL, framesOf]; omega) (by omega)) (by omega) (by rw [clean_all]; simp [bytesL, framesOf]) (fun k a => ⟨by omega, fun x => x⟩) (fun k a => a.elim) (by omega)
  have HOP := Lib.hid hop
  have HOC := Lib.hid hoc
  have HB2 : Hid (Below w.heap.size w w2) := HB1.out.trans (b2.mono (by omega))
  clear h2 b2 hop hoc HB1
  go_wp2_with fail
  refine HOP.out.mono ?_
  rintro e w3 ⟨v, he, c3, -, hv, -⟩
  rw [HOC.out.1] at he hv
  obtain ⟨gl, rfl, hld⟩ := hv rfl
  rw [HOC.out.2] at hld
  subst he
  have HLP0 : Hid (LQ w3 w.heap.size (fun _ => False) gd gl (stClean c []) [] (.slice none 0 0) (.slice none 0 0) [] []) := ⟨fun _ => False, fun _ a => a, hld, Sl.nil _ _ _ _, Sl.nil _ _ _ _⟩
  have HB3 : Hid (Below w.heap.size w w3) := HB2.out.trans (c3.below (by omega) (fun i hi a => by omega))
  clear hv c3 hld HOP HOC HB2 hz2 z1 hgd
  go_wp2_with fail
  go_loopg [6, 8, 9, 10, 36] n (fun k tx th tm tz i wr => ∃ j : Nat, j + k = n ∧ i = .int .i64 j ∧ PlayRel w c gd tx th tm tz wr)
  case atStart => exact ⟨0, by omega, rfl, gl, 0, 0, 0, 0, 0, none, none, stClean c [], [], [], rfl, rfl, rfl, rfl, ⟨rfl, rfl, rfl⟩, play_start c ⟨hc1, hc2⟩, HLP0.out, HB3.out⟩
  case round =>
    clear HLP0 HB3
    obtain ⟨j, hj, rfl, gl, sz, hn, mn, hcp, mcp, ha, ma, s, has, might, rfl, rfl, rfl, rfl, HN, HP, HLP, HW⟩ := hrel
    obtain ⟨wq, hwq⟩ : ∃ wq : World, wq = wr := ⟨_, rfl⟩
    rw [← hwq] at HLP HW ⊢
    clear hwq
    by_cases hlt : j < n
    · obtain rfl := HAO.out (by omega)
      obtain ⟨⟨ok, on, os', oko, okc, okp, oc⟩, ho⟩ : ∃ o, os[j]? = some o := ⟨_, List.getElem?_eq_getElem (by rw [HL.out]; exact hlt)⟩
      have hc : ∀ k u, (dopCells ⟨ok, on, os', oko, okc, okp, oc⟩)[k]? = some u → wq.cell? ⟨sb, soff + j * 5 + k, none⟩ = some u := fun k u hk => (HW.out.cell (by exact HB.out (by omega))).trans (HC.out j _ ho k u hk)
      have q0 : wq.cell? ⟨sb, soff + j * 5, none⟩ = some (.int .i64 ok) := hc 0 _ rfl
      have q1 : wq.cell? ⟨sb, soff + j * 5 + 1, none⟩ = some (.int .i64 on) := hc 1 _ rfl
      have q2 : wq.cell? ⟨sb, soff + j * 5 + 2, none⟩ = some (.string os') := hc 2 _ rfl
      have q3 : wq.cell? ⟨sb, soff + j * 5 + 3, none⟩ = some (.slice oko okp.length okc) := hc 3 _ rfl
      have q4 : wq.cell? ⟨sb, soff + j * 5 + 4, none⟩ = some (.int .i64 oc) := hc 4 _ rfl
      obtain ⟨hs1, hs2, hs3, hs4, hs5, hs6⟩ := HOK.out _ (List.mem_of_getElem? ho)
      have hkl := HSM.out _ (List.mem_of_getElem? ho)
      simp only at hs1 hs2 hs3 hs4 hs5 hs6 hkl
      have hz := HW.out.size
      have HS3 := Lib.hid hs3
      clear hc ho hs3
      obtain ⟨wb, hwb⟩ : ∃ wb, wq.alloc (.cells #[.int .i64 ok, .int .i64 on, .string os', .slice oko okp.length okc, .int .i64 oc] 76) = wb := ⟨_, rfl⟩
      obtain ⟨X, hX⟩ : ∃ X, wq.heap.size = X := ⟨_, rfl⟩
      have HBX : Hid (wb.heap[X]? = some (.cells #[.int .i64 ok, .int .i64 on, .string os', .slice oko okp.length okc, .int .i64 oc] 76)) := by rw [← hwb, ← hX]; exact heap_alloc_new wq _
      have HLB : Hid (LQ wb w.heap.size (fun q => q = X) gd gl s has (.slice ha hn hcp) (.slice ma mn mcp) has might) := by
        rw [← hX]
        exact (LQ.toLP HLP.out).box (by rw [← hwb]; exact (Below.refl _ _).alloc (Nat.le_refl _) _) (by rw [hX]; exact heap_lt HBX.out)
      have HBW : Hid (Below w.heap.size w wb) := by rw [← hwb]; exact HW.out.alloc hz _
      have hXw : w.heap.size ≤ X := by omega
      have hzb := HBW.out.size
      have hXb : X < wb.heap.size := heap_lt HBX.out
      have k0 : wb.cell? ⟨X, 0, none⟩ = some (.int .i64 ok) := cell_at HBX.out rfl
      have k1 : wb.cell? ⟨X, 1, none⟩ = some (.int .i64 on) := cell_at HBX.out rfl
      have k2 : wb.cell? ⟨X, 2, none⟩ = some (.string os') := cell_at HBX.out rfl
      have k3 : wb.cell? ⟨X, 3, none⟩ = some (.slice oko okp.length okc) := cell_at HBX.out rfl
      have k4 : wb.cell? ⟨X, 4, none⟩ = some (.int .i64 oc) := cell_at HBX.out rfl
      clear HLP HW hz
      go_upto_block 2 with fail
      try rw [hX]
      try rw [hwb]
      clear hwb hX q0 q1 q2 q3 q4
      go_cut [6, 8, 9, 10, 36] from 37 to 204 (fun tx th tm tz i wr => i = .int .i64 j ∧ PlayRel w c gd tx th tm tz wr)
      case first =>
        have hs3 := HS3.out
        by_cases e0 : ok = 0
        · subst e0
          refine lpK0 hc1 hc2 hs3 hs5 hkl HN HP HLB HBW HBX hXw (fun _ _ _ _ _ h => h) ?_
          intro tx th tm tz x13 x14 x15 x16 x17 x40 x41 x42 x43 x44 x45 x46 x47 x48 x49 x50 x51 x52 x53 x54 x55 x56 x57 x58 x59 x60 x61 x62 x63 x64 x65 x66 x67 x68 x69 x70 x71 x72 x73 x74 x75 x76 x77 x78 x79 x80 x81 x82 x83 x84 x85 x86 x87 x88 x89 x90 x91 x92 x93 x94 x95 x96 x97 x98 x99 x100 x101 x102 x103 x104 x105 x106 x107 x108 x109 x110 x111 x112 x113 x114 x115 x116 x117 x118 x119 x120 x121 x122 x123 x124 x125 x126 x127 x128 x129 x130 x131 x132 x133 x134 x135 x136 x137 x138 x139 x140 x141 x142 x143 x144 x145 x146 x147 x148 x149 x150 x151 wr h
          go_step
          go_meet
          exact ⟨rfl, h⟩
        by_cases e1 : ok = 1
        · subst e1
          have HFU := Lib.hid (HLB.out.fuseC hzb on)
          have HP1 := Lib.hid (play_fuse HP.out on hs5.2)
          obtain ⟨s2, hs2⟩ : ∃ s2, s.fuse on = s2 := ⟨_, rfl⟩
          rw [hs2] at HFU HP1
          clear hs2 HP HLB
          go_wp2_with fail
          refine HFU.out.mono ?_
          rintro e w5 ⟨rfl, b5, -, h5⟩
          have HL5 := Lib.hid ((Lib.hid h5).out.less (fun q (a : False) => a.elim))
          have HB5 : Hid (Below w.heap.size w w5) := HBW.out.trans b5
          clear h5 b5 HFU HBW
          go_wp2_with fail
          go_meet
          exact ⟨rfl, _, _, _, _, _, _, _, _, _, _, _, rfl, rfl, rfl, rfl, HN, HP1, HL5, HB5⟩
        by_cases e2 : ok = 2
        · subst e2
          refine lpK2 hc1 hc2 hs3 hs5 hkl HN HP HLB HBW HBX hXw (fun _ _ _ _ _ h => h) ?_
          intro tx th tm tz x13 x14 x15 x16 x17 x40 x41 x42 x43 x44 x45 x46 x47 x48 x49 x50 x51 x52 x53 x54 x55 x56 x57 x58 x59 x60 x61 x62 x63 x64 x65 x66 x67 x68 x69 x70 x71 x72 x73 x74 x75 x76 x77 x78 x79 x80 x81 x82 x83 x84 x85 x86 x87 x88 x89 x90 x91 x92 x93 x94 x95 x96 x97 x98 x99 x100 x101 x102 x103 x104 x105 x106 x107 x108 x109 x110 x111 x112 x113 x114 x115 x116 x117 x118 x119 x120 x121 x122 x123 x124 x125 x126 x127 x128 x129 x130 x131 x132 x133 x134 x135 x136 x137 x138 x139 x140 x141 x142 x143 x144 x145 x146 x147 x148 x149 x150 x151 wr h
          go_step
          go_meet
          exact ⟨rfl, h⟩
        have f0 : (ok == 0) = false := by rw [beq_eq_false_iff_ne]; exact e0
        have f1 : (ok == 1) = false := by rw [beq_eq_false_iff_ne]; exact e1
        have f2 : (ok == 2) = false := by rw [beq_eq_false_iff_ne]; exact e2
        have HLB2 := Lib.hid (HLB.out.less (fun q (a : False) => a.elim))
        clear e0 e1 e2 HLB
        go_wp2_with fail
        go_meet
        exact ⟨rfl, _, _, _, _, _, _, _, _, _, _, _, rfl, rfl, rfl, rfl, HN, HP, HLB2, HBW⟩
      case rest =>
        clear k0 k1 k2 k3 k4 HLB HBW HBX HN HP HS3 hs1 hs2 hs4 hs5 hs6 hkl hXw hzb hXb
        obtain ⟨rfl, gl, sz, hn, mn, hcp, mcp, ha, ma, s, has, might, rfl, rfl, rfl, rfl, HN, HP, HLP, HW⟩ := hcut
        have hlb := len_bytes has
        have hfit := HP.out.fits
        have hc16 := HP.out.c1
        rw [HN.out.1, HN.out.2.2] at hlb
        rw [HN.out.2.2] at hfit
        have hzW := HW.out.size
        obtain ⟨X0, -, hld0, -, -⟩ := id HLP.out
        obtain ⟨FL, hlg, -, -, -⟩ := hld0.log hzW
        clear hld0
        have hsp : has = [] ∧ hn = 0 ∨ ∃ p x, p + 1 = hn ∧ has[p]? = some x ∧ has[has.length - 1]? = some x := by
          have hl := HN.out.1
          by_cases h0 : hn = 0
          · exact .inl ⟨List.eq_nil_of_length_eq_zero (by omega), h0⟩
          · obtain ⟨y, hy⟩ : ∃ y, has[hn - 1]? = some y := ⟨_, List.getElem?_eq_getElem (by omega)⟩
            exact .inr ⟨hn - 1, y, by omega, hy, by rw [hl]; exact hy⟩
        rcases hsp with ⟨hem, hn0⟩ | ⟨p, x, hpn, hxp, hxl⟩
        · have d0 : decide ((0 : Int) < (hn : Int)) = false := by rw [decide_eq_false_iff_not]; omega
          have dN0 : decide (0 < hn) = false := by rw [decide_eq_false_iff_not]; omega
          have dZ0 : hn ≤ 0 := by omega
          have HLA := Lib.hid (logLast_none gl gd FL wc (by have := hlg; rw [hem] at this; exact this))
          clear hlg
          clear hem hn0
          go_wp2_with fail
          refine HLA.out.mono ?_
          rintro e v1 ⟨rfl, hb1⟩
          have HLP1 := Lib.hid (HLP.out.below hb1)
          have HW1 : Hid (Below w.heap.size w v1) := HW.out.trans (hb1.mono HW.out.size)
          have hz1 := HW1.out.size
          clear hb1 HLA HLP HW
          obtain ⟨X1, -, hld1, hs1, -⟩ := id HLP1.out
          obtain ⟨FL1, hlg1, -, -, -⟩ := hld1.log hz1
          have hall := logAll_any gl gd has FL1 v1 hlg1 (by rw [HN.out.1]; omega)
          rw [HN.out.1] at hall
          have HAL := Lib.hid hall
          clear hld1 hs1 hlg1 hall
          go_wp2_with fail
          refine HAL.out.mono ?_
          rintro e v2 ⟨ao2, cp2, rfl, hst2, hb2⟩
          have HLP2 := Lib.hid (HLP1.out.below hb2)
          have HW2 : Hid (Below w.heap.size w v2) := HW1.out.trans (hb2.mono hz1)
          have hz2 := HW2.out.size
          obtain ⟨X2, -, hld2, hs2, -⟩ := id HLP2.out
          rw [HN.out.1] at hs2
          have hsm := same_any has has hn hn ao2 ha cp2 hcp v2 hst2 (by have h := hs2; rw [← HN.out.1] at h; exact h.strs) HN.out.1 HN.out.1 (by omega) (by omega) true (by simp)
          have HSMA := Lib.hid hsm
          clear hst2 hb2 hld2 hs2 hsm HAL HLP1 HW1
          go_wp2_with fail
          refine HSMA.out.mono ?_
          rintro e v3 ⟨rfl, hb3⟩
          have HLP3 := Lib.hid (HLP2.out.below hb3)
          have HW3 : Hid (Below w.heap.size w v3) := HW2.out.trans (hb3.mono hz2)
          have hz3 := HW3.out.size
          obtain ⟨X3, -, hld3, hs3, -⟩ := id HLP3.out
          obtain ⟨FL3, hlg3, -, -, -⟩ := hld3.log hz3
          obtain ⟨FD3, hd3, -, -, -, -⟩ := hld3.disk hz3
          have hln := logLen_any gl gd has FL3 v3 hlg3
          rw [HN.out.1] at hln
          have HLN := Lib.hid hln
          have HDN := Lib.hid (down_any gd s FD3 v3 hd3)
          have hst3 : StrsAt v3 ha has := by have h := hs3; rw [HN.out.1] at h; have h2 := h; rw [← HN.out.1] at h2; exact h2.strs
          have HRM : Hid (s.down = false → Calls Try.prog 52 #[.pointer (some ⟨gl, 0, none⟩)] v3 fun e w' => e = .returned (.int .i64 (min (max (c - (sz : Nat) - 8) 0) 1048576)) ∧ Below v3.heap.size v3 w') := fun hup => by
            have hok := HP.out.ok
            have hal := hok.all
            have := logRoom_any gl gd has FL3 FD3 s v3 hlg3 hd3 (by have := hok.c1; omega) (by have := hok.pieces; omega) hok.c0 hok.c1
            rw [HP.out.cap, HP.out.all_up hup, HN.out.2.2] at this
            exact this
          clear hld3 hs3 hlg3 hd3 hln hst3 HSMA HLP2 HW2
          go_wp2_with fail
          refine HLN.out.mono ?_
          rintro e v3x ⟨rfl, rfl⟩
          clear HLN
          go_wp2_with fail
          cases hdc : s.down with
          | true =>
            rw [hdc] at HDN
            clear hdc HRM
            refine HDN.out.mono ?_
            rintro e v3x ⟨rfl, rfl⟩
            go_wp2_with fail
            go_roundg (n - (j + 1))
            case measure => omega
            case rel => exact ⟨j + 1, by omega, by go_num, ⟨_, _, _, _, _, _, _, _, _, _, _, rfl, rfl, rfl, rfl, HN, HP, HLP3, HW3⟩⟩
          | false =>
            rw [hdc] at HDN
            have hrm := HRM.out hdc
            have i5 : IntKind.i64.wrap (c - (sz : Int)) = c - (sz : Int) := IntWalk.i64_in _ (by omega)
            have i6 : IntKind.i64.wrap (c - (sz : Int) - 8) = c - (sz : Int) - 8 := IntWalk.i64_in _ (by omega)
            obtain ⟨m, hm⟩ : ∃ m : Int, min (max (c - (sz : Int) - 8) 0) 1048576 = m := ⟨_, rfl⟩
            rw [hm] at hrm
            have HRM2 := Lib.hid hrm
            clear hdc HRM hrm
            refine HDN.out.mono ?_
            rintro e v3x ⟨rfl, rfl⟩
            go_wp2_with fail
            refine HRM2.out.mono ?_
            rintro e v4 ⟨rfl, hb4⟩
            have HREL4 := Lib.hid (HLP3.out.below hb4)
            have HW4 : Hid (Below w.heap.size w v4) := HW3.out.trans (hb4.mono hz3)
            clear hb4 HRM2
            go_wp2_with fail
            go_roundg (n - (j + 1))
            case measure => omega
            case rel => exact ⟨j + 1, by omega, by go_num, ⟨_, _, _, _, _, _, _, _, _, _, _, rfl, rfl, rfl, rfl, HN, HP, HREL4, HW4⟩⟩
        · have d0 : decide ((0 : Int) < (hn : Int)) = true := by rw [decide_eq_true_iff]; omega
          have i1 : IntKind.i64.wrap ((hn : Int) - 1) = (p : Int) := by rw [IntWalk.i64_in _ (by omega)]; omega
          have i2 : (hn : Int) - 1 = (p : Int) := by omega
          have HLA := Lib.hid (logLast_some gl gd has x FL wc hlg hxl)
          clear hlg
          have HXP := Lib.hid hxp
          have hpl : p < hn := by omega
          clear hpn hxp hxl
          go_wp2_with fail
          refine HLA.out.mono ?_
          rintro e v1 ⟨rfl, hb1⟩
          have HLP1 := Lib.hid (HLP.out.below hb1)
          have HW1 : Hid (Below w.heap.size w v1) := HW.out.trans (hb1.mono HW.out.size)
          have hz1 := HW1.out.size
          clear hb1 HLA HLP HW
          obtain ⟨X1, -, hld1, hs1, -⟩ := id HLP1.out
          obtain ⟨FL1, hlg1, -, -, -⟩ := hld1.log hz1
          have hall := logAll_any gl gd has FL1 v1 hlg1 (by rw [HN.out.1]; omega)
          rw [HN.out.1] at hall
          have HAL := Lib.hid hall
          clear hld1 hs1 hlg1 hall
          go_wp2_with fail
          refine HAL.out.mono ?_
          rintro e v2 ⟨ao2, cp2, rfl, hst2, hb2⟩
          have HLP2 := Lib.hid (HLP1.out.below hb2)
          have HW2 : Hid (Below w.heap.size w v2) := HW1.out.trans (hb2.mono hz1)
          have hz2 := HW2.out.size
          obtain ⟨X2, -, hld2, hs2, -⟩ := id HLP2.out
          rw [HN.out.1] at hs2
          have hsm := same_any has has hn hn ao2 ha cp2 hcp v2 hst2 (by have h := hs2; rw [← HN.out.1] at h; exact h.strs) HN.out.1 HN.out.1 (by omega) (by omega) true (by simp)
          have HSMA := Lib.hid hsm
          clear hst2 hb2 hld2 hs2 hsm HAL HLP1 HW1
          go_wp2_with fail
          refine HSMA.out.mono ?_
          rintro e v3 ⟨rfl, hb3⟩
          have HLP3 := Lib.hid (HLP2.out.below hb3)
          have HW3 : Hid (Below w.heap.size w v3) := HW2.out.trans (hb3.mono hz2)
          have hz3 := HW3.out.size
          obtain ⟨X3, -, hld3, hs3, -⟩ := id HLP3.out
          obtain ⟨FL3, hlg3, -, -, -⟩ := hld3.log hz3
          obtain ⟨FD3, hd3, -, -, -, -⟩ := hld3.disk hz3
          have hln := logLen_any gl gd has FL3 v3 hlg3
          rw [HN.out.1] at hln
          have HLN := Lib.hid hln
          have HDN := Lib.hid (down_any gd s FD3 v3 hd3)
          have hst3 : StrsAt v3 ha has := by have h := hs3; rw [HN.out.1] at h; have h2 := h; rw [← HN.out.1] at h2; exact h2.strs
          obtain ⟨hb, hoff, hae, hcl⟩ := hst3 p x HXP.out
          subst hae
          have HRM : Hid (s.down = false → Calls Try.prog 52 #[.pointer (some ⟨gl, 0, none⟩)] v3 fun e w' => e = .returned (.int .i64 (min (max (c - (sz : Nat) - 8) 0) 1048576)) ∧ Below v3.heap.size v3 w') := fun hup => by
            have hok := HP.out.ok
            have hal := hok.all
            have := logRoom_any gl gd has FL3 FD3 s v3 hlg3 hd3 (by have := hok.c1; omega) (by have := hok.pieces; omega) hok.c0 hok.c1
            rw [HP.out.cap, HP.out.all_up hup, HN.out.2.2] at this
            exact this
          clear hld3 hs3 hlg3 hd3 hln hst3 HSMA HLP2 HW2
          go_wp2_with fail
          refine HLN.out.mono ?_
          rintro e v3x ⟨rfl, rfl⟩
          clear HLN
          go_wp2_with fail
          cases hdc : s.down with
          | true =>
            rw [hdc] at HDN
            clear hdc HRM
            refine HDN.out.mono ?_
            rintro e v3x ⟨rfl, rfl⟩
            go_wp2_with fail
            go_roundg (n - (j + 1))
            case measure => omega
            case rel => exact ⟨j + 1, by omega, by go_num, ⟨_, _, _, _, _, _, _, _, _, _, _, rfl, rfl, rfl, rfl, HN, HP, HLP3, HW3⟩⟩
          | false =>
            rw [hdc] at HDN
            have hrm := HRM.out hdc
            have i5 : IntKind.i64.wrap (c - (sz : Int)) = c - (sz : Int) := IntWalk.i64_in _ (by omega)
            have i6 : IntKind.i64.wrap (c - (sz : Int) - 8) = c - (sz : Int) - 8 := IntWalk.i64_in _ (by omega)
            obtain ⟨m, hm⟩ : ∃ m : Int, min (max (c - (sz : Int) - 8) 0) 1048576 = m := ⟨_, rfl⟩
            rw [hm] at hrm
            have HRM2 := Lib.hid hrm
            clear hdc HRM hrm
            refine HDN.out.mono ?_
            rintro e v3x ⟨rfl, rfl⟩
            go_wp2_with fail
            refine HRM2.out.mono ?_
            rintro e v4 ⟨rfl, hb4⟩
            have HREL4 := Lib.hid (HLP3.out.below hb4)
            have HW4 : Hid (Below w.heap.size w v4) := HW3.out.trans (hb4.mono hz3)
            clear hb4 HRM2
            go_wp2_with fail
            go_roundg (n - (j + 1))
            case measure => omega
            case rel => exact ⟨j + 1, by omega, by go_num, ⟨_, _, _, _, _, _, _, _, _, _, _, rfl, rfl, rfl, rfl, HN, HP, HREL4, HW4⟩⟩
    · go_wp2_with fail
      go_ret
      exact ⟨rfl, HW.out⟩

theorem under_u16P : Try.prog.underlying 36 = some (.int .u16) := by kernel_rfl
set_option maxRecDepth 100000 in
theorem logPlays_lawful : Lawful 14 Try.f14 := by
  intro H enc W base args ds p hval hA hlt hsz
  rw [Try.params14] at hA hval hsz
  obtain ⟨v0, v1, d0, d1, p0, p1, rfl, rfl, rfl, h0, h1⟩ := trodAll_two hA
  obtain ⟨c, rfl, rfl, rfl, hw⟩ := open_int under_u16P (hval 0 36 v0 rfl rfl) h0
  have hcb : 0 ≤ c ∧ c ≤ 65535 := by simpa [Lit.wf, IntKind.min, IntKind.max, IntKind.signed, IntKind.bits] using hw
  obtain ⟨os, b, off, ao, n, cap, rfl, _, hn, hl, hok, hao, hb, hc⟩ := sliceArg dopCells (DOpOk W) 5 (by omega) under_lops cells_lop rdLOp (hval 1 74 v1 rfl rfl) h1 (weights_in (j := 1) hsz rfl rfl) hlt (fun x hx => by simp [hx])
  by_cases hlet : Big15 os
  · exact logPlays_let c hcb.1 hcb.2 ao b off n cap os W hn hl hao hb hok hc hlet
  · exact logPlays_law c hcb.1 hcb.2 ao b off n cap os W hn hl hao hb hok hc hlet

theorem logPlays_holds : Rows.LogPlaysSaid :=
  OpenClaim.holds_of_wide 14 Try.f14 rfl rfl rfl rfl rfl rfl rfl ⟨rfl, rfl, rfl, rfl, rfl⟩ rfl rfl rfl rfl rfl (by kernel_rfl) Try.func14 (by kernel_rfl)
    (of_decide_eq_true (by kernel_rfl)) (by unfold Func.isWrapper; rw [if_neg (of_decide_eq_false (by kernel_rfl))]; exact ⟨rfl, rfl⟩)
    (fun os started H enc _ => law_lift (s := Rows.logPlaysSpec) Try.func14 (by kernel_rfl) rfl rfl rfl (by rw [Try.params14]; intro t ht; simp at ht; rcases ht with rfl | rfl <;> exact ⟨by kernel_rfl, of_decide_eq_true (by kernel_rfl)⟩)
      (by rw [Try.params14]; intro H ds hds; match ds, hds with | [d1, d2], _ => exact ⟨rfl, rfl, rfl⟩) logPlays_lawful os started H enc
      (ChangeSpec.witness6 (enc := enc) (C := Try.checked) false ⟨#[], #[.int .u16 0, .slice none 0 0], []⟩ 8 (by kernel_rfl) (by kernel_rfl) (by kernel_rfl) (by kernel_rfl)))
end Go.Proofs.Ytpnmhpkpkejdiaa
