/- Layer 16: a region of WirePlays that draws its order, walked by itself, over a frame of letters. -/
import Derived.Test.YtecpgkcoehnpbaaWireI
namespace Go.Proofs.Ytecpgkcoehnpbaa
open Go.ChangeShapes Go.WideShapes Go.ChangeAt Go.RowKit

set_option maxRecDepth 1000000 in
set_option maxHeartbeats 6400000 in
theorem reg39 {B g rp : Nat} {wM : World} {l rs : List Pk} {aoR : Option Addr} {cR m : Nat} {p : Pk} {Q : Exit → Act → World → Prop} {u0 u1 u2 u3 u4 u5 u6 u7 u8 u9 u10 u11 u15 u16 u17 u18 u19 u20 u21 u22 u23 u24 u25 u26 u27 u28 u29 u30 u31 u32 u33 u34 u35 u36 u37 u38 u39 u40 u41 u42 u43 u44 u45 u46 u47 u48 u49 u50 u51 u52 u53 u54 u55 u56 u57 u58 u59 u60 u61 u62 u63 u64 u65 u66 u67 u68 u69 u70 u71 u72 u73 u74 u75 u76 u77 u78 u79 u80 u81 u82 u83 u84 u85 u86 u87 u88 u89 u90 u91 u92 u93 u94 u95 u96 u97 u98 u99 u100 u101 u102 u103 u104 u105 u106 u107 u108 u109 u110 u111 u112 u113 u114 u115 u116 u117 u118 u119 u120 u121 u122 u123 u124 u125 u126 u127 u128 u129 u130 u131 u132 u133 u134 u135 u136 u137 u138 u139 u140 u141 u142 u143 u144 u145 u146 u147 u148 u149 u150 u151 u152 u153 u154 u155 u156 u157 u158 u159 u160 u161 u162 u163 u164 u165 u166 u167 u168 u169 u170 u171 u172 : Value}
    (hMr : Two B (fun k => k = rp) wM g l (.slice aoR rs.length cR) rs) (hzM : B ≤ wM.heap.size) (hPM : wM.heap[rp]? = some (pkObj p)) (hml : m ≤ rs.length) (hrl : rs.length ≤ 63)
    (hQp : ∀ c a w (d : Nat) v, Q (.panic c) (Act.put a (some d) v) w → Q (.panic c) a w) (hQ : ∀ (ao' : Option Addr) (c' : Nat) (w' : World) (x139 x140 x141 x142 x143 x144 x145 x146 x147 x148 x149 x150 : Value), Two B (fun _ => False) w' g l (.slice ao' (insPk rs m p).length c') (insPk rs m p) → Below B wM w' → Q .normal ⟨#[u0, u1, u2, u3, .slice ao' (insPk rs m p).length c', u5, u6, u7, u8, u9, u10, u11, .pointer (some ⟨rp, 0, none⟩), .slice aoR rs.length cR, .int .i64 (m : Int), u15, u16, u17, u18, u19, u20, u21, u22, u23, u24, u25, u26, u27, u28, u29, u30, u31, u32, u33, u34, u35, u36, u37, u38, u39, u40, u41, u42, u43, u44, u45, u46, u47, u48, u49, u50, u51, u52, u53, u54, u55, u56, u57, u58, u59, u60, u61, u62, u63, u64, u65, u66, u67, u68, u69, u70, u71, u72, u73, u74, u75, u76, u77, u78, u79, u80, u81, u82, u83, u84, u85, u86, u87, u88, u89, u90, u91, u92, u93, u94, u95, u96, u97, u98, u99, u100, u101, u102, u103, u104, u105, u106, u107, u108, u109, u110, u111, u112, u113, u114, u115, u116, u117, u118, u119, u120, u121, u122, u123, u124, u125, u126, u127, u128, u129, u130, u131, u132, u133, u134, u135, u136, u137, u138, x139, x140, x141, x142, x143, x144, x145, x146, x147, x148, x149, x150, u151, u152, u153, u154, u155, u156, u157, u158, u159, u160, u161, u162, u163, u164, u165, u166, u167, u168, u169, u170, u171, u172], []⟩ w') :
    Code.wp Try.prog (((Try.f6.body).bind (regionOf 39)).getD .skip) Q ⟨#[u0, u1, u2, u3, u4, u5, u6, u7, u8, u9, u10, u11, .pointer (some ⟨rp, 0, none⟩), .slice aoR rs.length cR, .int .i64 (m : Int), u15, u16, u17, u18, u19, u20, u21, u22, u23, u24, u25, u26, u27, u28, u29, u30, u31, u32, u33, u34, u35, u36, u37, u38, u39, u40, u41, u42, u43, u44, u45, u46, u47, u48, u49, u50, u51, u52, u53, u54, u55, u56, u57, u58, u59, u60, u61, u62, u63, u64, u65, u66, u67, u68, u69, u70, u71, u72, u73, u74, u75, u76, u77, u78, u79, u80, u81, u82, u83, u84, u85, u86, u87, u88, u89, u90, u91, u92, u93, u94, u95, u96, u97, u98, u99, u100, u101, u102, u103, u104, u105, u106, u107, u108, u109, u110, u111, u112, u113, u114, u115, u116, u117, u118, u119, u120, u121, u122, u123, u124, u125, u126, u127, u128, u129, u130, u131, u132, u133, u134, u135, u136, u137, u138, u139, u140, u141, u142, u143, u144, u145, u146, u147, u148, u149, u150, u151, u152, u153, u154, u155, u156, u157, u158, u159, u160, u161, u162, u163, u164, u165, u166, u167, u168, u169, u170, u171, u172], []⟩ wM := by
  conv => arg 2; whnf
  have mixed : Try.prog.follows .mixedOrders = true := by kernel_rfl
  obtain ⟨GM, hsM⟩ := hMr.slice
  have hnR : rs.length ≤ cR ∧ cR ≤ maxLen := by
    obtain ⟨a, c, e, h1, h2⟩ := hsM.shape
    simp only [Value.slice.injEq] at e
    obtain ⟨-, -, rfl⟩ := e
    exact ⟨h1, h2⟩
  obtain ⟨hnR, hcR⟩ := hnR
  have HPM := Lib.hid hPM
  have hpl : rp < wM.heap.size := heap_lt hPM
  have HBM : Hid (Below B wM wM) := Below.refl _ _
  clear hPM
  have own : ∀ k, (Value.slice aoR m cR).ownBlock = some k → (Value.slice aoR rs.length cR).ownBlock = some k := fun k hk => by
    cases aoR with
    | none => simp [Value.ownBlock] at hk
    | some a => exact hk
  have ownM : ∀ k, (Value.slice aoR rs.length cR).ownBlock = some k → k < wM.heap.size := fun k hk => (own_lt hsM hk).2
  have sla := hsM.taken (k := m) hml
  have slb := hsM.dropped (k := m) hml
  rw [← pks_drop, show rs.length - m = (rs.drop m).length from (List.length_drop ..).symm] at slb
  have HTK : Hid (∀ w', Sem.run Try.prog (Instr.slice 28 (.slice aoR rs.length cR) none (some (.int .i64 (m : Int))) none) w' = .ok (.slice aoR m cR) w') := fun w' => run_take_all (size := 6) w' 28 under_pks' sizePk (by omega)
  have HDR : Hid (∀ w', Sem.run Try.prog (Instr.slice 28 (.slice aoR rs.length cR) (some (.int .i64 (m : Int))) none none) w' = .ok (dropS (.slice aoR rs.length cR) m 6) w') := fun w' => run_drop_all (size := 6) (k := m) (ao := aoR) w' 28 under_pks' sizePk hnR hcR hml
  have ownD : ∀ k, (dropS (.slice aoR rs.length cR) m 6).ownBlock = some k → (Value.slice aoR rs.length cR).ownBlock = some k := fun k hk => own_dropS hk
  generalize dropS (.slice aoR rs.length cR) m 6 = VD at *
  have etk : (rs.take m).length = m := List.length_take_of_le hml
  have ell : (rs.take m).length + (rs.drop m).length ≤ 500 := by rw [etk, List.length_drop]; omega
  obtain ⟨N, hN⟩ : ∃ N, (insPk rs m p).length = N := ⟨_, rfl⟩
  have hN64 : (insPk rs m p).length ≤ 64 := by rw [insPk_length _ _ _ hml]; omega
  -- the empty slice first
  have hF := (hMr.anew hzM).drew
  have zF : ((wM.alloc (.cells #[] 23)).drew).heap.size = wM.heap.size + 1 := World.size_alloc _ _
  have bF : Below B wM ((wM.alloc (.cells #[] 23)).drew) := ((Below.refl B wM).alloc hzM _).drew
  have hpF : ((wM.alloc (.cells #[] 23)).drew).heap[rp]? = some (pkObj p) := heap_alloc_same HPM.out _
  have slaF : Sl ((wM.alloc (.cells #[] 23)).drew) GM 23 6 _ _ _ := sla.keep (fun k _ hk => Below.heap_alloc wM _ k hk)
  have slbF : Sl ((wM.alloc (.cells #[] 23)).drew) GM 23 6 _ _ _ := slb.keep (fun k _ hk => Below.heap_alloc wM _ k hk)
  obtain ⟨ao1, cc1, w1a, ao2, cc2, w2a, ao3, cc3, w3a, hr1, hr2, hr3, hT3, hB3, kA1, kA2, kA3, kA4⟩ := two_tripA hF (by omega) slaF slbF (fun k hk => .inr (ownD k hk)) ell p
  have k1 := kA1 _ _ (.inl rfl) hpF
  have k2 := kA2 _ _ (.inl rfl) hpF
  have k3 := kA3 _ _ (.inl rfl) hpF
  have k4 := kA4 _ _ (.inl rfl) hpF
  rw [etk] at hr1 hr2 hr3
  rw [insPk_split] at hr3 hT3
  have HA1 := Lib.hid hr1
  have HA2 := Lib.hid hr2
  have HA3 := Lib.hid hr3
  have HAT := Lib.hid hT3.forget
  have HAB : Hid (Below B wM w3a) := (HBM.out.trans bF).trans hB3
  clear hr1 hr2 hr3 hT3 hB3 kA1 kA2 kA3 kA4
  -- .. then the packet's row
  have hn2 : (((wM.alloc (.cells #[] 23)).drew).alloc (pkObj p)).heap[wM.heap.size + 1]? = some (pkObj p) := by have := heap_alloc_new ((wM.alloc (.cells #[] 23)).drew) (pkObj p); rw [zF] at this; exact this
  have hT2 := hF.next (Y := fun k => (k = rp ∨ (Value.slice aoR rs.length cR).ownBlock = some k) ∨ k = wM.heap.size + 1) ((Below.refl _ _).alloc (Nat.le_refl _) (pkObj p)) (Nat.le_refl _) (fun k hk => by
    rw [World.size_alloc, zF]
    rcases hk with (hk | hk) | hk
    · exact ⟨.inl (.inl hk), by omega⟩
    · exact ⟨.inl (.inr hk), by have := ownM k hk; omega⟩
    · exact ⟨.inr (by omega), by omega⟩)
  have hpG : (((wM.alloc (.cells #[] 23)).drew).alloc (pkObj p)).heap[rp]? = some (pkObj p) := heap_alloc_same hpF _
  obtain ⟨ao4, cc4, w1b, ao5, cc5, w2b, ao6, cc6, w3b, hr1, hr2, hr3, hT3, hB3, kA1, kA3, kA4⟩ := two_tripB hT2 (by rw [World.size_alloc]; omega) (slaF.keep (fun k _ hk => Below.heap_alloc _ _ k hk)) (slbF.keep (fun k _ hk => Below.heap_alloc _ _ k hk)) (fun k hk => .inl (.inr (ownD k hk))) ell hn2 (.inr rfl)
  have k5 := kA1 _ _ (.inl (.inl rfl)) hpG
  have k6 := kA3 _ _ (.inl (.inl rfl)) hpG
  have k7 := kA4 _ _ (.inl (.inl rfl)) hpG
  rw [etk] at hr1 hr2 hr3
  rw [insPk_split] at hr3 hT3
  have HB1' := Lib.hid hr1
  have HB2' := Lib.hid hr2
  have HB3' := Lib.hid hr3
  have HBT := Lib.hid hT3.forget
  have HBB : Hid (Below B wM w3b) := ((HBM.out.trans bF).alloc (by omega) _).trans hB3
  clear hr1 hr2 hr3 hT3 hB3 kA1 kA3 kA4 hT2 hn2 slaF slbF hF
  -- the packet's row first
  have zP : (wM.alloc (pkObj p)).heap.size = wM.heap.size + 1 := World.size_alloc _ _
  have hP := hMr.next (Y := fun k => k = rp ∨ k = wM.heap.size) ((Below.refl wM.heap.size wM).alloc (Nat.le_refl _) (pkObj p)) (Nat.le_refl _) (fun k hk => by
    rw [zP]
    rcases hk with hk | hk
    · exact ⟨.inl hk, by omega⟩
    · exact ⟨.inr (by omega), by omega⟩)
  have hPA := (hP.anew (by omega)).drew
  rw [zP] at hPA
  have hpH : (((wM.alloc (pkObj p)).alloc (.cells #[] 23)).drew).heap[rp]? = some (pkObj p) := heap_alloc_same (heap_alloc_same HPM.out _) _
  have slaP : Sl (((wM.alloc (pkObj p)).alloc (.cells #[] 23)).drew) GM 23 6 _ _ _ := (sla.keep (fun k _ hk => Below.heap_alloc wM (pkObj p) k hk)).keep (fun k _ hk => Below.heap_alloc (wM.alloc (pkObj p)) _ k hk)
  have slbP : Sl (((wM.alloc (pkObj p)).alloc (.cells #[] 23)).drew) GM 23 6 _ _ _ := (slb.keep (fun k _ hk => Below.heap_alloc wM (pkObj p) k hk)).keep (fun k _ hk => Below.heap_alloc (wM.alloc (pkObj p)) _ k hk)
  have zQ : (((wM.alloc (pkObj p)).alloc (.cells #[] 23)).drew).heap.size = wM.heap.size + 2 := by show ((wM.alloc (pkObj p)).alloc (.cells #[] 23)).heap.size = _; rw [World.size_alloc, zP]
  obtain ⟨ao7, cc7, w1c, ao8, cc8, w2c, ao9, cc9, w3c, hr1, hr2, hr3, hT3, hB3, kA1, kA3, kA4⟩ := two_tripB hPA (by omega) slaP slbP (fun k hk => .inr (ownD k hk)) ell (heap_alloc_same (heap_alloc_new wM (pkObj p)) _) (.inl (.inr rfl))
  have k8 := kA1 _ _ (.inl (.inl rfl)) hpH
  have k9 := kA3 _ _ (.inl (.inl rfl)) hpH
  have k10 := kA4 _ _ (.inl (.inl rfl)) hpH
  rw [etk] at hr1 hr2 hr3
  rw [insPk_split] at hr3 hT3
  have HC1' := Lib.hid hr1
  have HC2' := Lib.hid hr2
  have HC3' := Lib.hid hr3
  have HCT := Lib.hid hT3.forget
  have HCB : Hid (Below B wM w3c) := (((HBM.out.alloc hzM (pkObj p)).alloc (by omega) _).drew).trans hB3
  clear hr1 hr2 hr3 hT3 hB3 kA1 kA3 kA4 hP hPA slaP slbP sla slb
  have hmk : ∀ w' : World, w'.heap[rp]? = some (pkObj p) → (fun w' : World => w'.cell? ⟨rp, 0, none⟩ = some (.int .i64 p.ch) ∧ w'.cell? ⟨rp, 1, none⟩ = some (.int .i64 p.back) ∧ w'.cell? ⟨rp, 2, none⟩ = some (.int .i64 p.inc) ∧ w'.cell? ⟨rp, 3, none⟩ = some (.int .i64 p.seq) ∧ w'.cell? ⟨rp, 4, none⟩ = some (.int .i64 p.ack) ∧ w'.cell? ⟨rp, 5, none⟩ = some (.string p.load)) w' := fun w' a => ⟨cell_at a rfl, cell_at a rfl, cell_at a rfl, cell_at a rfl, cell_at a rfl, cell_at a rfl⟩
  have HMK := Lib.hid hmk
  have hS : (fun w' : World => w'.cell? ⟨rp, 0, none⟩ = some (.int .i64 p.ch) ∧ w'.cell? ⟨rp, 1, none⟩ = some (.int .i64 p.back) ∧ w'.cell? ⟨rp, 2, none⟩ = some (.int .i64 p.inc) ∧ w'.cell? ⟨rp, 3, none⟩ = some (.int .i64 p.seq) ∧ w'.cell? ⟨rp, 4, none⟩ = some (.int .i64 p.ack) ∧ w'.cell? ⟨rp, 5, none⟩ = some (.string p.load)) wM.drew := HMK.out _ HPM.out
  have KS := Lib.hid (And.intro k1 (And.intro k2 (And.intro k3 (And.intro k4 (And.intro k5 (And.intro k6 (And.intro k7 (And.intro k8 (And.intro k9 k10)))))))))
  have HPF := Lib.hid hpF
  have HPG := Lib.hid hpG
  have HPH := Lib.hid hpH
  have HSN := Lib.hid hN
  clear hmk k1 k2 k3 k4 k5 k6 k7 k8 k9 k10 hsM hMr own ownM ownD etk zF zP zQ bF hpF hpG hpH hN
  refine AnyTo.region (m := 12) (S := (fun w' : World => w'.cell? ⟨rp, 0, none⟩ = some (.int .i64 p.ch) ∧ w'.cell? ⟨rp, 1, none⟩ = some (.int .i64 p.back) ∧ w'.cell? ⟨rp, 2, none⟩ = some (.int .i64 p.inc) ∧ w'.cell? ⟨rp, 3, none⟩ = some (.int .i64 p.seq) ∧ w'.cell? ⟨rp, 4, none⟩ = some (.int .i64 p.ack) ∧ w'.cell? ⟨rp, 5, none⟩ = some (.string p.load))) mixed ?_
  refine AnyTo.take (i := 1) (v := ?vq1) rfl (by kernel_rfl) (by kernel_rfl) (by kernel_rfl) (by kernel_rfl) (fun _ _ _ h => hQp _ _ _ _ _ h) (Or.inl ⟨by rfl, ?hyq1⟩) hS ?restq1
  case hyq1 => (intro w' hw'; (try dsimp only at hw'); go_simp; try (with_reducible rfl))
  try simp only [Act.put, List.setIfInBounds_toArray, List.set_cons_zero, List.set_cons_succ]
  refine AnyTo.take (i := 2) (v := ?vq2) rfl (by kernel_rfl) (by kernel_rfl) (by kernel_rfl) (by kernel_rfl) (fun _ _ _ h => hQp _ _ _ _ _ h) (Or.inl ⟨by rfl, ?hyq2⟩) hS ?restq2
  case hyq2 => (intro w' hw'; (try dsimp only at hw'); go_simp; try (with_reducible rfl))
  try simp only [Act.put, List.setIfInBounds_toArray, List.set_cons_zero, List.set_cons_succ]
  refine AnyTo.take (i := 3) (v := .slice aoR m cR) rfl (by kernel_rfl) (by kernel_rfl) (by kernel_rfl) (by kernel_rfl) (fun _ _ _ h => hQp _ _ _ _ _ h) (Or.inl ⟨by rfl, ?hyq3⟩) hS ?restq3
  case hyq3 => exact fun w' _ => exec_cut_hi rfl (by simp [Act.eval, Act.put]) (by simp [Act.eval, Act.put]) under_pks' (HTK.out w')
  try simp only [Act.put, List.setIfInBounds_toArray, List.set_cons_zero, List.set_cons_succ]
  refine AnyTo.take (i := 5) (v := ?vq5) rfl (by kernel_rfl) (by kernel_rfl) (by kernel_rfl) (by kernel_rfl) (fun _ _ _ h => hQp _ _ _ _ _ h) (Or.inl ⟨by rfl, ?hyq5⟩) hS ?restq5
  case hyq5 => (intro w' hw'; (try dsimp only at hw'); go_simp; try (with_reducible rfl))
  try simp only [Act.put, List.setIfInBounds_toArray, List.set_cons_zero, List.set_cons_succ]
  refine AnyTo.take (i := 8) (v := ?vq8) rfl (by kernel_rfl) (by kernel_rfl) (by kernel_rfl) (by kernel_rfl) (fun _ _ _ h => hQp _ _ _ _ _ h) (Or.inl ⟨by rfl, ?hyq8⟩) hS ?restq8
  case hyq8 => (intro w' hw'; (try dsimp only at hw'); go_simp; try (with_reducible rfl))
  try simp only [Act.put, List.setIfInBounds_toArray, List.set_cons_zero, List.set_cons_succ]
  refine AnyTo.take (i := 9) (v := ?vq9) rfl (by kernel_rfl) (by kernel_rfl) (by kernel_rfl) (by kernel_rfl) (fun _ _ _ h => hQp _ _ _ _ _ h) (Or.inl ⟨by rfl, ?hyq9⟩) hS ?restq9
  case hyq9 => (intro w' hw'; (try dsimp only at hw'); go_simp; try (with_reducible rfl))
  try simp only [Act.put, List.setIfInBounds_toArray, List.set_cons_zero, List.set_cons_succ]
  refine AnyTo.take (i := 10) (v := VD) rfl (by kernel_rfl) (by kernel_rfl) (by kernel_rfl) (by kernel_rfl) (fun _ _ _ h => hQp _ _ _ _ _ h) (Or.inl ⟨by rfl, ?hyq10⟩) hS ?restq10
  case hyq10 => exact fun w' _ => exec_cut rfl (by simp [Act.eval, Act.put]) (by simp [Act.eval, Act.put]) under_pks' (HDR.out w')
  try simp only [Act.put, List.setIfInBounds_toArray, List.set_cons_zero, List.set_cons_succ]
  refine AnyTo.two (i := 0) (j := 6) (by kernel_rfl) rfl rfl (fun K hK => ?_) (fun K hK => ?_)
  · go_simp
    refine hK.out _ _ (fun _ => HMK.out _ (HPF.out)) ?_
    clear hK K
    try simp only [Act.put, List.setIfInBounds_toArray, List.set_cons_zero, List.set_cons_succ]
    refine AnyTo.two (i := 4) (j := 6) (by kernel_rfl) rfl rfl (fun K hK => ?_) (fun K hK => ?_)
    · refine step_append_run (t := 28) rfl rfl (v := .slice (some ⟨wM.heap.size, 0, none⟩) 0 0) (u := .slice aoR m cR) (by simp [Act.eval, Act.put]) (by simp [Act.eval, Act.put]) HA1.out ?_
      refine hK.out _ _ (fun _ => HMK.out _ (KS.out.1)) ?_
      clear hK K
      try simp only [Act.put, List.setIfInBounds_toArray, List.set_cons_zero, List.set_cons_succ]
      refine AnyTo.step (i := 6) (by kernel_rfl) rfl (fun K hK => ?_)
      go_simp
      refine hK.out _ _ (fun _ => HMK.out _ (KS.out.2.1)) ?_
      clear hK K
      try simp only [Act.put, List.setIfInBounds_toArray, List.set_cons_zero, List.set_cons_succ]
      refine AnyTo.step (i := 7) (by kernel_rfl) rfl (fun K hK => ?_)
      refine step_append_run (t := 28) rfl rfl (v := .slice ao1 m cc1) (u := .slice (some ⟨w1a.heap.size, 0, none⟩) 1 1) (by simp [Act.eval, Act.put]) (by simp [Act.eval, Act.put]) HA2.out ?_
      refine hK.out _ _ (fun _ => HMK.out _ (KS.out.2.2.1)) ?_
      clear hK K
      try simp only [Act.put, List.setIfInBounds_toArray, List.set_cons_zero, List.set_cons_succ]
      refine AnyTo.step (i := 11) (by kernel_rfl) rfl (fun K hK => ?_)
      refine step_append_run (t := 28) rfl rfl (v := .slice ao2 (m + 1) cc2) (u := VD) (by simp [Act.eval, Act.put]) (by simp [Act.eval, Act.put]) HA3.out ?_
      refine hK.out _ _ (fun _ => HMK.out _ (KS.out.2.2.2.1)) ?_
      clear hK K
      try simp only [Act.put, List.setIfInBounds_toArray, List.set_cons_zero, List.set_cons_succ]
      refine AnyTo.step (i := 12) (by kernel_rfl) rfl (fun K hK => ?_)
      go_simp
      refine hK.out _ _ (fun z => absurd rfl z) ?_
      clear hK K
      try simp only [Act.put, List.setIfInBounds_toArray, List.set_cons_zero, List.set_cons_succ]
      refine AnyTo.done (by kernel_rfl) ?_
      exact hQ _ _ _ _ _ _ _ _ _ _ _ _ _ _ _ HAT.out HAB.out
    · go_simp
      refine hK.out _ _ (fun _ => HMK.out _ (HPG.out)) ?_
      clear hK K
      try simp only [Act.put, List.setIfInBounds_toArray, List.set_cons_zero, List.set_cons_succ]
      refine AnyTo.step (i := 4) (by kernel_rfl) rfl (fun K hK => ?_)
      refine step_append_run (t := 28) rfl rfl (v := .slice (some ⟨wM.heap.size, 0, none⟩) 0 0) (u := .slice aoR m cR) (by simp [Act.eval, Act.put]) (by simp [Act.eval, Act.put]) HB1'.out ?_
      refine hK.out _ _ (fun _ => HMK.out _ (KS.out.2.2.2.2.1)) ?_
      clear hK K
      try simp only [Act.put, List.setIfInBounds_toArray, List.set_cons_zero, List.set_cons_succ]
      refine AnyTo.step (i := 7) (by kernel_rfl) rfl (fun K hK => ?_)
      refine step_append_run (t := 28) rfl rfl (v := .slice ao4 m cc4) (u := .slice (some ⟨wM.heap.size + 1, 0, none⟩) 1 1) (by simp [Act.eval, Act.put]) (by simp [Act.eval, Act.put]) HB2'.out ?_
      refine hK.out _ _ (fun _ => HMK.out _ (KS.out.2.2.2.2.2.1)) ?_
      clear hK K
      try simp only [Act.put, List.setIfInBounds_toArray, List.set_cons_zero, List.set_cons_succ]
      refine AnyTo.step (i := 11) (by kernel_rfl) rfl (fun K hK => ?_)
      refine step_append_run (t := 28) rfl rfl (v := .slice ao5 (m + 1) cc5) (u := VD) (by simp [Act.eval, Act.put]) (by simp [Act.eval, Act.put]) HB3'.out ?_
      refine hK.out _ _ (fun _ => HMK.out _ (KS.out.2.2.2.2.2.2.1)) ?_
      clear hK K
      try simp only [Act.put, List.setIfInBounds_toArray, List.set_cons_zero, List.set_cons_succ]
      refine AnyTo.step (i := 12) (by kernel_rfl) rfl (fun K hK => ?_)
      go_simp
      refine hK.out _ _ (fun z => absurd rfl z) ?_
      clear hK K
      try simp only [Act.put, List.setIfInBounds_toArray, List.set_cons_zero, List.set_cons_succ]
      refine AnyTo.done (by kernel_rfl) ?_
      exact hQ _ _ _ _ _ _ _ _ _ _ _ _ _ _ _ HBT.out HBB.out
  · go_simp
    refine hK.out _ _ (fun _ => HMK.out _ (heap_alloc_same HPM.out _)) ?_
    clear hK K
    try simp only [Act.put, List.setIfInBounds_toArray, List.set_cons_zero, List.set_cons_succ]
    refine AnyTo.step (i := 0) (by kernel_rfl) rfl (fun K hK => ?_)
    go_simp
    refine hK.out _ _ (fun _ => HMK.out _ (HPH.out)) ?_
    clear hK K
    try simp only [Act.put, List.setIfInBounds_toArray, List.set_cons_zero, List.set_cons_succ]
    refine AnyTo.step (i := 4) (by kernel_rfl) rfl (fun K hK => ?_)
    refine step_append_run (t := 28) rfl rfl (v := .slice (some ⟨wM.heap.size + 1, 0, none⟩) 0 0) (u := .slice aoR m cR) (by simp [Act.eval, Act.put]) (by simp [Act.eval, Act.put]) HC1'.out ?_
    refine hK.out _ _ (fun _ => HMK.out _ (KS.out.2.2.2.2.2.2.2.1)) ?_
    clear hK K
    try simp only [Act.put, List.setIfInBounds_toArray, List.set_cons_zero, List.set_cons_succ]
    refine AnyTo.step (i := 7) (by kernel_rfl) rfl (fun K hK => ?_)
    refine step_append_run (t := 28) rfl rfl (v := .slice ao7 m cc7) (u := .slice (some ⟨wM.heap.size, 0, none⟩) 1 1) (by simp [Act.eval, Act.put]) (by simp [Act.eval, Act.put]) HC2'.out ?_
    refine hK.out _ _ (fun _ => HMK.out _ (KS.out.2.2.2.2.2.2.2.2.1)) ?_
    clear hK K
    try simp only [Act.put, List.setIfInBounds_toArray, List.set_cons_zero, List.set_cons_succ]
    refine AnyTo.step (i := 11) (by kernel_rfl) rfl (fun K hK => ?_)
    refine step_append_run (t := 28) rfl rfl (v := .slice ao8 (m + 1) cc8) (u := VD) (by simp [Act.eval, Act.put]) (by simp [Act.eval, Act.put]) HC3'.out ?_
    refine hK.out _ _ (fun _ => HMK.out _ (KS.out.2.2.2.2.2.2.2.2.2)) ?_
    clear hK K
    try simp only [Act.put, List.setIfInBounds_toArray, List.set_cons_zero, List.set_cons_succ]
    refine AnyTo.step (i := 12) (by kernel_rfl) rfl (fun K hK => ?_)
    go_simp
    refine hK.out _ _ (fun z => absurd rfl z) ?_
    clear hK K
    try simp only [Act.put, List.setIfInBounds_toArray, List.set_cons_zero, List.set_cons_succ]
    refine AnyTo.done (by kernel_rfl) ?_
    exact hQ _ _ _ _ _ _ _ _ _ _ _ _ _ _ _ HCT.out HCB.out
end Go.Proofs.Ytecpgkcoehnpbaa
