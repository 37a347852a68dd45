/- Layer 15: the region of LogPlays that makes 'next' draws its order: walked by itself, over a frame of letters. -/
import Derived.Test.YtpnmhpkpkejdiaaLogJ
import Derived.Test.YtpnmhpkpkejdiaaAnyAll
set_option linter.unusedSimpArgs false
namespace Go.Proofs.Ytpnmhpkpkejdiaa
open Go.ChangeShapes Go.WideShapes Go.ChangeAt Go.RowKit

/-- the region of a number, out of a function's code -/
def regionAt (n : Nat) : Code → Option Code
  | .region i o d => if i == n then some (.region i o d) else none
  | .seq a b => match regionAt n a with
    | some c => some c
    | none => regionAt n b
  | .loop c => regionAt n c
  | .block _ c => regionAt n c
  | .scope c => regionAt n c
  | .cond _ a b => match regionAt n a with
    | some c => some c
    | none => regionAt n b
  | _ => none
theorem str_one (l : List ByteArray) : ∀ u ∈ strCells l, u.oneCell' = true := by
  intro u hu
  obtain ⟨x, _, rfl⟩ := List.mem_map.1 hu
  rfl
/-- append([]string{}, has...), the empty slice just made -/
theorem next_one {w : World} {b0 lo : Nat} {ha : Option Addr} {hc : Nat} {has : List ByteArray} (hb : w.heap[b0]? = some (.cells #[] 9 (0, 0))) (hlo : lo ≤ b0) (hs : Sl w (fun k => k < lo) 9 1 (.slice ha has.length hc) has.length (strCells has)) (hl : has.length ≤ 100000) :
    ∃ aa ac w2, Sem.run Try.prog (Builtin.append_ #[22, 22] 22 #[.slice (some ⟨b0, 0, none⟩) 0 0, .slice ha has.length hc]) w = .ok (.slice aa has.length ac) w2 ∧ Sl w2 (fun k => k = b0 ∨ k = w.heap.size) 9 1 (.slice aa has.length ac) has.length (strCells has) ∧ Chg w w2 (fun k => k = b0) := by
  obtain ⟨i0, hi, hz0, hz1, hz2⟩ := info_parts Try.infoStr
  have base : Sl w (fun k => k = b0) 9 1 (.slice (some ⟨b0, 0, none⟩) 0 0) 0 [] := ⟨by simp, .inr ⟨b0, 0, 0, #[], rfl, rfl, hb, Nat.le_refl _, by unfold maxLen; omega, by simp, rfl⟩⟩
  obtain ⟨v', w2, hrun, h2, c2⟩ := run_append_sl (P := Try.prog) 22 22 9 i0 (.string ByteArray.empty) 1 16 under_strl hi hz0 hz1 hz2 rfl base (hs.news (str_one _)) (by unfold maxLen; omega) (by omega)
  rw [List.nil_append, Nat.zero_add] at h2
  obtain ⟨aa, ac, rfl, _, _⟩ := h2.shape
  exact ⟨aa, ac, w2, hrun, h2.mono fun k _ a => a.imp And.left id, c2.mono fun k _ a => (Option.some.inj a).symm⟩
set_option maxRecDepth 1000000 in
set_option maxHeartbeats 6400000 in
theorem nextReg {v : World} {X hn hc : Nat} {ha : Option Addr} {s : ByteArray} {has : List ByteArray} {Q : Exit → Act → World → Prop} {u0 u1 u2 u3 u4 u5 u6 u7 u9 u10 u11 u13 u14 u15 u16 u17 u18 u19 u20 u21 u22 u23 u24 u25 u26 u27 u28 u29 u30 u31 u32 u33 u34 u35 u36 u37 u38 u39 u40 u41 u42 u43 u44 u45 u46 u47 u48 u49 u50 u51 u52 u53 u54 u55 u56 u57 u58 u59 u60 u61 u62 u63 u64 u65 u66 u67 u68 u69 u70 u71 u72 u73 u74 u75 u76 u77 u78 u79 u80 u81 u82 u83 u84 u85 u86 u87 u88 u89 u90 u91 u92 u93 u94 u95 u96 u97 u98 u99 u100 u101 u102 u103 u104 u105 u106 u107 u108 u109 u110 u111 u112 u113 u114 u115 u116 u117 u118 u119 u120 u121 u122 u123 u124 u125 u126 u127 u128 u129 u130 u131 u132 u133 u134 u135 u136 u137 u138 u139 u140 u141 u142 u143 u144 u145 u146 u147 u148 u149 u150 u151 u152 u153 u154 u155 u156 u157 u158 u159 u160 u161 u162 u163 u164 u165 u166 u167 u168 u169 u170 u171 u172 u173 u174 u175 u176 u177 u178 u179 u180 u181 u182 u183 u184 u185 u186 u187 u188 u189 u190 u191 u192 u193 u194 u195 u196 u197 u198 u199 u200 u201 u202 u203 u204 : Value} (hh : Sl v (fun k => k < v.heap.size) 9 1 (.slice ha hn hc) has.length (strCells has)) (hl : has.length = hn) (hl1 : hn ≤ 100000) (hX : v.cell? ⟨X, 2, none⟩ = some (.string s))
    (hQp : ∀ c a w (d : Nat) v, Q (.panic c) (Act.put a (some d) v) w → Q (.panic c) a w) (hQ : ∀ (w' : World) (na : Option Addr) (nn nc : Nat) (x48 x49 x50 x51 x52 x53 x54 : Value), Sl w' (fun k => v.heap.size ≤ k) 9 1 (.slice na nn nc) (has ++ [s]).length (strCells (has ++ [s])) → Below v.heap.size v w' → Q .normal ⟨#[u0, u1, u2, u3, u4, u5, u6, u7, .slice ha hn hc, u9, u10, u11, .pointer (some ⟨X, 0, none⟩), u13, .slice na nn nc, u15, u16, u17, u18, u19, u20, u21, u22, u23, u24, u25, u26, u27, u28, u29, u30, u31, u32, u33, u34, u35, u36, u37, u38, u39, u40, u41, u42, u43, u44, u45, u46, u47, x48, x49, x50, x51, x52, x53, x54, u55, u56, u57, u58, u59, u60, u61, u62, u63, u64, u65, u66, u67, u68, u69, u70, u71, u72, u73, u74, u75, u76, u77, u78, u79, u80, u81, u82, u83, u84, u85, u86, u87, u88, u89, u90, u91, u92, u93, u94, u95, u96, u97, u98, u99, u100, u101, u102, u103, u104, u105, u106, u107, u108, u109, u110, u111, u112, u113, u114, u115, u116, u117, u118, u119, u120, u121, u122, u123, u124, u125, u126, u127, u128, u129, u130, u131, u132, u133, u134, u135, u136, u137, u138, u139, u140, u141, u142, u143, u144, u145, u146, u147, u148, u149, u150, u151, u152, u153, u154, u155, u156, u157, u158, u159, u160, u161, u162, u163, u164, u165, u166, u167, u168, u169, u170, u171, u172, u173, u174, u175, u176, u177, u178, u179, u180, u181, u182, u183, u184, u185, u186, u187, u188, u189, u190, u191, u192, u193, u194, u195, u196, u197, u198, u199, u200, u201, u202, u203, u204], []⟩ w') :
    Code.wp Try.prog (((Try.f14.body).bind (regionAt 17)).getD .skip) Q ⟨#[u0, u1, u2, u3, u4, u5, u6, u7, .slice ha hn hc, u9, u10, u11, .pointer (some ⟨X, 0, none⟩), u13, u14, u15, u16, u17, u18, u19, u20, u21, u22, u23, u24, u25, u26, u27, u28, u29, u30, u31, u32, u33, u34, u35, u36, u37, u38, u39, u40, u41, u42, u43, u44, u45, u46, u47, u48, u49, u50, u51, u52, u53, u54, u55, u56, u57, u58, u59, u60, u61, u62, u63, u64, u65, u66, u67, u68, u69, u70, u71, u72, u73, u74, u75, u76, u77, u78, u79, u80, u81, u82, u83, u84, u85, u86, u87, u88, u89, u90, u91, u92, u93, u94, u95, u96, u97, u98, u99, u100, u101, u102, u103, u104, u105, u106, u107, u108, u109, u110, u111, u112, u113, u114, u115, u116, u117, u118, u119, u120, u121, u122, u123, u124, u125, u126, u127, u128, u129, u130, u131, u132, u133, u134, u135, u136, u137, u138, u139, u140, u141, u142, u143, u144, u145, u146, u147, u148, u149, u150, u151, u152, u153, u154, u155, u156, u157, u158, u159, u160, u161, u162, u163, u164, u165, u166, u167, u168, u169, u170, u171, u172, u173, u174, u175, u176, u177, u178, u179, u180, u181, u182, u183, u184, u185, u186, u187, u188, u189, u190, u191, u192, u193, u194, u195, u196, u197, u198, u199, u200, u201, u202, u203, u204], []⟩ v := by
  conv => arg 2; whnf
  have mixed : Try.prog.follows .mixedOrders = true := by kernel_rfl
  subst hl
  have hXl := block_lt_of_cell hX
  have hXl' : X < v.heap.size := hXl
  have keepS : ∀ w' : World, Below v.heap.size v w' → (fun w' => w'.cell? ⟨X, 2, none⟩ = some (.string s) : World → Prop) w' := fun w' hb => (hb.cell (p := ⟨X, 2, none⟩) hXl').trans hX
  have e12 : (has ++ [s]).length = has.length + 1 := by simp
  -- the empty slice, then all of has, then the text
  have bA : Below v.heap.size v ((v.alloc (.cells #[] 9)).drew) := ((Below.refl _ _).alloc (Nat.le_refl _) _).drew
  have hA : ((v.alloc (.cells #[] 9)).drew).heap[v.heap.size]? = some (.cells #[] 9 (0, 0)) := heap_alloc_new v _
  have zA : ((v.alloc (.cells #[] 9)).drew).heap.size = v.heap.size + 1 := World.size_alloc _ _
  obtain ⟨aa, ac, wa2, hra, hsa, hca⟩ := next_one hA (Nat.le_refl _) (sl_below hh bA (Nat.le_refl _)) hl1
  have za2 := hca.size
  have ba2 : Below v.heap.size v wa2 := bA.trans (hca.below (by omega) (fun i hi a => by omega))
  obtain ⟨va, wa4, hra2, hsa2, hca2⟩ := append_str s (w := wa2.alloc (.cells #[.string s] 9)) (hsa.keep fun k _ hk => Below.heap_alloc _ _ _ hk) (heap_alloc_new _ _) (by omega)
  obtain ⟨na, nc, rfl, _, _⟩ := hsa2.shape
  have za3 : (wa2.alloc (.cells #[.string s] 9)).heap.size = wa2.heap.size + 1 := World.size_alloc _ _
  have ba3 : Below v.heap.size v (wa2.alloc (.cells #[.string s] 9)) := ba2.alloc (by omega) _
  have ba4 : Below v.heap.size v wa4 := ba3.trans (hca2.below (by omega) (fun i hi a => by
    have := (own_lt (hsa.keep (w' := wa2.alloc (.cells #[.string s] 9)) fun k _ hk => Below.heap_alloc _ _ _ hk) a).1
    omega))
  have HSA1 := Lib.hid (keepS _ bA)
  have HSA2 := Lib.hid (keepS _ ba2)
  have HSA3 := Lib.hid (keepS _ ba3)
  have HSA := Lib.hid (keepS _ ba4)
  have HA1 := Lib.hid hra
  have HA2 := Lib.hid hra2
  have HSLA : Hid (Sl wa4 (fun k => v.heap.size ≤ k) 9 1 (.slice na (has.length + 1) nc) (has ++ [s]).length (strCells (has ++ [s]))) := by
    show Sl _ _ _ _ _ (has ++ [s]).length _
    rw [e12]
    exact hsa2.mono fun k _ a => by omega
  have HBLA := Lib.hid ba4
  have bC : Below v.heap.size v (((v.alloc (.cells #[] 9)).alloc (.cells #[.string s] 9)).drew) := (((Below.refl _ _).alloc (Nat.le_refl _) _).alloc (by rw [World.size_alloc]; omega) _).drew
  have hC0 : (((v.alloc (.cells #[] 9)).alloc (.cells #[.string s] 9)).drew).heap[v.heap.size]? = some (.cells #[] 9 (0, 0)) := heap_alloc_same (heap_alloc_new v _) _
  have hC1 : (((v.alloc (.cells #[] 9)).alloc (.cells #[.string s] 9)).drew).heap[v.heap.size + 1]? = some (.cells #[.string s] 9 (0, 0)) := by have := heap_alloc_new (v.alloc (.cells #[] 9)) (.cells #[.string s] 9); rw [World.size_alloc] at this; exact this
  have zC : (((v.alloc (.cells #[] 9)).alloc (.cells #[.string s] 9)).drew).heap.size = v.heap.size + 2 := by show (World.alloc _ _).heap.size = _; rw [World.size_alloc, World.size_alloc]
  obtain ⟨ca, cc, wc2, hrc, hsc, hcc⟩ := next_one hC0 (by omega) (sl_below hh bC (Nat.le_refl _)) hl1
  have zc2 := hcc.size
  have bc2 : Below v.heap.size v wc2 := bC.trans (hcc.below (by omega) (fun i hi a => by omega))
  have hc2 := hcc.heap hC1 (by omega)
  obtain ⟨vc, wc4, hrc2, hsc2, hcc2⟩ := append_str s hsc hc2 (by omega)
  obtain ⟨nc, mc, rfl, _, _⟩ := hsc2.shape
  have bc4 : Below v.heap.size v wc4 := bc2.trans (hcc2.below (by omega) (fun i hi a => by
    have := (own_lt hsc a).1
    omega))
  have HSC1 := Lib.hid (keepS _ bC)
  have HSC2 := Lib.hid (keepS _ bc2)
  have HSC := Lib.hid (keepS _ bc4)
  have HC1 := Lib.hid hrc
  have HC2 := Lib.hid hrc2
  have HSLC : Hid (Sl wc4 (fun k => v.heap.size ≤ k) 9 1 (.slice nc (has.length + 1) mc) (has ++ [s]).length (strCells (has ++ [s]))) := by
    show Sl _ _ _ _ _ (has ++ [s]).length _
    rw [e12]
    exact hsc2.mono fun k _ a => by omega
  have HBLC := Lib.hid bc4
  have bD : Below v.heap.size v (((v.alloc (.cells #[.string s] 9)).alloc (.cells #[] 9)).drew) := (((Below.refl _ _).alloc (Nat.le_refl _) _).alloc (by rw [World.size_alloc]; omega) _).drew
  have hD0 : (((v.alloc (.cells #[.string s] 9)).alloc (.cells #[] 9)).drew).heap[v.heap.size + 1]? = some (.cells #[] 9 (0, 0)) := by have := heap_alloc_new (v.alloc (.cells #[.string s] 9)) (.cells #[] 9); rw [World.size_alloc] at this; exact this
  have hD1 : (((v.alloc (.cells #[.string s] 9)).alloc (.cells #[] 9)).drew).heap[v.heap.size]? = some (.cells #[.string s] 9 (0, 0)) := heap_alloc_same (heap_alloc_new v _) _
  have zD : (((v.alloc (.cells #[.string s] 9)).alloc (.cells #[] 9)).drew).heap.size = v.heap.size + 2 := by show (World.alloc _ _).heap.size = _; rw [World.size_alloc, World.size_alloc]
  obtain ⟨da, dc, wd2, hrd, hsd, hcd⟩ := next_one hD0 (by omega) (sl_below hh bD (Nat.le_refl _)) hl1
  have zd2 := hcd.size
  have bd2 : Below v.heap.size v wd2 := bD.trans (hcd.below (by omega) (fun i hi a => by omega))
  have hd2 := hcd.heap hD1 (by omega)
  obtain ⟨vd, wd4, hrd2, hsd2, hcd2⟩ := append_str s hsd hd2 (by omega)
  obtain ⟨nd, md, rfl, _, _⟩ := hsd2.shape
  have bd4 : Below v.heap.size v wd4 := bd2.trans (hcd2.below (by omega) (fun i hi a => by
    have := (own_lt hsd a).1
    omega))
  have HSD1 := Lib.hid (keepS _ bD)
  have HSD2 := Lib.hid (keepS _ bd2)
  have HSD := Lib.hid (keepS _ bd4)
  have HD1 := Lib.hid hrd
  have HD2 := Lib.hid hrd2
  have HSLD : Hid (Sl wd4 (fun k => v.heap.size ≤ k) 9 1 (.slice nd (has.length + 1) md) (has ++ [s]).length (strCells (has ++ [s]))) := by
    show Sl _ _ _ _ _ (has ++ [s]).length _
    rw [e12]
    exact hsd2.mono fun k _ a => by omega
  have HBLD := Lib.hid bd4
  have HSD0 := Lib.hid (keepS _ (((Below.refl v.heap.size v).alloc (Nat.le_refl _) (.cells #[.string s] 9)).drew))
  clear hsa hsa2 hca hca2 hsc hsc2 hcc hcc2 hsd hsd2 hcd hcd2 hra hra2 hrc hrc2 hrd hrd2 bA ba2 ba3 ba4 bC bc2 bc4 bD bd2 bd4 hA hC0 hC1 hD0 hD1 hc2 hd2 keepS e12 zA zC zD
  have hS : (fun w' => w'.cell? ⟨X, 2, none⟩ = some (.string s) : World → Prop) v.drew := hX
  refine AnyTo.region (m := 99) (S := fun w' => w'.cell? ⟨X, 2, none⟩ = some (.string s)) mixed ?_
  refine AnyTo.takeA (i := 1) (v := ?vn1) rfl (by kernel_rfl) (of_decide_eq_true (by kernel_rfl)) (by kernel_rfl) (by kernel_rfl) (fun c a w h => hQp c a w _ _ h) (Or.inl ⟨by kernel_rfl, ?hyn1⟩) hS ?restn1
  case hyn1 => (intro w' hw'; (try dsimp only at hw'); go_simp; try (with_reducible rfl))
  refine AnyTo.takeA (i := 3) (v := ?vn3) rfl (by kernel_rfl) (of_decide_eq_true (by kernel_rfl)) (by kernel_rfl) (by kernel_rfl) (fun c a w h => hQp c a w _ _ h) (Or.inl ⟨by kernel_rfl, ?hyn3⟩) hS ?restn3
  case hyn3 => (intro w' hw'; (try dsimp only at hw'); go_simp; try (with_reducible rfl))
  refine AnyTo.takeA (i := 4) (v := ?vn4) rfl (by kernel_rfl) (of_decide_eq_true (by kernel_rfl)) (by kernel_rfl) (by kernel_rfl) (fun c a w h => hQp c a w _ _ h) (Or.inl ⟨by kernel_rfl, ?hyn4⟩) hS ?restn4
  case hyn4 => (intro w' hw'; (try dsimp only at hw'); go_simp; try (with_reducible rfl))
  try simp only [Act.put, List.getElem_toArray, List.getElem_cons_zero, List.getElem_cons_succ, List.setIfInBounds_toArray, List.set_cons_zero, List.set_cons_succ]
  refine AnyTo.two (i := 0) (j := 5) (by kernel_rfl) rfl rfl (fun K hK => ?_) (fun K hK => ?_)
  · go_simp
    refine hK.out _ _ (fun _ => HSA1.out) ?_
    clear hK K
    try simp only [Act.put, List.getElem_toArray, List.getElem_cons_zero, List.getElem_cons_succ, List.setIfInBounds_toArray, List.set_cons_zero, List.set_cons_succ]
    refine AnyTo.two (i := 2) (j := 5) (by kernel_rfl) rfl rfl (fun K hK => ?_) (fun K hK => ?_)
    · refine step_append_run (t := 22) rfl rfl (v := .slice (some ⟨v.heap.size, 0, none⟩) 0 0) (u := .slice ha has.length hc) (by simp [Act.eval, Act.put]) (by simp [Act.eval, Act.put]) HA1.out ?_
      refine hK.out _ _ (fun _ => HSA2.out) ?_
      clear hK K
      try simp only [Act.put, List.getElem_toArray, List.getElem_cons_zero, List.getElem_cons_succ, List.setIfInBounds_toArray, List.set_cons_zero, List.set_cons_succ]
      refine AnyTo.step (i := 5) (by kernel_rfl) rfl (fun K hK => ?_)
      go_simp
      refine hK.out _ _ (fun _ => HSA3.out) ?_
      clear hK K
      try simp only [Act.put, List.getElem_toArray, List.getElem_cons_zero, List.getElem_cons_succ, List.setIfInBounds_toArray, List.set_cons_zero, List.set_cons_succ]
      refine AnyTo.step (i := 6) (by kernel_rfl) rfl (fun K hK => ?_)
      refine step_append_run (t := 22) rfl rfl (v := .slice aa has.length ac) (u := .slice (some ⟨wa2.heap.size, 0, none⟩) 1 1) (by simp [Act.eval, Act.put]) (by simp [Act.eval, Act.put]) HA2.out ?_
      refine hK.out _ _ (fun _ => HSA.out) ?_
      clear hK K
      try simp only [Act.put, List.getElem_toArray, List.getElem_cons_zero, List.getElem_cons_succ, List.setIfInBounds_toArray, List.set_cons_zero, List.set_cons_succ]
      refine AnyTo.step (i := 7) (by kernel_rfl) rfl (fun K hK => ?_)
      go_simp
      refine hK.out _ _ (fun _ => HSA.out) ?_
      clear hK K
      try simp only [Act.put, List.getElem_toArray, List.getElem_cons_zero, List.getElem_cons_succ, List.setIfInBounds_toArray, List.set_cons_zero, List.set_cons_succ]
      refine AnyTo.done (by kernel_rfl) ?_
      exact hQ _ _ _ _ _ _ _ _ _ _ _ HSLA.out HBLA.out
    · go_simp
      refine hK.out _ _ (fun _ => HSC1.out) ?_
      clear hK K
      try simp only [Act.put, List.getElem_toArray, List.getElem_cons_zero, List.getElem_cons_succ, List.setIfInBounds_toArray, List.set_cons_zero, List.set_cons_succ]
      refine AnyTo.step (i := 2) (by kernel_rfl) rfl (fun K hK => ?_)
      refine step_append_run (t := 22) rfl rfl (v := .slice (some ⟨v.heap.size, 0, none⟩) 0 0) (u := .slice ha has.length hc) (by simp [Act.eval, Act.put]) (by simp [Act.eval, Act.put]) HC1.out ?_
      refine hK.out _ _ (fun _ => HSC2.out) ?_
      clear hK K
      try simp only [Act.put, List.getElem_toArray, List.getElem_cons_zero, List.getElem_cons_succ, List.setIfInBounds_toArray, List.set_cons_zero, List.set_cons_succ]
      refine AnyTo.step (i := 6) (by kernel_rfl) rfl (fun K hK => ?_)
      refine step_append_run (t := 22) rfl rfl (v := .slice ca has.length cc) (u := .slice (some ⟨v.heap.size + 1, 0, none⟩) 1 1) (by simp [Act.eval, Act.put]) (by simp [Act.eval, Act.put]) HC2.out ?_
      refine hK.out _ _ (fun _ => HSC.out) ?_
      clear hK K
      try simp only [Act.put, List.getElem_toArray, List.getElem_cons_zero, List.getElem_cons_succ, List.setIfInBounds_toArray, List.set_cons_zero, List.set_cons_succ]
      refine AnyTo.step (i := 7) (by kernel_rfl) rfl (fun K hK => ?_)
      go_simp
      refine hK.out _ _ (fun _ => HSC.out) ?_
      clear hK K
      try simp only [Act.put, List.getElem_toArray, List.getElem_cons_zero, List.getElem_cons_succ, List.setIfInBounds_toArray, List.set_cons_zero, List.set_cons_succ]
      refine AnyTo.done (by kernel_rfl) ?_
      exact hQ _ _ _ _ _ _ _ _ _ _ _ HSLC.out HBLC.out
  · go_simp
    refine hK.out _ _ (fun _ => HSD0.out) ?_
    clear hK K
    try simp only [Act.put, List.getElem_toArray, List.getElem_cons_zero, List.getElem_cons_succ, List.setIfInBounds_toArray, List.set_cons_zero, List.set_cons_succ]
    refine AnyTo.step (i := 0) (by kernel_rfl) rfl (fun K hK => ?_)
    go_simp
    refine hK.out _ _ (fun _ => HSD1.out) ?_
    clear hK K
    try simp only [Act.put, List.getElem_toArray, List.getElem_cons_zero, List.getElem_cons_succ, List.setIfInBounds_toArray, List.set_cons_zero, List.set_cons_succ]
    refine AnyTo.step (i := 2) (by kernel_rfl) rfl (fun K hK => ?_)
    refine step_append_run (t := 22) rfl rfl (v := .slice (some ⟨v.heap.size + 1, 0, none⟩) 0 0) (u := .slice ha has.length hc) (by simp [Act.eval, Act.put]) (by simp [Act.eval, Act.put]) HD1.out ?_
    refine hK.out _ _ (fun _ => HSD2.out) ?_
    clear hK K
    try simp only [Act.put, List.getElem_toArray, List.getElem_cons_zero, List.getElem_cons_succ, List.setIfInBounds_toArray, List.set_cons_zero, List.set_cons_succ]
    refine AnyTo.step (i := 6) (by kernel_rfl) rfl (fun K hK => ?_)
    refine step_append_run (t := 22) rfl rfl (v := .slice da has.length dc) (u := .slice (some ⟨v.heap.size, 0, none⟩) 1 1) (by simp [Act.eval, Act.put]) (by simp [Act.eval, Act.put]) HD2.out ?_
    refine hK.out _ _ (fun _ => HSD.out) ?_
    clear hK K
    try simp only [Act.put, List.getElem_toArray, List.getElem_cons_zero, List.getElem_cons_succ, List.setIfInBounds_toArray, List.set_cons_zero, List.set_cons_succ]
    refine AnyTo.step (i := 7) (by kernel_rfl) rfl (fun K hK => ?_)
    go_simp
    refine hK.out _ _ (fun _ => HSD.out) ?_
    clear hK K
    try simp only [Act.put, List.getElem_toArray, List.getElem_cons_zero, List.getElem_cons_succ, List.setIfInBounds_toArray, List.set_cons_zero, List.set_cons_succ]
    refine AnyTo.done (by kernel_rfl) ?_
    exact hQ _ _ _ _ _ _ _ _ _ _ _ HSLD.out HBLD.out
end Go.Proofs.Ytpnmhpkpkejdiaa
