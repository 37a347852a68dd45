/- Layer 15: an op of LogPlays that appends; one that crashes and opens again: walked each by itself. -/
import Derived.Test.YtpnmhpkpkejdiaaLogPlaysA
import Derived.Deep.LoopGhost
import Derived.Deep.CutBlock
set_option linter.unusedSimpArgs false
namespace Go.Proofs.Ytpnmhpkpkejdiaa
open Go.ChangeShapes Go.WideShapes Go.ChangeAt Go.RowKit

/-- the block of a number, out of a function's code -/
def blockAt (n : Nat) : Code → Option Code
  | .block i c => if i == n then some (.block i c) else blockAt n c
  | .seq a b => match blockAt n a with
    | some c => some c
    | none => blockAt n b
  | .loop c => blockAt n c
  | .scope c => blockAt n c
  | .cond _ a b => match blockAt n a with
    | some c => some c
    | none => blockAt n b
  | _ => none
set_option maxRecDepth 1000000 in
set_option maxHeartbeats 12800000 in
theorem lpK0 {K : Act → World → Prop} {Q0 : Exit → Act → World → Prop} {u1 u2 u3 u4 u7 u11 u13 u14 u15 u16 u17 u18 u19 u20 u21 u22 u23 u24 u25 u26 u27 u28 u29 u30 u31 u32 u33 u34 u35 u36 u37 u38 u39 u40 u42 u43 u44 u45 u46 u47 u48 u49 u50 u51 u52 u53 u54 u55 u56 u57 u58 u59 u60 u61 u62 u63 u64 u65 u66 u67 u68 u69 u70 u71 u72 u73 u74 u75 u76 u77 u78 u79 u80 u81 u82 u83 u84 u85 u86 u87 u88 u89 u90 u91 u92 u93 u94 u95 u96 u97 u98 u99 u100 u101 u102 u103 u104 u105 u106 u107 u108 u109 u110 u111 u112 u113 u114 u115 u116 u117 u118 u119 u120 u121 u122 u123 u124 u125 u126 u127 u128 u129 u130 u131 u132 u133 u134 u135 u136 u137 u138 u139 u140 u141 u142 u143 u144 u145 u146 u147 u148 u149 u150 u151 u152 u153 u154 u155 u156 u157 u158 u159 u160 u161 u162 u163 u164 u165 u166 u167 u168 u169 u170 u171 u172 u173 u174 u175 u176 u177 u178 u179 u180 u181 u182 u183 u184 u185 u186 u187 u188 u189 u190 u191 u192 u193 u194 u195 u196 u197 u198 u199 u200 u201 u202 u203 u204 : Value} {w wb : World} {c on oc : Int} {gd gl sz hn mn hcp mcp X okc : Nat} {ha ma oko : Option Addr} {s : DSt} {has might : List ByteArray} {os' : ByteArray} {okp : List Bool} (hc1 : 0 ≤ c) (hc2 : c ≤ 65535) (hs3 : BoolsAt w oko okp) (hs5 : inI64 on) (hkl : os'.size ≤ 300 ∧ okp.length ≤ 100)
    (HN : Hid (has.length = hn ∧ might.length = mn ∧ (bytesL has).length = sz)) (HP : Hid (PlayInv c s has might)) (HLB : Hid (LQ wb w.heap.size (fun q => q = X) gd gl s has (.slice ha hn hcp) (.slice ma mn mcp) has might)) (HBW : Hid (Below w.heap.size w wb)) (HBX : Hid (wb.heap[X]? = some (.cells #[.int .i64 0, .int .i64 on, .string os', .slice oko okp.length okc, .int .i64 oc] 76))) (hXw : w.heap.size ≤ X)
    (hQp : ∀ c a w (d : Nat) v, Q0 (.panic c) (Act.put a (some d) v) w → Q0 (.panic c) a w) (hK : ∀ (tx th tm tz x13 x14 x15 x16 x17 x40 x41 x42 x43 x44 x45 x46 x47 x48 x49 x50 x51 x52 x53 x54 x55 x56 x57 x58 x59 x60 x61 x62 x63 x64 x65 x66 x67 x68 x69 x70 x71 x72 x73 x74 x75 x76 x77 x78 x79 x80 x81 x82 x83 x84 x85 x86 x87 x88 x89 x90 x91 x92 x93 x94 x95 x96 x97 x98 x99 x100 x101 x102 x103 x104 x105 x106 x107 x108 x109 x110 x111 x112 x113 x114 x115 x116 x117 x118 x119 x120 x121 x122 x123 x124 x125 x126 x127 x128 x129 x130 x131 x132 x133 x134 x135 x136 x137 x138 x139 x140 x141 x142 x143 x144 x145 x146 x147 x148 x149 x150 x151 : Value) (wr : World), PlayRel w c gd tx th tm tz wr → K ⟨#[.int .u16 c, u1, u2, u3, u4, .pointer (some ⟨gd, 0, none⟩), tx, u7, th, tm, tz, u11, .pointer (some ⟨X, 0, none⟩), x13, x14, x15, x16, x17, u18, u19, u20, u21, u22, u23, u24, u25, u26, u27, u28, u29, u30, u31, u32, u33, u34, u35, u36, u37, u38, u39, x40, x41, x42, x43, x44, x45, x46, x47, x48, x49, x50, x51, x52, x53, x54, x55, x56, x57, x58, x59, x60, x61, x62, x63, x64, x65, x66, x67, x68, x69, x70, x71, x72, x73, x74, x75, x76, x77, x78, x79, x80, x81, x82, x83, x84, x85, x86, x87, x88, x89, x90, x91, x92, x93, x94, x95, x96, x97, x98, x99, x100, x101, x102, x103, x104, x105, x106, x107, x108, x109, x110, x111, x112, x113, x114, x115, x116, x117, x118, x119, x120, x121, x122, x123, x124, x125, x126, x127, x128, x129, x130, x131, x132, x133, x134, x135, x136, x137, x138, x139, x140, x141, x142, x143, x144, x145, x146, x147, x148, x149, x150, x151, u152, u153, u154, u155, u156, u157, u158, u159, u160, u161, u162, u163, u164, u165, u166, u167, u168, u169, u170, u171, u172, u173, u174, u175, u176, u177, u178, u179, u180, u181, u182, u183, u184, u185, u186, u187, u188, u189, u190, u191, u192, u193, u194, u195, u196, u197, u198, u199, u200, u201, u202, u203, u204], []⟩ wr) :
    Code.wp Try.prog (((Try.f14.body).bind (blockAt 2)).getD .skip) (Exit.then K Q0) ⟨#[.int .u16 c, u1, u2, u3, u4, .pointer (some ⟨gd, 0, none⟩), .pointer (some ⟨gl, 0, none⟩), u7, .slice ha hn hcp, .slice ma mn mcp, .int .i64 sz, u11, .pointer (some ⟨X, 0, none⟩), u13, u14, u15, u16, u17, u18, u19, u20, u21, u22, u23, u24, u25, u26, u27, u28, u29, u30, u31, u32, u33, u34, u35, u36, u37, u38, u39, u40, .int .i64 0, u42, u43, u44, u45, u46, u47, u48, u49, u50, u51, u52, u53, u54, u55, u56, u57, u58, u59, u60, u61, u62, u63, u64, u65, u66, u67, u68, u69, u70, u71, u72, u73, u74, u75, u76, u77, u78, u79, u80, u81, u82, u83, u84, u85, u86, u87, u88, u89, u90, u91, u92, u93, u94, u95, u96, u97, u98, u99, u100, u101, u102, u103, u104, u105, u106, u107, u108, u109, u110, u111, u112, u113, u114, u115, u116, u117, u118, u119, u120, u121, u122, u123, u124, u125, u126, u127, u128, u129, u130, u131, u132, u133, u134, u135, u136, u137, u138, u139, u140, u141, u142, u143, u144, u145, u146, u147, u148, u149, u150, u151, u152, u153, u154, u155, u156, u157, u158, u159, u160, u161, u162, u163, u164, u165, u166, u167, u168, u169, u170, u171, u172, u173, u174, u175, u176, u177, u178, u179, u180, u181, u182, u183, u184, u185, u186, u187, u188, u189, u190, u191, u192, u193, u194, u195, u196, u197, u198, u199, u200, u201, u202, u203, u204], []⟩ wb := by
  conv => arg 2; whnf
  have mixed : Try.prog.follows .mixedOrders = true := by kernel_rfl
  have hzb := HBW.out.size
  have hXb : X < wb.heap.size := heap_lt HBX.out
  have k0 : wb.cell? ⟨X, 0, none⟩ = some (.int .i64 0) := cell_at HBX.out rfl
  have k1 : wb.cell? ⟨X, 1, none⟩ = some (.int .i64 on) := cell_at HBX.out rfl
  have k2 : wb.cell? ⟨X, 2, none⟩ = some (.string os') := cell_at HBX.out rfl
  have k3 : wb.cell? ⟨X, 3, none⟩ = some (.slice oko okp.length okc) := cell_at HBX.out rfl
  have k4 : wb.cell? ⟨X, 4, none⟩ = some (.int .i64 oc) := cell_at HBX.out rfl
  obtain ⟨cd, s', hp⟩ : ∃ cd s', appD s os' = (cd, s') := ⟨_, _, rfl⟩
  have hlh := len_bytes has
  have hfit := HP.out.fits
  have hcx := HP.out.c1
  rw [HN.out.1, HN.out.2.2] at hlh
  rw [HN.out.2.2] at hfit
  have hap := HLB.out.appC 1 os' HP.out.ok (by omega) (by rw [HN.out.1]; omega) (by omega) hzb
  rw [hp] at hap
  have HAP := Lib.hid hap
  have hpl := play_app HP.out os'
  rw [hp] at hpl
  have HPL := Lib.hid hpl
  clear hp hap hpl HLB
  go_wp2_with fail
  refine HAP.out.mono ?_
  rintro e w5 ⟨rfl, b5, y5, h5⟩
  have HL5 := Lib.hid h5
  have HB5 : Hid (Below w.heap.size w w5) := HBW.out.trans b5
  have HX5 : Hid (w5.heap[X]? = some (.cells #[.int .i64 0, .int .i64 on, .string os', .slice oko okp.length okc, .int .i64 oc] 76)) := (y5 X rfl).trans HBX.out
  have hz5 := HB5.out.size
  clear k0 k1 k2 k3 k4
  have k0 : w5.cell? ⟨X, 0, none⟩ = some (.int .i64 0) := cell_at HX5.out rfl
  have k1 : w5.cell? ⟨X, 1, none⟩ = some (.int .i64 on) := cell_at HX5.out rfl
  have k2 : w5.cell? ⟨X, 2, none⟩ = some (.string os') := cell_at HX5.out rfl
  have k3 : w5.cell? ⟨X, 3, none⟩ = some (.slice oko okp.length okc) := cell_at HX5.out rfl
  have k4 : w5.cell? ⟨X, 4, none⟩ = some (.int .i64 oc) := cell_at HX5.out rfl
  clear b5 y5 h5 HAP HBW HBX
  go_wp2_with fail
  have HSH : Hid (Sl w5 (fun k => k < w5.heap.size) 9 1 (.slice ha hn hcp) has.length (strCells has)) := by
    obtain ⟨X9, -, hx2, hx3, -⟩ := id HL5.out
    exact hx3.mono fun k hk _ => hk
  refine nextReg HSH.out HN.out.1 (by omega) k2 hQp ?_
  intro w6 na nn nc x48 x49 x50 x51 x52 x53 x54 hsl hb6
  obtain ⟨_, _, hsh, _, _⟩ := hsl.shape
  simp only [Value.slice.injEq] at hsh
  obtain ⟨-, hnn, -⟩ := hsh
  have hnn' : nn = hn + 1 := by rw [hnn, List.length_append, HN.out.1]; rfl
  subst hnn'
  have HSL := Lib.hid hsl
  have HB6 : Hid (Below w.heap.size w w6) := HB5.out.trans (hb6.mono hz5)
  have HX6 : Hid (w6.heap[X]? = some (.cells #[.int .i64 0, .int .i64 on, .string os', .slice oko okp.length okc, .int .i64 oc] 76)) := below_heap hb6 HX5.out (heap_lt HX5.out)
  have HBB := Lib.hid hb6
  clear k0 k1 k2 k3 k4
  have k0 : w6.cell? ⟨X, 0, none⟩ = some (.int .i64 0) := cell_at HX6.out rfl
  have k1 : w6.cell? ⟨X, 1, none⟩ = some (.int .i64 on) := cell_at HX6.out rfl
  have k2 : w6.cell? ⟨X, 2, none⟩ = some (.string os') := cell_at HX6.out rfl
  have k3 : w6.cell? ⟨X, 3, none⟩ = some (.slice oko okp.length okc) := cell_at HX6.out rfl
  have k4 : w6.cell? ⟨X, 4, none⟩ = some (.int .i64 oc) := cell_at HX6.out rfl
  obtain ⟨FD, hd6, -, -, -⟩ := (HL5.out.below hb6).disk (Nat.le_trans hz5 hb6.size)
  have HDN := Lib.hid (down_any gd s' FD w6 hd6)
  have hz6 := HB6.out.size
  have j1 : IntKind.i64.wrap ((sz : Int) + 8) = (sz : Int) + 8 := IntWalk.i64_in _ (by omega)
  have j2 : IntKind.i64.wrap ((sz : Int) + 8 + (os'.size : Int)) = (sz : Int) + 8 + (os'.size : Int) := IntWalk.i64_in _ (by omega)
  have j3 : IntKind.i64.wrap (8 + (os'.size : Int)) = 8 + (os'.size : Int) := IntWalk.i64_in _ (by omega)
  obtain ⟨sz2, hsz2⟩ : ∃ z, sz + (8 + os'.size) = z := ⟨_, rfl⟩
  have j4 : IntKind.i64.wrap ((sz : Int) + (8 + (os'.size : Int))) = (sz2 : Int) := by rw [IntWalk.i64_in _ (by omega)]; omega
  have HZ2 := Lib.hid hsz2
  clear hsl hnn hb6 hd6 HB5 HX5 HSH hsz2
  rcases HPL.out with ⟨hdn, hp⟩ | ⟨hdn, hfl, hp⟩ | ⟨hdn, hfi, s9, hp, hd9, hi9⟩ | ⟨hdn, hfi, s9, hp, hd9, hi9⟩
  · simp only [Prod.mk.injEq] at hp
    obtain ⟨rfl, rfl⟩ := hp
    rw [hdn] at HDN
    have hmn : mn = hn + 1 := by
      obtain ⟨z, hz, _⟩ := HP.out.dn hdn
      rw [← HN.out.2.1, hz, List.length_append, HN.out.1]; rfl
    have hl5 := HL5.out
    rw [if_neg (show ¬ ((8 : Int) = 0) by decide)] at hl5
    have HL6 := Lib.hid ((hl5.below HBB.out).less (fun q (a : False) => a.elim))
    have d1 : decide ((mn : Int) = (hn : Int)) = false := by rw [decide_eq_false_iff_not]; omega
    have d1b : ((mn : Int) == (hn : Int)) = false := by rw [beq_eq_false_iff_ne]; omega
    have d1n : (mn == hn) = false := by rw [beq_eq_false_iff_ne]; omega
    clear hdn hl5 HPL HL5 HBB HSL hmn
    go_wp2_with fail
    refine HDN.out.mono ?_
    rintro e w6x ⟨rfl, rfl⟩
    clear HDN
    go_wp2_with fail
    skip
    exact ⟨_, _, _, _, _, _, _, _, _, _, _, rfl, rfl, rfl, rfl, HN, HP, HL6, HB6⟩
  · simp only [Prod.mk.injEq] at hp
    obtain ⟨rfl, rfl⟩ := hp
    rw [hdn] at HDN
    rw [HN.out.2.2] at hfl
    have hl5 := HL5.out
    rw [if_neg (show ¬ ((7 : Int) = 0) by decide)] at hl5
    have HL6 := Lib.hid ((hl5.below HBB.out).less (fun q (a : False) => a.elim))
    have d1 : decide (c < (sz : Int) + 8 + (os'.size : Int)) = true := by rw [decide_eq_true_iff]; omega
    clear hdn hl5 HPL HL5 HBB HSL
    go_wp2_with fail
    refine HDN.out.mono ?_
    rintro e w6x ⟨rfl, rfl⟩
    clear HDN
    go_wp2_with fail
    skip
    exact ⟨_, _, _, _, _, _, _, _, _, _, _, rfl, rfl, rfl, rfl, HN, HP, HL6, HB6⟩
  · simp only [Prod.mk.injEq] at hp
    obtain ⟨rfl, rfl⟩ := hp
    rw [hd9] at HDN
    rw [HN.out.2.2] at hfi
    have hmn : mn = hn := by rw [← HN.out.2.1, (HP.out.up hdn).2, HN.out.1]
    subst hmn
    have hl5 := HL5.out
    rw [if_neg (show ¬ ((8 : Int) = 0) by decide)] at hl5
    have HL6 := Lib.hid ((hl5.lists HBB.out (.inl ⟨rfl, rfl⟩) (.inr HSL.out)).less (fun q (a : False) => a.elim))
    have HN6 : Hid (has.length = mn ∧ (has ++ [os']).length = mn + 1 ∧ (bytesL has).length = sz) := ⟨HN.out.1, by rw [List.length_append, HN.out.1]; rfl, HN.out.2.2⟩
    have HP6 := Lib.hid hi9
    have d1 : decide ((sz : Int) + 8 + (os'.size : Int) ≤ c) = true := by rw [decide_eq_true_iff]; omega
    clear hdn hl5 HPL HL5 HBB HSL HN HP hi9 hd9
    go_wp2_with fail
    refine HDN.out.mono ?_
    rintro e w6x ⟨rfl, rfl⟩
    clear HDN
    go_wp2_with fail
    skip
    exact ⟨_, _, _, _, _, _, _, _, _, _, _, rfl, rfl, rfl, rfl, HN6, HP6, HL6, HB6⟩
  · simp only [Prod.mk.injEq] at hp
    obtain ⟨rfl, rfl⟩ := hp
    rw [hd9] at HDN
    rw [HN.out.2.2] at hfi
    have hl5 := HL5.out
    rw [if_pos rfl] at hl5
    have HL6 := Lib.hid ((hl5.lists HBB.out (.inr HSL.out) (.inr HSL.out)).less (fun q (a : False) => a.elim))
    have HN6 : Hid ((has ++ [os']).length = hn + 1 ∧ (has ++ [os']).length = hn + 1 ∧ (bytesL (has ++ [os'])).length = sz2) := ⟨by rw [List.length_append, HN.out.1]; rfl, by rw [List.length_append, HN.out.1]; rfl, by rw [more_bytes, HN.out.2.2]; have := HZ2.out; omega⟩
    have HP6 := Lib.hid hi9
    have d1 : decide (c < (sz : Int) + 8 + (os'.size : Int)) = false := by rw [decide_eq_false_iff_not]; omega
    clear hdn hl5 HPL HL5 HBB HSL HN HP hi9 hd9
    go_wp2_with fail
    refine HDN.out.mono ?_
    rintro e w6x ⟨rfl, rfl⟩
    clear HDN
    go_wp2_with fail
    skip
    exact ⟨_, _, _, _, _, _, _, _, _, _, _, rfl, rfl, rfl, rfl, HN6, HP6, HL6, HB6⟩
set_option maxRecDepth 1000000 in
set_option maxHeartbeats 12800000 in
theorem lpK2 {K : Act → World → Prop} {Q0 : Exit → Act → World → Prop} {u1 u2 u3 u4 u7 u11 u13 u14 u15 u16 u17 u18 u19 u20 u21 u22 u23 u24 u25 u26 u27 u28 u29 u30 u31 u32 u33 u34 u35 u36 u37 u38 u39 u40 u42 u43 u44 u45 u46 u47 u48 u49 u50 u51 u52 u53 u54 u55 u56 u57 u58 u59 u60 u61 u62 u63 u64 u65 u66 u67 u68 u69 u70 u71 u72 u73 u74 u75 u76 u77 u78 u79 u80 u81 u82 u83 u84 u85 u86 u87 u88 u89 u90 u91 u92 u93 u94 u95 u96 u97 u98 u99 u100 u101 u102 u103 u104 u105 u106 u107 u108 u109 u110 u111 u112 u113 u114 u115 u116 u117 u118 u119 u120 u121 u122 u123 u124 u125 u126 u127 u128 u129 u130 u131 u132 u133 u134 u135 u136 u137 u138 u139 u140 u141 u142 u143 u144 u145 u146 u147 u148 u149 u150 u151 u152 u153 u154 u155 u156 u157 u158 u159 u160 u161 u162 u163 u164 u165 u166 u167 u168 u169 u170 u171 u172 u173 u174 u175 u176 u177 u178 u179 u180 u181 u182 u183 u184 u185 u186 u187 u188 u189 u190 u191 u192 u193 u194 u195 u196 u197 u198 u199 u200 u201 u202 u203 u204 : Value} {w wb : World} {c on oc : Int} {gd gl sz hn mn hcp mcp X okc : Nat} {ha ma oko : Option Addr} {s : DSt} {has might : List ByteArray} {os' : ByteArray} {okp : List Bool} (hc1 : 0 ≤ c) (hc2 : c ≤ 65535) (hs3 : BoolsAt w oko okp) (hs5 : inI64 on) (hkl : os'.size ≤ 300 ∧ okp.length ≤ 100)
    (HN : Hid (has.length = hn ∧ might.length = mn ∧ (bytesL has).length = sz)) (HP : Hid (PlayInv c s has might)) (HLB : Hid (LQ wb w.heap.size (fun q => q = X) gd gl s has (.slice ha hn hcp) (.slice ma mn mcp) has might)) (HBW : Hid (Below w.heap.size w wb)) (HBX : Hid (wb.heap[X]? = some (.cells #[.int .i64 2, .int .i64 on, .string os', .slice oko okp.length okc, .int .i64 oc] 76))) (hXw : w.heap.size ≤ X)
    (hQp : ∀ c a w (d : Nat) v, Q0 (.panic c) (Act.put a (some d) v) w → Q0 (.panic c) a w) (hK : ∀ (tx th tm tz x13 x14 x15 x16 x17 x40 x41 x42 x43 x44 x45 x46 x47 x48 x49 x50 x51 x52 x53 x54 x55 x56 x57 x58 x59 x60 x61 x62 x63 x64 x65 x66 x67 x68 x69 x70 x71 x72 x73 x74 x75 x76 x77 x78 x79 x80 x81 x82 x83 x84 x85 x86 x87 x88 x89 x90 x91 x92 x93 x94 x95 x96 x97 x98 x99 x100 x101 x102 x103 x104 x105 x106 x107 x108 x109 x110 x111 x112 x113 x114 x115 x116 x117 x118 x119 x120 x121 x122 x123 x124 x125 x126 x127 x128 x129 x130 x131 x132 x133 x134 x135 x136 x137 x138 x139 x140 x141 x142 x143 x144 x145 x146 x147 x148 x149 x150 x151 : Value) (wr : World), PlayRel w c gd tx th tm tz wr → K ⟨#[.int .u16 c, u1, u2, u3, u4, .pointer (some ⟨gd, 0, none⟩), tx, u7, th, tm, tz, u11, .pointer (some ⟨X, 0, none⟩), x13, x14, x15, x16, x17, u18, u19, u20, u21, u22, u23, u24, u25, u26, u27, u28, u29, u30, u31, u32, u33, u34, u35, u36, u37, u38, u39, x40, x41, x42, x43, x44, x45, x46, x47, x48, x49, x50, x51, x52, x53, x54, x55, x56, x57, x58, x59, x60, x61, x62, x63, x64, x65, x66, x67, x68, x69, x70, x71, x72, x73, x74, x75, x76, x77, x78, x79, x80, x81, x82, x83, x84, x85, x86, x87, x88, x89, x90, x91, x92, x93, x94, x95, x96, x97, x98, x99, x100, x101, x102, x103, x104, x105, x106, x107, x108, x109, x110, x111, x112, x113, x114, x115, x116, x117, x118, x119, x120, x121, x122, x123, x124, x125, x126, x127, x128, x129, x130, x131, x132, x133, x134, x135, x136, x137, x138, x139, x140, x141, x142, x143, x144, x145, x146, x147, x148, x149, x150, x151, u152, u153, u154, u155, u156, u157, u158, u159, u160, u161, u162, u163, u164, u165, u166, u167, u168, u169, u170, u171, u172, u173, u174, u175, u176, u177, u178, u179, u180, u181, u182, u183, u184, u185, u186, u187, u188, u189, u190, u191, u192, u193, u194, u195, u196, u197, u198, u199, u200, u201, u202, u203, u204], []⟩ wr) :
    Code.wp Try.prog (((Try.f14.body).bind (blockAt 2)).getD .skip) (Exit.then K Q0) ⟨#[.int .u16 c, u1, u2, u3, u4, .pointer (some ⟨gd, 0, none⟩), .pointer (some ⟨gl, 0, none⟩), u7, .slice ha hn hcp, .slice ma mn mcp, .int .i64 sz, u11, .pointer (some ⟨X, 0, none⟩), u13, u14, u15, u16, u17, u18, u19, u20, u21, u22, u23, u24, u25, u26, u27, u28, u29, u30, u31, u32, u33, u34, u35, u36, u37, u38, u39, u40, .int .i64 2, u42, u43, u44, u45, u46, u47, u48, u49, u50, u51, u52, u53, u54, u55, u56, u57, u58, u59, u60, u61, u62, u63, u64, u65, u66, u67, u68, u69, u70, u71, u72, u73, u74, u75, u76, u77, u78, u79, u80, u81, u82, u83, u84, u85, u86, u87, u88, u89, u90, u91, u92, u93, u94, u95, u96, u97, u98, u99, u100, u101, u102, u103, u104, u105, u106, u107, u108, u109, u110, u111, u112, u113, u114, u115, u116, u117, u118, u119, u120, u121, u122, u123, u124, u125, u126, u127, u128, u129, u130, u131, u132, u133, u134, u135, u136, u137, u138, u139, u140, u141, u142, u143, u144, u145, u146, u147, u148, u149, u150, u151, u152, u153, u154, u155, u156, u157, u158, u159, u160, u161, u162, u163, u164, u165, u166, u167, u168, u169, u170, u171, u172, u173, u174, u175, u176, u177, u178, u179, u180, u181, u182, u183, u184, u185, u186, u187, u188, u189, u190, u191, u192, u193, u194, u195, u196, u197, u198, u199, u200, u201, u202, u203, u204], []⟩ wb := by
  conv => arg 2; whnf
  have mixed : Try.prog.follows .mixedOrders = true := by kernel_rfl
  have hzb := HBW.out.size
  have hXb : X < wb.heap.size := heap_lt HBX.out
  have k0 : wb.cell? ⟨X, 0, none⟩ = some (.int .i64 2) := cell_at HBX.out rfl
  have k1 : wb.cell? ⟨X, 1, none⟩ = some (.int .i64 on) := cell_at HBX.out rfl
  have k2 : wb.cell? ⟨X, 2, none⟩ = some (.string os') := cell_at HBX.out rfl
  have k3 : wb.cell? ⟨X, 3, none⟩ = some (.slice oko okp.length okc) := cell_at HBX.out rfl
  have k4 : wb.cell? ⟨X, 4, none⟩ = some (.int .i64 oc) := cell_at HBX.out rfl
  obtain ⟨got, hgt, hgi, ho1, ho2, ho3, ho4⟩ := play_reopen HP.out okp oc on hs5.2
  have HGT := Lib.hid hgt
  have HGI := Lib.hid hgi
  have hlq := len_bytes has
  have hfq := HP.out.fits
  rw [HN.out.1, HN.out.2.2] at hlq
  rw [HN.out.2.2] at hfq
  have hmq : mn ≤ hn + 1 := by
    have e1 := HN.out.1
    have e2 := HN.out.2.1
    cases hd : s.down with
    | false =>
      have := (HP.out.up hd).2
      rw [this] at e2
      omega
    | true =>
      obtain ⟨z, hz, _⟩ := HP.out.dn hd
      rw [hz, List.length_append] at e2
      simp only [List.length_singleton] at e2
      omega
  have hlh := len_bytes got
  have hfit := hgi.fits
  have hcx := hgi.c1
  obtain ⟨gn, hgn⟩ : ∃ gn, got.length = gn := ⟨_, rfl⟩
  obtain ⟨gz, hgz⟩ : ∃ gz, (bytesL got).length = gz := ⟨_, rfl⟩
  rw [hgn, hgz] at hlh
  rw [hgz] at hfit
  have HGN : Hid (got.length = gn ∧ got.length = gn ∧ (bytesL got).length = gz) := ⟨hgn, hgn, hgz⟩
  clear hgn hgz hgt hgi
  have HKP : Hid (∀ v : World, Below w.heap.size w v → BoolsAt v oko okp) := fun v hv => hs3.below hv
  have HCR := Lib.hid (HLB.out.crashC 1 HP.out.ok (by omega) hzb okp oko okc oc (HKP.out wb HBW.out) (by omega))
  have HOP : Hid (∀ (v : World), LQ v w.heap.size (fun q => q = X) gd gl ((s.crash okp oc).fuse on) has (.slice ha hn hcp) (.slice ma mn mcp) has might → w.heap.size ≤ v.heap.size → Calls Try.prog 46 #[.pointer (some ⟨gd, 0, none⟩)] v fun e w' => ∃ ty tf, e = .returned (.tuple #[ty, tf]) ∧ Below w.heap.size v w' ∧ (∀ q, q = X → w'.heap[q]? = v.heap[q]?) ∧
      ((tf = .int .i64 0 ∧ ∃ (g2 : Nat) (s4 : DSt), ty = .pointer (some ⟨g2, 0, none⟩) ∧ Hid (s4.fuse (-1) = stClean c got) ∧ Hid (LQ w' w.heap.size (fun q => q = X) gd g2 s4 got (.slice ha hn hcp) (.slice ma mn mcp) has might)) ∨
       (tf = .int .i64 8 ∧ 1 = 1 ∧ ∃ (gl : Nat) (s2 : DSt), Hid (LQ w' w.heap.size (fun q => q = X) gd gl s2 has (.slice ha hn hcp) (.slice ma mn mcp) has might) ∧ Hid (DOk 1 s2 ∧ DOk 1 (s2.crash okp oc) ∧ (s2.crash okp oc).all.length ≤ 1000000 ∧ recsOf (s2.crash okp oc).bytes = got ∧ openD (s2.crash okp oc) = (0, stClean c got))))) := fun v hv hvz => by
    rcases ho4 with ⟨s4, ha4, hb4⟩ | ⟨s2, ha2, hb2, hc2, hd2, he2, hf2⟩
    · refine (hv.openC 1 ho1 (by omega) ho2 hvz s4 0 ha4 got ho3).mono ?_
      rintro e w' ⟨v', h1, h2, h3, h4, -⟩
      obtain ⟨g2, e1, e2⟩ := h4 rfl
      exact ⟨_, _, h1, h2, h3, .inl ⟨rfl, g2, s4, e1, hb4, e2⟩⟩
    · refine (hv.openC 1 ho1 (by omega) ho2 hvz s2 8 ha2 got ho3).mono ?_
      rintro e w' ⟨v', h1, h2, h3, -, h5⟩
      exact ⟨_, _, h1, h2, h3, .inr ⟨rfl, rfl, gl, s2, h5 (by decide), hb2, hc2, hd2, he2, hf2⟩⟩
  clear ho1 ho2 ho3 ho4 hs3 HLB
  go_wp2_with fail
  refine HCR.out.mono ?_
  rintro e w5 ⟨rfl, b5, y5, h5⟩
  have HL5 := Lib.hid h5
  have HB5 : Hid (Below w.heap.size w w5) := HBW.out.trans b5
  have HX5 : Hid (w5.heap[X]? = some (.cells #[.int .i64 2, .int .i64 on, .string os', .slice oko okp.length okc, .int .i64 oc] 76)) := (y5 X rfl).trans HBX.out
  have hz5 := HB5.out.size
  clear k0 k1 k2 k3 k4
  have k0 : w5.cell? ⟨X, 0, none⟩ = some (.int .i64 2) := cell_at HX5.out rfl
  have k1 : w5.cell? ⟨X, 1, none⟩ = some (.int .i64 on) := cell_at HX5.out rfl
  have k2 : w5.cell? ⟨X, 2, none⟩ = some (.string os') := cell_at HX5.out rfl
  have k3 : w5.cell? ⟨X, 3, none⟩ = some (.slice oko okp.length okc) := cell_at HX5.out rfl
  have k4 : w5.cell? ⟨X, 4, none⟩ = some (.int .i64 oc) := cell_at HX5.out rfl
  clear b5 y5 h5 HCR HBW HBX
  have HFU := Lib.hid (HL5.out.fuseC hz5 on)
  clear HL5
  go_wp2_with fail
  refine HFU.out.mono ?_
  rintro e w6 ⟨rfl, b5, y5, h5⟩
  have HL6 := Lib.hid h5
  have HB6 : Hid (Below w.heap.size w w6) := HB5.out.trans b5
  have HX6 : Hid (w6.heap[X]? = some (.cells #[.int .i64 2, .int .i64 on, .string os', .slice oko okp.length okc, .int .i64 oc] 76)) := (y5 X rfl).trans HX5.out
  have hz6 := HB6.out.size
  clear k0 k1 k2 k3 k4
  have k0 : w6.cell? ⟨X, 0, none⟩ = some (.int .i64 2) := cell_at HX6.out rfl
  have k1 : w6.cell? ⟨X, 1, none⟩ = some (.int .i64 on) := cell_at HX6.out rfl
  have k2 : w6.cell? ⟨X, 2, none⟩ = some (.string os') := cell_at HX6.out rfl
  have k3 : w6.cell? ⟨X, 3, none⟩ = some (.slice oko okp.length okc) := cell_at HX6.out rfl
  have k4 : w6.cell? ⟨X, 4, none⟩ = some (.int .i64 oc) := cell_at HX6.out rfl
  clear b5 y5 h5 HFU HB5 HX5
  have HOP6 := Lib.hid (HOP.out w6 HL6.out hz6)
  clear HOP HL6
  go_wp2_with fail
  refine HOP6.out.mono ?_
  rintro e w7 ⟨ty7, tf7, rfl, b7, y7, h7⟩
  have HRE : Hid (ReRel w c gd X (.cells #[.int .i64 2, .int .i64 on, .string os', .slice oko okp.length okc, .int .i64 oc] 76) okp oc (.slice ha hn hcp) (.slice ma mn mcp) has might got 1 ty7 tf7 w7) := ⟨HB6.out.trans b7, (y7 X rfl).trans HX6.out, h7.imp id (fun h => ⟨h.1, rfl, h.2.2⟩)⟩
  clear b7 y7 h7 HOP6 HB6 HX6 k0 k1 k2 k3 k4
  go_wp2_with fail
  go_loopg [15, 16] 1 (fun k ty tf wr => Hid (ReRel w c gd X (.cells #[.int .i64 2, .int .i64 on, .string os', .slice oko okp.length okc, .int .i64 oc] 76) okp oc (.slice ha hn hcp) (.slice ma mn mcp) has might got k ty tf wr))
  case atStart => exact HRE
  case round =>
    clear HRE
    obtain ⟨v0, hv0⟩ : ∃ v0 : World, v0 = wr := ⟨_, rfl⟩
    rw [← hv0] at hrel ⊢
    clear hv0
    obtain ⟨HB7, HX7, h7⟩ := hrel.out
    clear hrel
    have hz7 := HB7.out.size
    rcases h7 with ⟨rfl, g2, s4, rfl, HS4, HL7⟩ | ⟨rfl, rfl, gl2, s2, HL7, HS2⟩
    · have hfu := HL7.out.fuseC hz7 (-1)
      rw [HS4.out] at hfu
      have HFU := Lib.hid hfu
      clear hfu HS4 HL7
      go_wp2_with fail
      refine HFU.out.mono ?_
      rintro e w8 ⟨rfl, b8, -, h8⟩
      have HL8 := Lib.hid h8
      have HB8 : Hid (Below w.heap.size w w8) := HB7.out.trans b8
      have hz8 := HB8.out.size
      clear b8 h8 HFU HB7 HX7
      obtain ⟨FL8, hlg8⟩ := HL8.out.log hz8
      have hal := logAll_sl g2 gd got FL8 w8 hlg8 (by rw [HGN.out.1]; omega)
      rw [HGN.out.1] at hal
      have HAL := Lib.hid hal
      clear hlg8 hal
      go_wp2_with fail
      refine HAL.out.mono ?_
      rintro e w9 ⟨ao9, cp9, rfl, hsl9, b9⟩
      have hsl9' : Sl w9 (fun k => w8.heap.size ≤ k) 9 1 (.slice ao9 gn cp9) got.length (strCells got) := by rw [HGN.out.1]; exact hsl9
      have HB9 : Hid (Below w.heap.size w w9) := HB8.out.trans (b9.mono hz8)
      have hz9 := HB9.out.size
      have HL9 := Lib.hid ((HL8.out.lists (vh' := .slice ao9 gn cp9) (vm' := .slice ao9 gn cp9) (has' := got) (might' := got) b9 (.inr hsl9') (.inr hsl9')).less (fun q (a : False) => a.elim))
      obtain ⟨X9, -, -, hx3, hx4⟩ := HL8.out.below b9
      have HSA1 : Hid (∀ b : Bool, (got = has ↔ b = true) → ∀ v, Below w9.heap.size w9 v → Calls Try.prog 45 #[.slice ao9 gn cp9, .slice ha hn hcp] v fun e w' => e = .returned (.bool b) ∧ Below v.heap.size v w') := fun b hbb v hv =>
        same_any got has gn hn ao9 ha cp9 hcp v (strs_of (sl_below hsl9' hv (Nat.le_refl _)) HGN.out.1) (strs_of (sl_below hx3 hv (Nat.le_refl _)) HN.out.1) HGN.out.1 HN.out.1 (by omega) (by omega) b hbb
      have HSA2 : Hid (∀ b : Bool, (got = might ↔ b = true) → ∀ v, Below w9.heap.size w9 v → Calls Try.prog 45 #[.slice ao9 gn cp9, .slice ma mn mcp] v fun e w' => e = .returned (.bool b) ∧ Below v.heap.size v w') := fun b hbb v hv =>
        same_any got might gn mn ao9 ma cp9 mcp v (strs_of (sl_below hsl9' hv (Nat.le_refl _)) HGN.out.1) (strs_of (sl_below hx4 hv (Nat.le_refl _)) HN.out.2.1) HGN.out.1 HN.out.2.1 (by omega) (by omega) b hbb
      have HLE : Hid (∀ v, LQ v w.heap.size (fun _ => False) gd g2 (stClean c got) got (.slice ao9 gn cp9) (.slice ao9 gn cp9) got got → w.heap.size ≤ v.heap.size → Calls Try.prog 28 #[.pointer (some ⟨gd, 0, none⟩)] v fun e w' => e = .returned (.int .i64 (gz : Nat)) ∧ Below v.heap.size v w') := fun v hv hvz => by
        obtain ⟨FD, hd, -, -, -⟩ := hv.disk hvz
        have := len_any gd (stClean c got) FD v hd (by rw [clean_all, HGN.out.2.2]; omega) (by show 0 ≤ _; omega)
        rw [clean_all, HGN.out.2.2] at this
        exact this
      clear hsl9 hsl9' b9 hx3 hx4 HAL HL8 HB8
      by_cases hgh : got = has
      · have HS1 := Lib.hid (HSA1.out true (by simp [hgh]) w9 (Below.refl _ _))
        clear hgh HSA1 HSA2 HGT
        go_wp2_with fail
        refine HS1.out.mono ?_
        rintro e w10 ⟨rfl, b10⟩
        have HL10 := Lib.hid (HL9.out.below b10)
        have HB10 : Hid (Below w.heap.size w w10) := HB9.out.trans (b10.mono hz9)
        have hz10 := HB10.out.size
        have HLE2 := Lib.hid (HLE.out w10 HL10.out hz10)
        clear b10 HS1 HL9 HB9 HLE
        go_wp2_with fail
        refine HLE2.out.mono ?_
        rintro e w11 ⟨rfl, b11⟩
        have HL11 := Lib.hid (HL10.out.below b11)
        have HB11 : Hid (Below w.heap.size w w11) := HB10.out.trans (b11.mono hz10)
        clear b11 HLE2 HL10 HB10
        go_wp2_with fail
        skip
        exact ⟨_, _, _, _, _, _, _, _, _, _, _, rfl, rfl, rfl, rfl, HGN, HGI, HL11, HB11⟩
      · have hgm : got = might := HGT.out.resolve_left hgh
        have HS1 := Lib.hid (HSA1.out false (by simp [hgh]) w9 (Below.refl _ _))
        have HS2 := Lib.hid (HSA2.out true (by simp [hgm]))
        clear hgh hgm HSA1 HSA2 HGT
        go_wp2_with fail
        refine HS1.out.mono ?_
        rintro e w10 ⟨rfl, b10⟩
        have HL10 := Lib.hid (HL9.out.below b10)
        have HB10 : Hid (Below w.heap.size w w10) := HB9.out.trans (b10.mono hz9)
        have hz10 := HB10.out.size
        have HS3 := Lib.hid (HS2.out w10 b10)
        clear b10 HS1 HS2 HL9 HB9
        go_wp2_with fail
        refine HS3.out.mono ?_
        rintro e w11 ⟨rfl, b11⟩
        have HL11 := Lib.hid (HL10.out.below b11)
        have HB11 : Hid (Below w.heap.size w w11) := HB10.out.trans (b11.mono hz10)
        have hz11 := HB11.out.size
        have HLE2 := Lib.hid (HLE.out w11 HL11.out hz11)
        clear b11 HS3 HL10 HB10 HLE
        go_wp2_with fail
        refine HLE2.out.mono ?_
        rintro e w12 ⟨rfl, b12⟩
        have HL12 := Lib.hid (HL11.out.below b12)
        have HB12 : Hid (Below w.heap.size w w12) := HB11.out.trans (b12.mono hz11)
        clear b12 HLE2 HL11 HB11
        go_wp2_with fail
        skip
        exact ⟨_, _, _, _, _, _, _, _, _, _, _, rfl, rfl, rfl, rfl, HGN, HGI, HL12, HB12⟩
    · have HCR := Lib.hid (HL7.out.crashC 1 HS2.out.1 (by omega) hz7 okp oko okc oc (HKP.out v0 HB7.out) (by omega))
      have HOP : Hid (∀ (v : World), LQ v w.heap.size (fun q => q = X) gd gl2 (s2.crash okp oc) has (.slice ha hn hcp) (.slice ma mn mcp) has might → w.heap.size ≤ v.heap.size → Calls Try.prog 46 #[.pointer (some ⟨gd, 0, none⟩)] v fun e w' => ∃ g3, e = .returned (.tuple #[.pointer (some ⟨g3, 0, none⟩), .int .i64 0]) ∧ Below w.heap.size v w' ∧ (∀ q, q = X → w'.heap[q]? = v.heap[q]?) ∧ LQ w' w.heap.size (fun q => q = X) gd g3 (stClean c got) got (.slice ha hn hcp) (.slice ma mn mcp) has might) := fun v hv hvz => by
        obtain ⟨q1, q2, q3, q4, q5⟩ := HS2.out
        refine (hv.openC 1 q2 (by omega) q3 hvz _ 0 q5 got q4).mono ?_
        rintro e w' ⟨v', h1, h2, h3, h4, -⟩
        obtain ⟨g3, rfl, e2⟩ := h4 rfl
        exact ⟨g3, h1, h2, h3, e2⟩
      have k0 : v0.cell? ⟨X, 0, none⟩ = some (.int .i64 2) := cell_at HX7.out rfl
      have k1 : v0.cell? ⟨X, 1, none⟩ = some (.int .i64 on) := cell_at HX7.out rfl
      have k2 : v0.cell? ⟨X, 2, none⟩ = some (.string os') := cell_at HX7.out rfl
      have k3 : v0.cell? ⟨X, 3, none⟩ = some (.slice oko okp.length okc) := cell_at HX7.out rfl
      have k4 : v0.cell? ⟨X, 4, none⟩ = some (.int .i64 oc) := cell_at HX7.out rfl
      clear HL7 HS2
      go_wp2_with fail
      refine HCR.out.mono ?_
      rintro e w8 ⟨rfl, b5, y5, h5⟩
      have HL8 := Lib.hid h5
      have HB8 : Hid (Below w.heap.size w w8) := HB7.out.trans b5
      have HX8 : Hid (w8.heap[X]? = some (.cells #[.int .i64 2, .int .i64 on, .string os', .slice oko okp.length okc, .int .i64 oc] 76)) := (y5 X rfl).trans HX7.out
      have hz8 := HB8.out.size
      clear k0 k1 k2 k3 k4
      have k0 : w8.cell? ⟨X, 0, none⟩ = some (.int .i64 2) := cell_at HX8.out rfl
      have k1 : w8.cell? ⟨X, 1, none⟩ = some (.int .i64 on) := cell_at HX8.out rfl
      have k2 : w8.cell? ⟨X, 2, none⟩ = some (.string os') := cell_at HX8.out rfl
      have k3 : w8.cell? ⟨X, 3, none⟩ = some (.slice oko okp.length okc) := cell_at HX8.out rfl
      have k4 : w8.cell? ⟨X, 4, none⟩ = some (.int .i64 oc) := cell_at HX8.out rfl
      clear b5 y5 h5 HCR HB7 HX7
      have HOP8 := Lib.hid (HOP.out w8 HL8.out hz8)
      clear HOP HL8
      go_wp2_with fail
      refine HOP8.out.mono ?_
      rintro e w9 ⟨g3, rfl, b9, y9, h9⟩
      have HRE : Hid (ReRel w c gd X (.cells #[.int .i64 2, .int .i64 on, .string os', .slice oko okp.length okc, .int .i64 oc] 76) okp oc (.slice ha hn hcp) (.slice ma mn mcp) has might got 0 (.pointer (some ⟨g3, 0, none⟩)) (.int .i64 0) w9) := ⟨HB8.out.trans b9, (y9 X rfl).trans HX8.out, .inl ⟨rfl, g3, _, rfl, clean_fuse c got, h9⟩⟩
      clear b9 y9 h9 HOP8 HB8 HX8 k0 k1 k2 k3 k4
      go_wp2_with fail
      go_roundg 0
      case measure => omega
      case rel => exact HRE
end Go.Proofs.Ytpnmhpkpkejdiaa
