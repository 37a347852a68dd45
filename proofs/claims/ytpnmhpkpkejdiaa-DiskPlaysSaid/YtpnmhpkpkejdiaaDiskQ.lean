/- Layer 14: the region of DiskPlays that asks all at once, walked by itself, over a frame of letters. -/
import Derived.Test.YtpnmhpkpkejdiaaDiskP
set_option linter.unusedSimpArgs false
namespace Go.Proofs.Ytpnmhpkpkejdiaa
open Go.ChangeShapes Go.WideShapes Go.ChangeAt Go.RowKit

set_option maxRecDepth 1000000 in
set_option maxHeartbeats 12800000 in
theorem dpUp {G : World → Prop} {v : World} {BY : ByteArray} {g gr AL LL : Nat} {code CP RM : Int} {ab : Option Addr} {cb : Nat} {Q : Exit → Act → World → Prop} {u0 u1 u2 u3 u4 u7 u8 u13 u14 u15 u16 u17 u18 u19 u20 u21 u22 u23 u24 u25 u26 u27 u28 u29 u30 u31 u32 u33 u34 u35 u36 u37 u38 u39 u40 u41 u42 u43 u44 u45 u46 u47 u48 u49 u50 u51 u52 u53 u54 u55 u56 u57 u58 u59 u60 u61 u62 u63 u64 u65 u66 u67 u68 u69 u70 u71 u72 u73 u74 u75 u76 u77 u78 u79 u80 u81 u82 u83 u84 u85 u86 u87 u88 u89 u90 u91 u92 u93 u94 u95 u96 u97 u98 u99 u100 u101 u102 u103 u104 u105 u106 u107 u108 u109 u110 u111 u112 u113 u114 u115 u116 u117 u118 u119 u120 u121 u122 u123 u124 u125 u126 u127 u128 u129 u130 u131 u132 u133 u134 u135 u136 u137 u138 u139 u140 u141 u142 u143 u144 u145 u146 u147 u148 u149 u150 u151 u152 u153 u154 u155 : Value} (hG : G v) (hstep : ∀ v v', G v → Below v.heap.size v v' → G v')
    (hF : ∀ v, G v → (fun w' => w'.cell? ⟨gr, 0, none⟩ = some (.slice ab AL cb) ∧ w'.cell? ⟨gr, 3, none⟩ = some (.int .i64 CP) ∧ w'.cell? ⟨gr, 5, none⟩ = some (.bool false) ∧ Sem.run Try.prog (convert 34 9 (.slice ab AL cb)) w' = .ok (.string BY) w' : World → Prop) v ∧ (Calls Try.prog 34 #[.pointer (some ⟨g, 0, none⟩)] v fun e w' => e = .returned (.bool false) ∧ v = w') ∧ (Calls Try.prog 28 #[.pointer (some ⟨g, 0, none⟩)] v fun e w' => e = .returned (.int .i64 (AL : Nat)) ∧ Below v.heap.size v w') ∧
      (Calls Try.prog 29 #[.pointer (some ⟨g, 0, none⟩)] v fun e w' => e = .returned (.int .i64 (LL : Nat)) ∧ v = w') ∧ (Calls Try.prog 41 #[.pointer (some ⟨gr, 0, none⟩)] v fun e w' => e = .returned (.int .i64 (LL : Nat)) ∧ v = w') ∧
      (Calls Try.prog 25 #[.pointer (some ⟨g, 0, none⟩)] v fun e w' => e = .returned (.int .i64 RM) ∧ Below v.heap.size v w'))
    (e9 : IntKind.i64.wrap (CP - (AL : Int)) = RM) (hQp : ∀ c a w (d : Nat) v, Q (.panic c) (Act.put a (some d) v) w → Q (.panic c) a w) (hQ : ∀ (w' : World) (x86 x87 x88 x89 x90 x91 x92 x93 x94 x95 x96 x97 x98 x99 x100 x101 x102 x103 x104 x105 x106 x107 x108 x109 x110 x111 x112 x113 x114 x115 x116 x117 x118 x119 x120 x121 x122 x123 x124 x125 x126 x127 x128 x129 x130 x131 x132 x133 x134 x135 x136 x137 x138 x139 x140 x141 x142 x143 x144 x145 x146 x147 x148 x149 x150 x151 x152 x153 : Value), G w' → Q .normal ⟨#[u0, u1, u2, u3, u4, .pointer (some ⟨g, 0, none⟩), .pointer (some ⟨gr, 0, none⟩), u7, u8, .int .i64 code, .int .i64 code, .string BY, .int .i64 0, u13, u14, u15, u16, u17, u18, u19, u20, u21, u22, u23, u24, u25, u26, u27, u28, u29, u30, u31, u32, u33, u34, u35, u36, u37, u38, u39, u40, u41, u42, u43, u44, u45, u46, u47, u48, u49, u50, u51, u52, u53, u54, u55, u56, u57, u58, u59, u60, u61, u62, u63, u64, u65, u66, u67, u68, u69, u70, u71, u72, u73, u74, u75, u76, u77, u78, u79, u80, u81, u82, u83, u84, u85, x86, x87, x88, x89, x90, x91, x92, x93, x94, x95, x96, x97, x98, x99, x100, x101, x102, x103, x104, x105, x106, x107, x108, x109, x110, x111, x112, x113, x114, x115, x116, x117, x118, x119, x120, x121, x122, x123, x124, x125, x126, x127, x128, x129, x130, x131, x132, x133, x134, x135, x136, x137, x138, x139, x140, x141, x142, x143, x144, x145, x146, x147, x148, x149, x150, x151, x152, x153, .bool false, u155], []⟩ w') :
    Code.wp Try.prog (((Try.f10.body).bind (regionOf 24)).getD .skip) Q ⟨#[u0, u1, u2, u3, u4, .pointer (some ⟨g, 0, none⟩), .pointer (some ⟨gr, 0, none⟩), u7, u8, .int .i64 code, .int .i64 code, .string BY, .int .i64 0, u13, u14, u15, u16, u17, u18, u19, u20, u21, u22, u23, u24, u25, u26, u27, u28, u29, u30, u31, u32, u33, u34, u35, u36, u37, u38, u39, u40, u41, u42, u43, u44, u45, u46, u47, u48, u49, u50, u51, u52, u53, u54, u55, u56, u57, u58, u59, u60, u61, u62, u63, u64, u65, u66, u67, u68, u69, u70, u71, u72, u73, u74, u75, u76, u77, u78, u79, u80, u81, u82, u83, u84, u85, u86, u87, u88, u89, u90, u91, u92, u93, u94, u95, u96, u97, u98, u99, u100, u101, u102, u103, u104, u105, u106, u107, u108, u109, u110, u111, u112, u113, u114, u115, u116, u117, u118, u119, u120, u121, u122, u123, u124, u125, u126, u127, u128, u129, u130, u131, u132, u133, u134, u135, u136, u137, u138, u139, u140, u141, u142, u143, u144, u145, u146, u147, u148, u149, u150, u151, u152, u153, u154, u155], []⟩ v := by
  conv => arg 2; whnf
  have mixed : Try.prog.follows .mixedOrders = true := by kernel_rfl
  have hS : (fun w' => w'.cell? ⟨gr, 0, none⟩ = some (.slice ab AL cb) ∧ w'.cell? ⟨gr, 3, none⟩ = some (.int .i64 CP) ∧ w'.cell? ⟨gr, 5, none⟩ = some (.bool false) ∧ Sem.run Try.prog (convert 34 9 (.slice ab AL cb)) w' = .ok (.string BY) w' : World → Prop) v.drew := (hF _ (hstep _ _ hG (Below.refl _ _).drew)).1
  have HG0 := Lib.hid (hstep _ _ hG (Below.refl _ _).drew)
  refine AnyTo.region (m := 99) (S := fun w' => w'.cell? ⟨gr, 0, none⟩ = some (.slice ab AL cb) ∧ w'.cell? ⟨gr, 3, none⟩ = some (.int .i64 CP) ∧ w'.cell? ⟨gr, 5, none⟩ = some (.bool false) ∧ Sem.run Try.prog (convert 34 9 (.slice ab AL cb)) w' = .ok (.string BY) w') mixed ?_
  refine AnyTo.takeA (i := 0) (v := ?vr0) rfl (by kernel_rfl) (of_decide_eq_true (by kernel_rfl)) (by kernel_rfl) (by kernel_rfl) (fun c a w h => hQp c a w _ _ h) (Or.inl ⟨by kernel_rfl, ?hyr0⟩) hS ?restr0
  case hyr0 => (intro w' hw'; (try dsimp only at hw'); go_simp; try (with_reducible rfl))
  try simp only [Act.put, List.getElem_toArray, List.getElem_cons_zero, List.getElem_cons_succ, List.setIfInBounds_toArray, List.set_cons_zero, List.set_cons_succ]
  refine AnyTo.takeA (i := 1) (v := ?vr1) rfl (by kernel_rfl) (of_decide_eq_true (by kernel_rfl)) (by kernel_rfl) (by kernel_rfl) (fun c a w h => hQp c a w _ _ h) (Or.inl ⟨by kernel_rfl, ?hyr1⟩) hS ?restr1
  case hyr1 => (intro w' hw'; (try dsimp only at hw'); go_simp; try (with_reducible rfl))
  try simp only [Act.put, List.getElem_toArray, List.getElem_cons_zero, List.getElem_cons_succ, List.setIfInBounds_toArray, List.set_cons_zero, List.set_cons_succ]
  refine AnyTo.takeA (i := 2) (v := .bool false) rfl (by kernel_rfl) (of_decide_eq_true (by kernel_rfl)) (by kernel_rfl) (by kernel_rfl) (fun c a w h => hQp c a w _ _ h) (Or.inl ⟨by kernel_rfl, ?hyr2⟩) hS ?restr2
  case hyr2 => (intro w' hw'; (try dsimp only at hw'); go_simp; try (with_reducible rfl))
  try simp only [Act.put, List.getElem_toArray, List.getElem_cons_zero, List.getElem_cons_succ, List.setIfInBounds_toArray, List.set_cons_zero, List.set_cons_succ]
  refine AnyTo.takeA (i := 3) (v := .bool false) rfl (by kernel_rfl) (of_decide_eq_true (by kernel_rfl)) (by kernel_rfl) (by kernel_rfl) (fun c a w h => hQp c a w _ _ h) (Or.inl ⟨by kernel_rfl, ?hyr3⟩) hS ?restr3
  case hyr3 => (intro w' hw'; (try dsimp only at hw'); go_simp; try (with_reducible rfl))
  try simp only [Act.put, List.getElem_toArray, List.getElem_cons_zero, List.getElem_cons_succ, List.setIfInBounds_toArray, List.set_cons_zero, List.set_cons_succ]
  refine AnyTo.takeA (i := 4) (v := ?vr4) rfl (by kernel_rfl) (of_decide_eq_true (by kernel_rfl)) (by kernel_rfl) (by kernel_rfl) (fun c a w h => hQp c a w _ _ h) (Or.inl ⟨by kernel_rfl, ?hyr4⟩) hS ?restr4
  case hyr4 => (intro w' hw'; (try dsimp only at hw'); go_simp; try (with_reducible rfl))
  try simp only [Act.put, List.getElem_toArray, List.getElem_cons_zero, List.getElem_cons_succ, List.setIfInBounds_toArray, List.set_cons_zero, List.set_cons_succ]
  refine AnyTo.takeA (i := 6) (v := ?vr6) rfl (by kernel_rfl) (of_decide_eq_true (by kernel_rfl)) (by kernel_rfl) (by kernel_rfl) (fun c a w h => hQp c a w _ _ h) (Or.inl ⟨by kernel_rfl, ?hyr6⟩) hS ?restr6
  case hyr6 => (intro w' hw'; (try dsimp only at hw'); go_simp; try (with_reducible rfl))
  try simp only [Act.put, List.getElem_toArray, List.getElem_cons_zero, List.getElem_cons_succ, List.setIfInBounds_toArray, List.set_cons_zero, List.set_cons_succ]
  refine AnyTo.takeA (i := 7) (v := ?vr7) rfl (by kernel_rfl) (of_decide_eq_true (by kernel_rfl)) (by kernel_rfl) (by kernel_rfl) (fun c a w h => hQp c a w _ _ h) (Or.inl ⟨by kernel_rfl, ?hyr7⟩) hS ?restr7
  case hyr7 => (intro w' hw'; (try dsimp only at hw'); go_simp; try (with_reducible rfl))
  try simp only [Act.put, List.getElem_toArray, List.getElem_cons_zero, List.getElem_cons_succ, List.setIfInBounds_toArray, List.set_cons_zero, List.set_cons_succ]
  refine AnyTo.takeA (i := 8) (v := ?vr8) rfl (by kernel_rfl) (of_decide_eq_true (by kernel_rfl)) (by kernel_rfl) (by kernel_rfl) (fun c a w h => hQp c a w _ _ h) (Or.inl ⟨by kernel_rfl, ?hyr8⟩) hS ?restr8
  case hyr8 => (intro w' hw'; (try dsimp only at hw'); go_simp; try (with_reducible rfl))
  try simp only [Act.put, List.getElem_toArray, List.getElem_cons_zero, List.getElem_cons_succ, List.setIfInBounds_toArray, List.set_cons_zero, List.set_cons_succ]
  refine AnyTo.takeA (i := 9) (v := .bool false) rfl (by kernel_rfl) (of_decide_eq_true (by kernel_rfl)) (by kernel_rfl) (by kernel_rfl) (fun c a w h => hQp c a w _ _ h) (Or.inl ⟨by kernel_rfl, ?hyr9⟩) hS ?restr9
  case hyr9 => (intro w' hw'; (try dsimp only at hw'); go_simp; try (with_reducible rfl))
  try simp only [Act.put, List.getElem_toArray, List.getElem_cons_zero, List.getElem_cons_succ, List.setIfInBounds_toArray, List.set_cons_zero, List.set_cons_succ]
  refine AnyTo.step (i := 5) (by kernel_rfl) rfl (fun K hK => ?_)
  go_simp
  go_at_call 34
  refine (hF _ HG0.out).2.1.mono ?_
  rintro e w5 ⟨rfl, rfl⟩
  go_wp2_with fail
  refine hK.out _ _ (fun _ => hS) ?_
  clear hK K
  try simp only [Act.put, List.getElem_toArray, List.getElem_cons_zero, List.getElem_cons_succ, List.setIfInBounds_toArray, List.set_cons_zero, List.set_cons_succ]
  refine AnyTo.takeA (i := 10) (v := .bool false) rfl (by kernel_rfl) (of_decide_eq_true (by kernel_rfl)) (by kernel_rfl) (by kernel_rfl) (fun c a w h => hQp c a w _ _ h) (Or.inl ⟨by kernel_rfl, ?hyr10⟩) hS ?restr10
  case hyr10 => (intro w' hw'; (try dsimp only at hw'); go_simp; try (with_reducible rfl))
  try simp only [Act.put, List.getElem_toArray, List.getElem_cons_zero, List.getElem_cons_succ, List.setIfInBounds_toArray, List.set_cons_zero, List.set_cons_succ]
  refine AnyTo.takeA (i := 11) (v := .bool false) rfl (by kernel_rfl) (of_decide_eq_true (by kernel_rfl)) (by kernel_rfl) (by kernel_rfl) (fun c a w h => hQp c a w _ _ h) (Or.inl ⟨by kernel_rfl, ?hyr11⟩) hS ?restr11
  case hyr11 => (intro w' hw'; (try dsimp only at hw'); go_simp; try (with_reducible rfl))
  try simp only [Act.put, List.getElem_toArray, List.getElem_cons_zero, List.getElem_cons_succ, List.setIfInBounds_toArray, List.set_cons_zero, List.set_cons_succ]
  refine AnyTo.takeA (i := 12) (v := .bool false) rfl (by kernel_rfl) (of_decide_eq_true (by kernel_rfl)) (by kernel_rfl) (by kernel_rfl) (fun c a w h => hQp c a w _ _ h) (Or.inl ⟨by kernel_rfl, ?hyr12⟩) hS ?restr12
  case hyr12 => (intro w' hw'; (try dsimp only at hw'); go_simp; try (with_reducible rfl))
  try simp only [Act.put, List.getElem_toArray, List.getElem_cons_zero, List.getElem_cons_succ, List.setIfInBounds_toArray, List.set_cons_zero, List.set_cons_succ]
  refine AnyTo.takeA (i := 13) (v := ?vr13) rfl (by kernel_rfl) (of_decide_eq_true (by kernel_rfl)) (by kernel_rfl) (by kernel_rfl) (fun c a w h => hQp c a w _ _ h) (Or.inl ⟨by kernel_rfl, ?hyr13⟩) hS ?restr13
  case hyr13 => (intro w' hw'; (try dsimp only at hw'); go_simp; try (with_reducible rfl))
  try simp only [Act.put, List.getElem_toArray, List.getElem_cons_zero, List.getElem_cons_succ, List.setIfInBounds_toArray, List.set_cons_zero, List.set_cons_succ]
  refine AnyTo.takeA (i := 14) (v := .bool false) rfl (by kernel_rfl) (of_decide_eq_true (by kernel_rfl)) (by kernel_rfl) (by kernel_rfl) (fun c a w h => hQp c a w _ _ h) (Or.inl ⟨by kernel_rfl, ?hyr14⟩) hS ?restr14
  case hyr14 => (intro w' hw'; (try dsimp only at hw'); go_simp; try (with_reducible rfl))
  try simp only [Act.put, List.getElem_toArray, List.getElem_cons_zero, List.getElem_cons_succ, List.setIfInBounds_toArray, List.set_cons_zero, List.set_cons_succ]
  refine AnyTo.takeA (i := 15) (v := ?vr15) rfl (by kernel_rfl) (of_decide_eq_true (by kernel_rfl)) (by kernel_rfl) (by kernel_rfl) (fun c a w h => hQp c a w _ _ h) (Or.inl ⟨by kernel_rfl, ?hyr15⟩) hS ?restr15
  case hyr15 => (intro w' hw'; (try dsimp only at hw'); go_simp; try (with_reducible rfl))
  try simp only [Act.put, List.getElem_toArray, List.getElem_cons_zero, List.getElem_cons_succ, List.setIfInBounds_toArray, List.set_cons_zero, List.set_cons_succ]
  refine AnyTo.takeA (i := 16) (v := ?vr16) rfl (by kernel_rfl) (of_decide_eq_true (by kernel_rfl)) (by kernel_rfl) (by kernel_rfl) (fun c a w h => hQp c a w _ _ h) (Or.inl ⟨by kernel_rfl, ?hyr16⟩) hS ?restr16
  case hyr16 => (intro w' hw'; (try dsimp only at hw'); go_simp; try (with_reducible rfl))
  try simp only [Act.put, List.getElem_toArray, List.getElem_cons_zero, List.getElem_cons_succ, List.setIfInBounds_toArray, List.set_cons_zero, List.set_cons_succ]
  refine AnyTo.takeA (i := 17) (v := ?vr17) rfl (by kernel_rfl) (of_decide_eq_true (by kernel_rfl)) (by kernel_rfl) (by kernel_rfl) (fun c a w h => hQp c a w _ _ h) (Or.inl ⟨by kernel_rfl, ?hyr17⟩) hS ?restr17
  case hyr17 => (intro w' hw'; (try dsimp only at hw'); go_simp; try (with_reducible rfl))
  try simp only [Act.put, List.getElem_toArray, List.getElem_cons_zero, List.getElem_cons_succ, List.setIfInBounds_toArray, List.set_cons_zero, List.set_cons_succ]
  refine AnyTo.takeA (i := 18) (v := .bool false) rfl (by kernel_rfl) (of_decide_eq_true (by kernel_rfl)) (by kernel_rfl) (by kernel_rfl) (fun c a w h => hQp c a w _ _ h) (Or.inl ⟨by kernel_rfl, ?hyr18⟩) hS ?restr18
  case hyr18 => (intro w' hw'; (try dsimp only at hw'); go_simp; try (with_reducible rfl))
  try simp only [Act.put, List.getElem_toArray, List.getElem_cons_zero, List.getElem_cons_succ, List.setIfInBounds_toArray, List.set_cons_zero, List.set_cons_succ]
  refine AnyTo.takeA (i := 19) (v := .bool false) rfl (by kernel_rfl) (of_decide_eq_true (by kernel_rfl)) (by kernel_rfl) (by kernel_rfl) (fun c a w h => hQp c a w _ _ h) (Or.inl ⟨by kernel_rfl, ?hyr19⟩) hS ?restr19
  case hyr19 => (intro w' hw'; (try dsimp only at hw'); go_simp; try (with_reducible rfl))
  try simp only [Act.put, List.getElem_toArray, List.getElem_cons_zero, List.getElem_cons_succ, List.setIfInBounds_toArray, List.set_cons_zero, List.set_cons_succ]
  refine AnyTo.takeA (i := 20) (v := .bool false) rfl (by kernel_rfl) (of_decide_eq_true (by kernel_rfl)) (by kernel_rfl) (by kernel_rfl) (fun c a w h => hQp c a w _ _ h) (Or.inl ⟨by kernel_rfl, ?hyr20⟩) hS ?restr20
  case hyr20 => (intro w' hw'; (try dsimp only at hw'); go_simp; try (with_reducible rfl))
  try simp only [Act.put, List.getElem_toArray, List.getElem_cons_zero, List.getElem_cons_succ, List.setIfInBounds_toArray, List.set_cons_zero, List.set_cons_succ]
  refine AnyTo.takeA (i := 21) (v := .bool false) rfl (by kernel_rfl) (of_decide_eq_true (by kernel_rfl)) (by kernel_rfl) (by kernel_rfl) (fun c a w h => hQp c a w _ _ h) (Or.inl ⟨by kernel_rfl, ?hyr21⟩) hS ?restr21
  case hyr21 => (intro w' hw'; (try dsimp only at hw'); go_simp; try (with_reducible rfl))
  try simp only [Act.put, List.getElem_toArray, List.getElem_cons_zero, List.getElem_cons_succ, List.setIfInBounds_toArray, List.set_cons_zero, List.set_cons_succ]
  refine AnyTo.takeA (i := 22) (v := ?vr22) rfl (by kernel_rfl) (of_decide_eq_true (by kernel_rfl)) (by kernel_rfl) (by kernel_rfl) (fun c a w h => hQp c a w _ _ h) (Or.inl ⟨by kernel_rfl, ?hyr22⟩) hS ?restr22
  case hyr22 => (intro w' hw'; (try dsimp only at hw'); go_simp; try (with_reducible rfl))
  try simp only [Act.put, List.getElem_toArray, List.getElem_cons_zero, List.getElem_cons_succ, List.setIfInBounds_toArray, List.set_cons_zero, List.set_cons_succ]
  refine AnyTo.takeA (i := 23) (v := ?vr23) rfl (by kernel_rfl) (of_decide_eq_true (by kernel_rfl)) (by kernel_rfl) (by kernel_rfl) (fun c a w h => hQp c a w _ _ h) (Or.inl ⟨by kernel_rfl, ?hyr23⟩) hS ?restr23
  case hyr23 => (intro w' hw'; (try dsimp only at hw'); go_simp; try (with_reducible rfl))
  try simp only [Act.put, List.getElem_toArray, List.getElem_cons_zero, List.getElem_cons_succ, List.setIfInBounds_toArray, List.set_cons_zero, List.set_cons_succ]
  refine AnyTo.takeA (i := 24) (v := ?vr24) rfl (by kernel_rfl) (of_decide_eq_true (by kernel_rfl)) (by kernel_rfl) (by kernel_rfl) (fun c a w h => hQp c a w _ _ h) (Or.inl ⟨by kernel_rfl, ?hyr24⟩) hS ?restr24
  case hyr24 => (intro w' hw'; (try dsimp only at hw'); go_simp; try (with_reducible rfl))
  try simp only [Act.put, List.getElem_toArray, List.getElem_cons_zero, List.getElem_cons_succ, List.setIfInBounds_toArray, List.set_cons_zero, List.set_cons_succ]
  refine AnyTo.takeA (i := 25) (v := .bool false) rfl (by kernel_rfl) (of_decide_eq_true (by kernel_rfl)) (by kernel_rfl) (by kernel_rfl) (fun c a w h => hQp c a w _ _ h) (Or.inl ⟨by kernel_rfl, ?hyr25⟩) hS ?restr25
  case hyr25 => (intro w' hw'; (try dsimp only at hw'); go_simp; try (with_reducible rfl))
  try simp only [Act.put, List.getElem_toArray, List.getElem_cons_zero, List.getElem_cons_succ, List.setIfInBounds_toArray, List.set_cons_zero, List.set_cons_succ]
  refine AnyTo.takeA (i := 26) (v := .bool true) rfl (by kernel_rfl) (of_decide_eq_true (by kernel_rfl)) (by kernel_rfl) (by kernel_rfl) (fun c a w h => hQp c a w _ _ h) (Or.inl ⟨by kernel_rfl, ?hyr26⟩) hS ?restr26
  case hyr26 => (intro w' hw'; (try dsimp only at hw'); go_simp; try (with_reducible rfl))
  try simp only [Act.put, List.getElem_toArray, List.getElem_cons_zero, List.getElem_cons_succ, List.setIfInBounds_toArray, List.set_cons_zero, List.set_cons_succ]
  refine AnyTo.takeA (i := 27) (v := .bool true) rfl (by kernel_rfl) (of_decide_eq_true (by kernel_rfl)) (by kernel_rfl) (by kernel_rfl) (fun c a w h => hQp c a w _ _ h) (Or.inl ⟨by kernel_rfl, ?hyr27⟩) hS ?restr27
  case hyr27 => (intro w' hw'; (try dsimp only at hw'); go_simp; try (with_reducible rfl))
  try simp only [Act.put, List.getElem_toArray, List.getElem_cons_zero, List.getElem_cons_succ, List.setIfInBounds_toArray, List.set_cons_zero, List.set_cons_succ]
  refine AnyTo.takeA (i := 28) (v := ?vr28) rfl (by kernel_rfl) (of_decide_eq_true (by kernel_rfl)) (by kernel_rfl) (by kernel_rfl) (fun c a w h => hQp c a w _ _ h) (Or.inl ⟨by kernel_rfl, ?hyr28⟩) hS ?restr28
  case hyr28 => (intro w' hw'; (try dsimp only at hw'); go_simp; try (with_reducible rfl))
  try simp only [Act.put, List.getElem_toArray, List.getElem_cons_zero, List.getElem_cons_succ, List.setIfInBounds_toArray, List.set_cons_zero, List.set_cons_succ]
  refine AnyTo.takeA (i := 29) (v := ?vr29) rfl (by kernel_rfl) (of_decide_eq_true (by kernel_rfl)) (by kernel_rfl) (by kernel_rfl) (fun c a w h => hQp c a w _ _ h) (Or.inl ⟨by kernel_rfl, ?hyr29⟩) hS ?restr29
  case hyr29 => (intro w' hw'; (try dsimp only at hw'); go_simp; try (with_reducible rfl))
  try simp only [Act.put, List.getElem_toArray, List.getElem_cons_zero, List.getElem_cons_succ, List.setIfInBounds_toArray, List.set_cons_zero, List.set_cons_succ]
  refine AnyTo.takeA (i := 30) (v := ?vr30) rfl (by kernel_rfl) (of_decide_eq_true (by kernel_rfl)) (by kernel_rfl) (by kernel_rfl) (fun c a w h => hQp c a w _ _ h) (Or.inl ⟨by kernel_rfl, ?hyr30⟩) hS ?restr30
  case hyr30 => (intro w' hw'; (try dsimp only at hw'); go_simp; try (with_reducible rfl))
  try simp only [Act.put, List.getElem_toArray, List.getElem_cons_zero, List.getElem_cons_succ, List.setIfInBounds_toArray, List.set_cons_zero, List.set_cons_succ]
  refine AnyTo.takeA (i := 31) (v := ?vr31) rfl (by kernel_rfl) (of_decide_eq_true (by kernel_rfl)) (by kernel_rfl) (by kernel_rfl) (fun c a w h => hQp c a w _ _ h) (Or.inl ⟨by kernel_rfl, ?hyr31⟩) hS ?restr31
  case hyr31 => (intro w' hw'; (try dsimp only at hw'); go_simp; try (with_reducible rfl))
  try simp only [Act.put, List.getElem_toArray, List.getElem_cons_zero, List.getElem_cons_succ, List.setIfInBounds_toArray, List.set_cons_zero, List.set_cons_succ]
  refine AnyTo.takeA (i := 32) (v := .slice ab AL cb) rfl (by kernel_rfl) (of_decide_eq_true (by kernel_rfl)) (by kernel_rfl) (by kernel_rfl) (fun c a w h => hQp c a w _ _ h) (Or.inl ⟨by kernel_rfl, ?hyr32⟩) hS ?restr32
  case hyr32 => (intro w' hw'; (try dsimp only at hw'); go_simp; try (with_reducible rfl))
  try simp only [Act.put, List.getElem_toArray, List.getElem_cons_zero, List.getElem_cons_succ, List.setIfInBounds_toArray, List.set_cons_zero, List.set_cons_succ]
  refine AnyTo.takeA (i := 33) (v := .string BY) rfl (by kernel_rfl) (of_decide_eq_true (by kernel_rfl)) (by kernel_rfl) (by kernel_rfl) (fun c a w h => hQp c a w _ _ h) (Or.inl ⟨by kernel_rfl, ?hyr33⟩) hS ?restr33
  case hyr33 => (intro w' hw'; (try dsimp only at hw'); go_simp; try (with_reducible rfl))
  try simp only [Act.put, List.getElem_toArray, List.getElem_cons_zero, List.getElem_cons_succ, List.setIfInBounds_toArray, List.set_cons_zero, List.set_cons_succ]
  refine AnyTo.takeA (i := 34) (v := .bool false) rfl (by kernel_rfl) (of_decide_eq_true (by kernel_rfl)) (by kernel_rfl) (by kernel_rfl) (fun c a w h => hQp c a w _ _ h) (Or.inl ⟨by kernel_rfl, ?hyr34⟩) hS ?restr34
  case hyr34 => (intro w' hw'; (try dsimp only at hw'); go_simp; try (with_reducible rfl))
  try simp only [Act.put, List.getElem_toArray, List.getElem_cons_zero, List.getElem_cons_succ, List.setIfInBounds_toArray, List.set_cons_zero, List.set_cons_succ]
  refine AnyTo.takeA (i := 35) (v := .bool false) rfl (by kernel_rfl) (of_decide_eq_true (by kernel_rfl)) (by kernel_rfl) (by kernel_rfl) (fun c a w h => hQp c a w _ _ h) (Or.inl ⟨by kernel_rfl, ?hyr35⟩) hS ?restr35
  case hyr35 => (intro w' hw'; (try dsimp only at hw'); go_simp; try (with_reducible rfl))
  try simp only [Act.put, List.getElem_toArray, List.getElem_cons_zero, List.getElem_cons_succ, List.setIfInBounds_toArray, List.set_cons_zero, List.set_cons_succ]
  refine AnyTo.takeA (i := 36) (v := .bool false) rfl (by kernel_rfl) (of_decide_eq_true (by kernel_rfl)) (by kernel_rfl) (by kernel_rfl) (fun c a w h => hQp c a w _ _ h) (Or.inl ⟨by kernel_rfl, ?hyr36⟩) hS ?restr36
  case hyr36 => (intro w' hw'; (try dsimp only at hw'); go_simp; try (with_reducible rfl))
  try simp only [Act.put, List.getElem_toArray, List.getElem_cons_zero, List.getElem_cons_succ, List.setIfInBounds_toArray, List.set_cons_zero, List.set_cons_succ]
  refine AnyTo.takeA (i := 37) (v := .bool false) rfl (by kernel_rfl) (of_decide_eq_true (by kernel_rfl)) (by kernel_rfl) (by kernel_rfl) (fun c a w h => hQp c a w _ _ h) (Or.inl ⟨by kernel_rfl, ?hyr37⟩) hS ?restr37
  case hyr37 => (intro w' hw'; (try dsimp only at hw'); go_simp; try (with_reducible rfl))
  try simp only [Act.put, List.getElem_toArray, List.getElem_cons_zero, List.getElem_cons_succ, List.setIfInBounds_toArray, List.set_cons_zero, List.set_cons_succ]
  refine AnyTo.takeA (i := 38) (v := ?vr38) rfl (by kernel_rfl) (of_decide_eq_true (by kernel_rfl)) (by kernel_rfl) (by kernel_rfl) (fun c a w h => hQp c a w _ _ h) (Or.inl ⟨by kernel_rfl, ?hyr38⟩) hS ?restr38
  case hyr38 => (intro w' hw'; (try dsimp only at hw'); go_simp; try (with_reducible rfl))
  try simp only [Act.put, List.getElem_toArray, List.getElem_cons_zero, List.getElem_cons_succ, List.setIfInBounds_toArray, List.set_cons_zero, List.set_cons_succ]
  refine AnyTo.takeA (i := 40) (v := ?vr40) rfl (by kernel_rfl) (of_decide_eq_true (by kernel_rfl)) (by kernel_rfl) (by kernel_rfl) (fun c a w h => hQp c a w _ _ h) (Or.inl ⟨by kernel_rfl, ?hyr40⟩) hS ?restr40
  case hyr40 => (intro w' hw'; (try dsimp only at hw'); go_simp; try (with_reducible rfl))
  try simp only [Act.put, List.getElem_toArray, List.getElem_cons_zero, List.getElem_cons_succ, List.setIfInBounds_toArray, List.set_cons_zero, List.set_cons_succ]
  refine AnyTo.takeA (i := 41) (v := ?vr41) rfl (by kernel_rfl) (of_decide_eq_true (by kernel_rfl)) (by kernel_rfl) (by kernel_rfl) (fun c a w h => hQp c a w _ _ h) (Or.inl ⟨by kernel_rfl, ?hyr41⟩) hS ?restr41
  case hyr41 => (intro w' hw'; (try dsimp only at hw'); go_simp; try (with_reducible rfl))
  try simp only [Act.put, List.getElem_toArray, List.getElem_cons_zero, List.getElem_cons_succ, List.setIfInBounds_toArray, List.set_cons_zero, List.set_cons_succ]
  refine AnyTo.takeA (i := 42) (v := ?vr42) rfl (by kernel_rfl) (of_decide_eq_true (by kernel_rfl)) (by kernel_rfl) (by kernel_rfl) (fun c a w h => hQp c a w _ _ h) (Or.inl ⟨by kernel_rfl, ?hyr42⟩) hS ?restr42
  case hyr42 => (intro w' hw'; (try dsimp only at hw'); go_simp; try (with_reducible rfl))
  try simp only [Act.put, List.getElem_toArray, List.getElem_cons_zero, List.getElem_cons_succ, List.setIfInBounds_toArray, List.set_cons_zero, List.set_cons_succ]
  refine AnyTo.takeA (i := 43) (v := .slice ab AL cb) rfl (by kernel_rfl) (of_decide_eq_true (by kernel_rfl)) (by kernel_rfl) (by kernel_rfl) (fun c a w h => hQp c a w _ _ h) (Or.inl ⟨by kernel_rfl, ?hyr43⟩) hS ?restr43
  case hyr43 => (intro w' hw'; (try dsimp only at hw'); go_simp; try (with_reducible rfl))
  try simp only [Act.put, List.getElem_toArray, List.getElem_cons_zero, List.getElem_cons_succ, List.setIfInBounds_toArray, List.set_cons_zero, List.set_cons_succ]
  refine AnyTo.takeA (i := 44) (v := .int .i64 (AL : Nat)) rfl (by kernel_rfl) (of_decide_eq_true (by kernel_rfl)) (by kernel_rfl) (by kernel_rfl) (fun c a w h => hQp c a w _ _ h) (Or.inl ⟨by kernel_rfl, ?hyr44⟩) hS ?restr44
  case hyr44 => (intro w' hw'; (try dsimp only at hw'); go_simp; try (with_reducible rfl))
  try simp only [Act.put, List.getElem_toArray, List.getElem_cons_zero, List.getElem_cons_succ, List.setIfInBounds_toArray, List.set_cons_zero, List.set_cons_succ]
  refine AnyTo.step (i := 39) (by kernel_rfl) rfl (fun K hK => ?_)
  go_simp
  go_at_call 28
  refine (hF _ HG0.out).2.2.1.mono ?_
  rintro e w39 ⟨rfl, hb⟩
  have HG1 := Lib.hid (hstep _ _ HG0.out hb)
  clear hb hS
  have hS := (hF _ HG1.out).1
  go_wp2_with fail
  refine hK.out _ _ (fun _ => hS) ?_
  clear hK K
  try simp only [Act.put, List.getElem_toArray, List.getElem_cons_zero, List.getElem_cons_succ, List.setIfInBounds_toArray, List.set_cons_zero, List.set_cons_succ]
  refine AnyTo.takeA (i := 45) (v := .bool false) rfl (by kernel_rfl) (of_decide_eq_true (by kernel_rfl)) (by kernel_rfl) (by kernel_rfl) (fun c a w h => hQp c a w _ _ h) (Or.inl ⟨by kernel_rfl, ?hyr45⟩) hS ?restr45
  case hyr45 => (intro w' hw'; (try dsimp only at hw'); go_simp; try (with_reducible rfl))
  try simp only [Act.put, List.getElem_toArray, List.getElem_cons_zero, List.getElem_cons_succ, List.setIfInBounds_toArray, List.set_cons_zero, List.set_cons_succ]
  refine AnyTo.takeA (i := 46) (v := .bool false) rfl (by kernel_rfl) (of_decide_eq_true (by kernel_rfl)) (by kernel_rfl) (by kernel_rfl) (fun c a w h => hQp c a w _ _ h) (Or.inl ⟨by kernel_rfl, ?hyr46⟩) hS ?restr46
  case hyr46 => (intro w' hw'; (try dsimp only at hw'); go_simp; try (with_reducible rfl))
  try simp only [Act.put, List.getElem_toArray, List.getElem_cons_zero, List.getElem_cons_succ, List.setIfInBounds_toArray, List.set_cons_zero, List.set_cons_succ]
  refine AnyTo.takeA (i := 47) (v := .bool false) rfl (by kernel_rfl) (of_decide_eq_true (by kernel_rfl)) (by kernel_rfl) (by kernel_rfl) (fun c a w h => hQp c a w _ _ h) (Or.inl ⟨by kernel_rfl, ?hyr47⟩) hS ?restr47
  case hyr47 => (intro w' hw'; (try dsimp only at hw'); go_simp; try (with_reducible rfl))
  try simp only [Act.put, List.getElem_toArray, List.getElem_cons_zero, List.getElem_cons_succ, List.setIfInBounds_toArray, List.set_cons_zero, List.set_cons_succ]
  refine AnyTo.takeA (i := 48) (v := ?vr48) rfl (by kernel_rfl) (of_decide_eq_true (by kernel_rfl)) (by kernel_rfl) (by kernel_rfl) (fun c a w h => hQp c a w _ _ h) (Or.inl ⟨by kernel_rfl, ?hyr48⟩) hS ?restr48
  case hyr48 => (intro w' hw'; (try dsimp only at hw'); go_simp; try (with_reducible rfl))
  try simp only [Act.put, List.getElem_toArray, List.getElem_cons_zero, List.getElem_cons_succ, List.setIfInBounds_toArray, List.set_cons_zero, List.set_cons_succ]
  refine AnyTo.takeA (i := 50) (v := ?vr50) rfl (by kernel_rfl) (of_decide_eq_true (by kernel_rfl)) (by kernel_rfl) (by kernel_rfl) (fun c a w h => hQp c a w _ _ h) (Or.inl ⟨by kernel_rfl, ?hyr50⟩) hS ?restr50
  case hyr50 => (intro w' hw'; (try dsimp only at hw'); go_simp; try (with_reducible rfl))
  try simp only [Act.put, List.getElem_toArray, List.getElem_cons_zero, List.getElem_cons_succ, List.setIfInBounds_toArray, List.set_cons_zero, List.set_cons_succ]
  refine AnyTo.step (i := 49) (by kernel_rfl) rfl (fun K hK => ?_)
  go_simp
  go_at_call 29
  refine (hF _ HG1.out).2.2.2.1.mono ?_
  rintro e w49 ⟨rfl, rfl⟩
  go_wp2_with fail
  refine hK.out _ _ (fun _ => hS) ?_
  clear hK K
  try simp only [Act.put, List.getElem_toArray, List.getElem_cons_zero, List.getElem_cons_succ, List.setIfInBounds_toArray, List.set_cons_zero, List.set_cons_succ]
  refine AnyTo.step (i := 51) (by kernel_rfl) rfl (fun K hK => ?_)
  go_simp
  go_at_call 41
  refine (hF _ HG1.out).2.2.2.2.1.mono ?_
  rintro e w51 ⟨rfl, rfl⟩
  go_wp2_with fail
  refine hK.out _ _ (fun _ => hS) ?_
  clear hK K
  try simp only [Act.put, List.getElem_toArray, List.getElem_cons_zero, List.getElem_cons_succ, List.setIfInBounds_toArray, List.set_cons_zero, List.set_cons_succ]
  refine AnyTo.takeA (i := 52) (v := .bool false) rfl (by kernel_rfl) (of_decide_eq_true (by kernel_rfl)) (by kernel_rfl) (by kernel_rfl) (fun c a w h => hQp c a w _ _ h) (Or.inl ⟨by kernel_rfl, ?hyr52⟩) hS ?restr52
  case hyr52 => (intro w' hw'; (try dsimp only at hw'); go_simp; try (with_reducible rfl))
  try simp only [Act.put, List.getElem_toArray, List.getElem_cons_zero, List.getElem_cons_succ, List.setIfInBounds_toArray, List.set_cons_zero, List.set_cons_succ]
  refine AnyTo.takeA (i := 53) (v := .bool false) rfl (by kernel_rfl) (of_decide_eq_true (by kernel_rfl)) (by kernel_rfl) (by kernel_rfl) (fun c a w h => hQp c a w _ _ h) (Or.inl ⟨by kernel_rfl, ?hyr53⟩) hS ?restr53
  case hyr53 => (intro w' hw'; (try dsimp only at hw'); go_simp; try (with_reducible rfl))
  try simp only [Act.put, List.getElem_toArray, List.getElem_cons_zero, List.getElem_cons_succ, List.setIfInBounds_toArray, List.set_cons_zero, List.set_cons_succ]
  refine AnyTo.takeA (i := 54) (v := .bool false) rfl (by kernel_rfl) (of_decide_eq_true (by kernel_rfl)) (by kernel_rfl) (by kernel_rfl) (fun c a w h => hQp c a w _ _ h) (Or.inl ⟨by kernel_rfl, ?hyr54⟩) hS ?restr54
  case hyr54 => (intro w' hw'; (try dsimp only at hw'); go_simp; try (with_reducible rfl))
  try simp only [Act.put, List.getElem_toArray, List.getElem_cons_zero, List.getElem_cons_succ, List.setIfInBounds_toArray, List.set_cons_zero, List.set_cons_succ]
  refine AnyTo.takeA (i := 55) (v := ?vr55) rfl (by kernel_rfl) (of_decide_eq_true (by kernel_rfl)) (by kernel_rfl) (by kernel_rfl) (fun c a w h => hQp c a w _ _ h) (Or.inl ⟨by kernel_rfl, ?hyr55⟩) hS ?restr55
  case hyr55 => (intro w' hw'; (try dsimp only at hw'); go_simp; try (with_reducible rfl))
  try simp only [Act.put, List.getElem_toArray, List.getElem_cons_zero, List.getElem_cons_succ, List.setIfInBounds_toArray, List.set_cons_zero, List.set_cons_succ]
  refine AnyTo.takeA (i := 57) (v := ?vr57) rfl (by kernel_rfl) (of_decide_eq_true (by kernel_rfl)) (by kernel_rfl) (by kernel_rfl) (fun c a w h => hQp c a w _ _ h) (Or.inl ⟨by kernel_rfl, ?hyr57⟩) hS ?restr57
  case hyr57 => (intro w' hw'; (try dsimp only at hw'); go_simp; try (with_reducible rfl))
  try simp only [Act.put, List.getElem_toArray, List.getElem_cons_zero, List.getElem_cons_succ, List.setIfInBounds_toArray, List.set_cons_zero, List.set_cons_succ]
  refine AnyTo.takeA (i := 58) (v := ?vr58) rfl (by kernel_rfl) (of_decide_eq_true (by kernel_rfl)) (by kernel_rfl) (by kernel_rfl) (fun c a w h => hQp c a w _ _ h) (Or.inl ⟨by kernel_rfl, ?hyr58⟩) hS ?restr58
  case hyr58 => (intro w' hw'; (try dsimp only at hw'); go_simp; try (with_reducible rfl))
  try simp only [Act.put, List.getElem_toArray, List.getElem_cons_zero, List.getElem_cons_succ, List.setIfInBounds_toArray, List.set_cons_zero, List.set_cons_succ]
  refine AnyTo.takeA (i := 59) (v := ?vr59) rfl (by kernel_rfl) (of_decide_eq_true (by kernel_rfl)) (by kernel_rfl) (by kernel_rfl) (fun c a w h => hQp c a w _ _ h) (Or.inl ⟨by kernel_rfl, ?hyr59⟩) hS ?restr59
  case hyr59 => (intro w' hw'; (try dsimp only at hw'); go_simp; try (with_reducible rfl))
  try simp only [Act.put, List.getElem_toArray, List.getElem_cons_zero, List.getElem_cons_succ, List.setIfInBounds_toArray, List.set_cons_zero, List.set_cons_succ]
  refine AnyTo.takeA (i := 60) (v := .int .i64 CP) rfl (by kernel_rfl) (of_decide_eq_true (by kernel_rfl)) (by kernel_rfl) (by kernel_rfl) (fun c a w h => hQp c a w _ _ h) (Or.inl ⟨by kernel_rfl, ?hyr60⟩) hS ?restr60
  case hyr60 => (intro w' hw'; (try dsimp only at hw'); go_simp; try (with_reducible rfl))
  try simp only [Act.put, List.getElem_toArray, List.getElem_cons_zero, List.getElem_cons_succ, List.setIfInBounds_toArray, List.set_cons_zero, List.set_cons_succ]
  refine AnyTo.takeA (i := 61) (v := ?vr61) rfl (by kernel_rfl) (of_decide_eq_true (by kernel_rfl)) (by kernel_rfl) (by kernel_rfl) (fun c a w h => hQp c a w _ _ h) (Or.inl ⟨by kernel_rfl, ?hyr61⟩) hS ?restr61
  case hyr61 => (intro w' hw'; (try dsimp only at hw'); go_simp; try (with_reducible rfl))
  try simp only [Act.put, List.getElem_toArray, List.getElem_cons_zero, List.getElem_cons_succ, List.setIfInBounds_toArray, List.set_cons_zero, List.set_cons_succ]
  refine AnyTo.takeA (i := 62) (v := ?vr62) rfl (by kernel_rfl) (of_decide_eq_true (by kernel_rfl)) (by kernel_rfl) (by kernel_rfl) (fun c a w h => hQp c a w _ _ h) (Or.inl ⟨by kernel_rfl, ?hyr62⟩) hS ?restr62
  case hyr62 => (intro w' hw'; (try dsimp only at hw'); go_simp; try (with_reducible rfl))
  try simp only [Act.put, List.getElem_toArray, List.getElem_cons_zero, List.getElem_cons_succ, List.setIfInBounds_toArray, List.set_cons_zero, List.set_cons_succ]
  refine AnyTo.takeA (i := 63) (v := ?vr63) rfl (by kernel_rfl) (of_decide_eq_true (by kernel_rfl)) (by kernel_rfl) (by kernel_rfl) (fun c a w h => hQp c a w _ _ h) (Or.inl ⟨by kernel_rfl, ?hyr63⟩) hS ?restr63
  case hyr63 => (intro w' hw'; (try dsimp only at hw'); go_simp; try (with_reducible rfl))
  try simp only [Act.put, List.getElem_toArray, List.getElem_cons_zero, List.getElem_cons_succ, List.setIfInBounds_toArray, List.set_cons_zero, List.set_cons_succ]
  refine AnyTo.takeA (i := 64) (v := .slice ab AL cb) rfl (by kernel_rfl) (of_decide_eq_true (by kernel_rfl)) (by kernel_rfl) (by kernel_rfl) (fun c a w h => hQp c a w _ _ h) (Or.inl ⟨by kernel_rfl, ?hyr64⟩) hS ?restr64
  case hyr64 => (intro w' hw'; (try dsimp only at hw'); go_simp; try (with_reducible rfl))
  try simp only [Act.put, List.getElem_toArray, List.getElem_cons_zero, List.getElem_cons_succ, List.setIfInBounds_toArray, List.set_cons_zero, List.set_cons_succ]
  refine AnyTo.takeA (i := 65) (v := .int .i64 (AL : Nat)) rfl (by kernel_rfl) (of_decide_eq_true (by kernel_rfl)) (by kernel_rfl) (by kernel_rfl) (fun c a w h => hQp c a w _ _ h) (Or.inl ⟨by kernel_rfl, ?hyr65⟩) hS ?restr65
  case hyr65 => (intro w' hw'; (try dsimp only at hw'); go_simp; try (with_reducible rfl))
  try simp only [Act.put, List.getElem_toArray, List.getElem_cons_zero, List.getElem_cons_succ, List.setIfInBounds_toArray, List.set_cons_zero, List.set_cons_succ]
  refine AnyTo.takeA (i := 66) (v := .int .i64 RM) rfl (by kernel_rfl) (of_decide_eq_true (by kernel_rfl)) (by kernel_rfl) (by kernel_rfl) (fun c a w h => hQp c a w _ _ h) (Or.inl ⟨by kernel_rfl, ?hyr66⟩) hS ?restr66
  case hyr66 => (intro w' hw'; (try dsimp only at hw'); go_simp; try (with_reducible rfl))
  try simp only [Act.put, List.getElem_toArray, List.getElem_cons_zero, List.getElem_cons_succ, List.setIfInBounds_toArray, List.set_cons_zero, List.set_cons_succ]
  refine AnyTo.step (i := 56) (by kernel_rfl) rfl (fun K hK => ?_)
  go_simp
  go_at_call 25
  refine (hF _ HG1.out).2.2.2.2.2.mono ?_
  rintro e w56 ⟨rfl, hb⟩
  have HG2 := Lib.hid (hstep _ _ HG1.out hb)
  clear hb hS
  have hS := (hF _ HG2.out).1
  go_wp2_with fail
  refine hK.out _ _ (fun _ => hS) ?_
  clear hK K
  try simp only [Act.put, List.getElem_toArray, List.getElem_cons_zero, List.getElem_cons_succ, List.setIfInBounds_toArray, List.set_cons_zero, List.set_cons_succ]
  refine AnyTo.takeA (i := 67) (v := .bool false) rfl (by kernel_rfl) (of_decide_eq_true (by kernel_rfl)) (by kernel_rfl) (by kernel_rfl) (fun c a w h => hQp c a w _ _ h) (Or.inl ⟨by kernel_rfl, ?hyr67⟩) hS ?restr67
  case hyr67 => (intro w' hw'; (try dsimp only at hw'); go_simp; try (with_reducible rfl))
  try simp only [Act.put, List.getElem_toArray, List.getElem_cons_zero, List.getElem_cons_succ, List.setIfInBounds_toArray, List.set_cons_zero, List.set_cons_succ]
  refine AnyTo.takeA (i := 68) (v := .bool false) rfl (by kernel_rfl) (of_decide_eq_true (by kernel_rfl)) (by kernel_rfl) (by kernel_rfl) (fun c a w h => hQp c a w _ _ h) (Or.inl ⟨by kernel_rfl, ?hyr68⟩) hS ?restr68
  case hyr68 => (intro w' hw'; (try dsimp only at hw'); go_simp; try (with_reducible rfl))
  try simp only [Act.put, List.getElem_toArray, List.getElem_cons_zero, List.getElem_cons_succ, List.setIfInBounds_toArray, List.set_cons_zero, List.set_cons_succ]
  refine AnyTo.done (by kernel_rfl) ?_
  exact hQ _ _ _ _ _ _ _ _ _ _ _ _ _ _ _ _ _ _ _ _ _ _ _ _ _ _ _ _ _ _ _ _ _ _ _ _ _ _ _ _ _ _ _ _ _ _ _ _ _ _ _ _ _ _ _ _ _ _ _ _ _ _ _ _ _ _ _ _ _ HG2.out

set_option maxRecDepth 1000000 in
set_option maxHeartbeats 12800000 in
theorem dpDown {G : World → Prop} {v : World} {BY : ByteArray} {g gr AL LL : Nat} {code CP RM : Int} {ab : Option Addr} {cb : Nat} {Q : Exit → Act → World → Prop} {u0 u1 u2 u3 u4 u7 u8 u13 u14 u15 u16 u17 u18 u19 u20 u21 u22 u23 u24 u25 u26 u27 u28 u29 u30 u31 u32 u33 u34 u35 u36 u37 u38 u39 u40 u41 u42 u43 u44 u45 u46 u47 u48 u49 u50 u51 u52 u53 u54 u55 u56 u57 u58 u59 u60 u61 u62 u63 u64 u65 u66 u67 u68 u69 u70 u71 u72 u73 u74 u75 u76 u77 u78 u79 u80 u81 u82 u83 u84 u85 u86 u87 u88 u89 u90 u91 u92 u93 u94 u95 u96 u97 u98 u99 u100 u101 u102 u103 u104 u105 u106 u107 u108 u109 u110 u111 u112 u113 u114 u115 u116 u117 u118 u119 u120 u121 u122 u123 u124 u125 u126 u127 u128 u129 u130 u131 u132 u133 u134 u135 u136 u137 u138 u139 u140 u141 u142 u143 u144 u145 u146 u147 u148 u149 u150 u151 u152 u153 u154 u155 : Value} (hG : G v) (hstep : ∀ v v', G v → Below v.heap.size v v' → G v')
    (hF : ∀ v, G v → (fun w' => w'.cell? ⟨gr, 0, none⟩ = some (.slice ab AL cb) ∧ w'.cell? ⟨gr, 3, none⟩ = some (.int .i64 CP) ∧ w'.cell? ⟨gr, 5, none⟩ = some (.bool true) ∧ Sem.run Try.prog (convert 34 9 (.slice ab AL cb)) w' = .ok (.string BY) w' : World → Prop) v ∧ (Calls Try.prog 34 #[.pointer (some ⟨g, 0, none⟩)] v fun e w' => e = .returned (.bool true) ∧ v = w') ∧ (Calls Try.prog 28 #[.pointer (some ⟨g, 0, none⟩)] v fun e w' => e = .returned (.int .i64 (AL : Nat)) ∧ Below v.heap.size v w') ∧
      (Calls Try.prog 29 #[.pointer (some ⟨g, 0, none⟩)] v fun e w' => e = .returned (.int .i64 (LL : Nat)) ∧ v = w') ∧ (Calls Try.prog 41 #[.pointer (some ⟨gr, 0, none⟩)] v fun e w' => e = .returned (.int .i64 (LL : Nat)) ∧ v = w') ∧
      (Calls Try.prog 25 #[.pointer (some ⟨g, 0, none⟩)] v fun e w' => e = .returned (.int .i64 RM) ∧ Below v.heap.size v w'))
    (e9 : IntKind.i64.wrap (CP - (AL : Int)) = RM) (hQp : ∀ c a w (d : Nat) v, Q (.panic c) (Act.put a (some d) v) w → Q (.panic c) a w) (hQ : ∀ (w' : World) (x86 x87 x88 x89 x90 x91 x92 x93 x94 x95 x96 x97 x98 x99 x100 x101 x102 x103 x104 x105 x106 x107 x108 x109 x110 x111 x112 x113 x114 x115 x116 x117 x118 x119 x120 x121 x122 x123 x124 x125 x126 x127 x128 x129 x130 x131 x132 x133 x134 x135 x136 x137 x138 x139 x140 x141 x142 x143 x144 x145 x146 x147 x148 x149 x150 x151 x152 x153 : Value), G w' → Q .normal ⟨#[u0, u1, u2, u3, u4, .pointer (some ⟨g, 0, none⟩), .pointer (some ⟨gr, 0, none⟩), u7, u8, .int .i64 code, .int .i64 code, .string ByteArray.empty, .int .i64 8, u13, u14, u15, u16, u17, u18, u19, u20, u21, u22, u23, u24, u25, u26, u27, u28, u29, u30, u31, u32, u33, u34, u35, u36, u37, u38, u39, u40, u41, u42, u43, u44, u45, u46, u47, u48, u49, u50, u51, u52, u53, u54, u55, u56, u57, u58, u59, u60, u61, u62, u63, u64, u65, u66, u67, u68, u69, u70, u71, u72, u73, u74, u75, u76, u77, u78, u79, u80, u81, u82, u83, u84, u85, x86, x87, x88, x89, x90, x91, x92, x93, x94, x95, x96, x97, x98, x99, x100, x101, x102, x103, x104, x105, x106, x107, x108, x109, x110, x111, x112, x113, x114, x115, x116, x117, x118, x119, x120, x121, x122, x123, x124, x125, x126, x127, x128, x129, x130, x131, x132, x133, x134, x135, x136, x137, x138, x139, x140, x141, x142, x143, x144, x145, x146, x147, x148, x149, x150, x151, x152, x153, .bool false, u155], []⟩ w') :
    Code.wp Try.prog (((Try.f10.body).bind (regionOf 24)).getD .skip) Q ⟨#[u0, u1, u2, u3, u4, .pointer (some ⟨g, 0, none⟩), .pointer (some ⟨gr, 0, none⟩), u7, u8, .int .i64 code, .int .i64 code, .string ByteArray.empty, .int .i64 8, u13, u14, u15, u16, u17, u18, u19, u20, u21, u22, u23, u24, u25, u26, u27, u28, u29, u30, u31, u32, u33, u34, u35, u36, u37, u38, u39, u40, u41, u42, u43, u44, u45, u46, u47, u48, u49, u50, u51, u52, u53, u54, u55, u56, u57, u58, u59, u60, u61, u62, u63, u64, u65, u66, u67, u68, u69, u70, u71, u72, u73, u74, u75, u76, u77, u78, u79, u80, u81, u82, u83, u84, u85, u86, u87, u88, u89, u90, u91, u92, u93, u94, u95, u96, u97, u98, u99, u100, u101, u102, u103, u104, u105, u106, u107, u108, u109, u110, u111, u112, u113, u114, u115, u116, u117, u118, u119, u120, u121, u122, u123, u124, u125, u126, u127, u128, u129, u130, u131, u132, u133, u134, u135, u136, u137, u138, u139, u140, u141, u142, u143, u144, u145, u146, u147, u148, u149, u150, u151, u152, u153, u154, u155], []⟩ v := by
  conv => arg 2; whnf
  have mixed : Try.prog.follows .mixedOrders = true := by kernel_rfl
  have hS : (fun w' => w'.cell? ⟨gr, 0, none⟩ = some (.slice ab AL cb) ∧ w'.cell? ⟨gr, 3, none⟩ = some (.int .i64 CP) ∧ w'.cell? ⟨gr, 5, none⟩ = some (.bool true) ∧ Sem.run Try.prog (convert 34 9 (.slice ab AL cb)) w' = .ok (.string BY) w' : World → Prop) v.drew := (hF _ (hstep _ _ hG (Below.refl _ _).drew)).1
  have HG0 := Lib.hid (hstep _ _ hG (Below.refl _ _).drew)
  refine AnyTo.region (m := 99) (S := fun w' => w'.cell? ⟨gr, 0, none⟩ = some (.slice ab AL cb) ∧ w'.cell? ⟨gr, 3, none⟩ = some (.int .i64 CP) ∧ w'.cell? ⟨gr, 5, none⟩ = some (.bool true) ∧ Sem.run Try.prog (convert 34 9 (.slice ab AL cb)) w' = .ok (.string BY) w') mixed ?_
  refine AnyTo.takeA (i := 0) (v := ?vr0) rfl (by kernel_rfl) (of_decide_eq_true (by kernel_rfl)) (by kernel_rfl) (by kernel_rfl) (fun c a w h => hQp c a w _ _ h) (Or.inl ⟨by kernel_rfl, ?hyr0⟩) hS ?restr0
  case hyr0 => (intro w' hw'; (try dsimp only at hw'); go_simp; try (with_reducible rfl))
  try simp only [Act.put, List.getElem_toArray, List.getElem_cons_zero, List.getElem_cons_succ, List.setIfInBounds_toArray, List.set_cons_zero, List.set_cons_succ]
  refine AnyTo.takeA (i := 1) (v := ?vr1) rfl (by kernel_rfl) (of_decide_eq_true (by kernel_rfl)) (by kernel_rfl) (by kernel_rfl) (fun c a w h => hQp c a w _ _ h) (Or.inl ⟨by kernel_rfl, ?hyr1⟩) hS ?restr1
  case hyr1 => (intro w' hw'; (try dsimp only at hw'); go_simp; try (with_reducible rfl))
  try simp only [Act.put, List.getElem_toArray, List.getElem_cons_zero, List.getElem_cons_succ, List.setIfInBounds_toArray, List.set_cons_zero, List.set_cons_succ]
  refine AnyTo.takeA (i := 2) (v := .bool false) rfl (by kernel_rfl) (of_decide_eq_true (by kernel_rfl)) (by kernel_rfl) (by kernel_rfl) (fun c a w h => hQp c a w _ _ h) (Or.inl ⟨by kernel_rfl, ?hyr2⟩) hS ?restr2
  case hyr2 => (intro w' hw'; (try dsimp only at hw'); go_simp; try (with_reducible rfl))
  try simp only [Act.put, List.getElem_toArray, List.getElem_cons_zero, List.getElem_cons_succ, List.setIfInBounds_toArray, List.set_cons_zero, List.set_cons_succ]
  refine AnyTo.takeA (i := 3) (v := .bool false) rfl (by kernel_rfl) (of_decide_eq_true (by kernel_rfl)) (by kernel_rfl) (by kernel_rfl) (fun c a w h => hQp c a w _ _ h) (Or.inl ⟨by kernel_rfl, ?hyr3⟩) hS ?restr3
  case hyr3 => (intro w' hw'; (try dsimp only at hw'); go_simp; try (with_reducible rfl))
  try simp only [Act.put, List.getElem_toArray, List.getElem_cons_zero, List.getElem_cons_succ, List.setIfInBounds_toArray, List.set_cons_zero, List.set_cons_succ]
  refine AnyTo.takeA (i := 4) (v := ?vr4) rfl (by kernel_rfl) (of_decide_eq_true (by kernel_rfl)) (by kernel_rfl) (by kernel_rfl) (fun c a w h => hQp c a w _ _ h) (Or.inl ⟨by kernel_rfl, ?hyr4⟩) hS ?restr4
  case hyr4 => (intro w' hw'; (try dsimp only at hw'); go_simp; try (with_reducible rfl))
  try simp only [Act.put, List.getElem_toArray, List.getElem_cons_zero, List.getElem_cons_succ, List.setIfInBounds_toArray, List.set_cons_zero, List.set_cons_succ]
  refine AnyTo.takeA (i := 6) (v := ?vr6) rfl (by kernel_rfl) (of_decide_eq_true (by kernel_rfl)) (by kernel_rfl) (by kernel_rfl) (fun c a w h => hQp c a w _ _ h) (Or.inl ⟨by kernel_rfl, ?hyr6⟩) hS ?restr6
  case hyr6 => (intro w' hw'; (try dsimp only at hw'); go_simp; try (with_reducible rfl))
  try simp only [Act.put, List.getElem_toArray, List.getElem_cons_zero, List.getElem_cons_succ, List.setIfInBounds_toArray, List.set_cons_zero, List.set_cons_succ]
  refine AnyTo.takeA (i := 7) (v := ?vr7) rfl (by kernel_rfl) (of_decide_eq_true (by kernel_rfl)) (by kernel_rfl) (by kernel_rfl) (fun c a w h => hQp c a w _ _ h) (Or.inl ⟨by kernel_rfl, ?hyr7⟩) hS ?restr7
  case hyr7 => (intro w' hw'; (try dsimp only at hw'); go_simp; try (with_reducible rfl))
  try simp only [Act.put, List.getElem_toArray, List.getElem_cons_zero, List.getElem_cons_succ, List.setIfInBounds_toArray, List.set_cons_zero, List.set_cons_succ]
  refine AnyTo.takeA (i := 8) (v := ?vr8) rfl (by kernel_rfl) (of_decide_eq_true (by kernel_rfl)) (by kernel_rfl) (by kernel_rfl) (fun c a w h => hQp c a w _ _ h) (Or.inl ⟨by kernel_rfl, ?hyr8⟩) hS ?restr8
  case hyr8 => (intro w' hw'; (try dsimp only at hw'); go_simp; try (with_reducible rfl))
  try simp only [Act.put, List.getElem_toArray, List.getElem_cons_zero, List.getElem_cons_succ, List.setIfInBounds_toArray, List.set_cons_zero, List.set_cons_succ]
  refine AnyTo.takeA (i := 9) (v := .bool true) rfl (by kernel_rfl) (of_decide_eq_true (by kernel_rfl)) (by kernel_rfl) (by kernel_rfl) (fun c a w h => hQp c a w _ _ h) (Or.inl ⟨by kernel_rfl, ?hyr9⟩) hS ?restr9
  case hyr9 => (intro w' hw'; (try dsimp only at hw'); go_simp; try (with_reducible rfl))
  try simp only [Act.put, List.getElem_toArray, List.getElem_cons_zero, List.getElem_cons_succ, List.setIfInBounds_toArray, List.set_cons_zero, List.set_cons_succ]
  refine AnyTo.step (i := 5) (by kernel_rfl) rfl (fun K hK => ?_)
  go_simp
  go_at_call 34
  refine (hF _ HG0.out).2.1.mono ?_
  rintro e w5 ⟨rfl, rfl⟩
  go_wp2_with fail
  refine hK.out _ _ (fun _ => hS) ?_
  clear hK K
  try simp only [Act.put, List.getElem_toArray, List.getElem_cons_zero, List.getElem_cons_succ, List.setIfInBounds_toArray, List.set_cons_zero, List.set_cons_succ]
  refine AnyTo.takeA (i := 10) (v := .bool false) rfl (by kernel_rfl) (of_decide_eq_true (by kernel_rfl)) (by kernel_rfl) (by kernel_rfl) (fun c a w h => hQp c a w _ _ h) (Or.inl ⟨by kernel_rfl, ?hyr10⟩) hS ?restr10
  case hyr10 => (intro w' hw'; (try dsimp only at hw'); go_simp; try (with_reducible rfl))
  try simp only [Act.put, List.getElem_toArray, List.getElem_cons_zero, List.getElem_cons_succ, List.setIfInBounds_toArray, List.set_cons_zero, List.set_cons_succ]
  refine AnyTo.takeA (i := 11) (v := .bool false) rfl (by kernel_rfl) (of_decide_eq_true (by kernel_rfl)) (by kernel_rfl) (by kernel_rfl) (fun c a w h => hQp c a w _ _ h) (Or.inl ⟨by kernel_rfl, ?hyr11⟩) hS ?restr11
  case hyr11 => (intro w' hw'; (try dsimp only at hw'); go_simp; try (with_reducible rfl))
  try simp only [Act.put, List.getElem_toArray, List.getElem_cons_zero, List.getElem_cons_succ, List.setIfInBounds_toArray, List.set_cons_zero, List.set_cons_succ]
  refine AnyTo.takeA (i := 12) (v := .bool false) rfl (by kernel_rfl) (of_decide_eq_true (by kernel_rfl)) (by kernel_rfl) (by kernel_rfl) (fun c a w h => hQp c a w _ _ h) (Or.inl ⟨by kernel_rfl, ?hyr12⟩) hS ?restr12
  case hyr12 => (intro w' hw'; (try dsimp only at hw'); go_simp; try (with_reducible rfl))
  try simp only [Act.put, List.getElem_toArray, List.getElem_cons_zero, List.getElem_cons_succ, List.setIfInBounds_toArray, List.set_cons_zero, List.set_cons_succ]
  refine AnyTo.takeA (i := 13) (v := ?vr13) rfl (by kernel_rfl) (of_decide_eq_true (by kernel_rfl)) (by kernel_rfl) (by kernel_rfl) (fun c a w h => hQp c a w _ _ h) (Or.inl ⟨by kernel_rfl, ?hyr13⟩) hS ?restr13
  case hyr13 => (intro w' hw'; (try dsimp only at hw'); go_simp; try (with_reducible rfl))
  try simp only [Act.put, List.getElem_toArray, List.getElem_cons_zero, List.getElem_cons_succ, List.setIfInBounds_toArray, List.set_cons_zero, List.set_cons_succ]
  refine AnyTo.takeA (i := 14) (v := .bool true) rfl (by kernel_rfl) (of_decide_eq_true (by kernel_rfl)) (by kernel_rfl) (by kernel_rfl) (fun c a w h => hQp c a w _ _ h) (Or.inl ⟨by kernel_rfl, ?hyr14⟩) hS ?restr14
  case hyr14 => (intro w' hw'; (try dsimp only at hw'); go_simp; try (with_reducible rfl))
  try simp only [Act.put, List.getElem_toArray, List.getElem_cons_zero, List.getElem_cons_succ, List.setIfInBounds_toArray, List.set_cons_zero, List.set_cons_succ]
  refine AnyTo.takeA (i := 15) (v := ?vr15) rfl (by kernel_rfl) (of_decide_eq_true (by kernel_rfl)) (by kernel_rfl) (by kernel_rfl) (fun c a w h => hQp c a w _ _ h) (Or.inl ⟨by kernel_rfl, ?hyr15⟩) hS ?restr15
  case hyr15 => (intro w' hw'; (try dsimp only at hw'); go_simp; try (with_reducible rfl))
  try simp only [Act.put, List.getElem_toArray, List.getElem_cons_zero, List.getElem_cons_succ, List.setIfInBounds_toArray, List.set_cons_zero, List.set_cons_succ]
  refine AnyTo.takeA (i := 16) (v := ?vr16) rfl (by kernel_rfl) (of_decide_eq_true (by kernel_rfl)) (by kernel_rfl) (by kernel_rfl) (fun c a w h => hQp c a w _ _ h) (Or.inl ⟨by kernel_rfl, ?hyr16⟩) hS ?restr16
  case hyr16 => (intro w' hw'; (try dsimp only at hw'); go_simp; try (with_reducible rfl))
  try simp only [Act.put, List.getElem_toArray, List.getElem_cons_zero, List.getElem_cons_succ, List.setIfInBounds_toArray, List.set_cons_zero, List.set_cons_succ]
  refine AnyTo.takeA (i := 17) (v := ?vr17) rfl (by kernel_rfl) (of_decide_eq_true (by kernel_rfl)) (by kernel_rfl) (by kernel_rfl) (fun c a w h => hQp c a w _ _ h) (Or.inl ⟨by kernel_rfl, ?hyr17⟩) hS ?restr17
  case hyr17 => (intro w' hw'; (try dsimp only at hw'); go_simp; try (with_reducible rfl))
  try simp only [Act.put, List.getElem_toArray, List.getElem_cons_zero, List.getElem_cons_succ, List.setIfInBounds_toArray, List.set_cons_zero, List.set_cons_succ]
  refine AnyTo.takeA (i := 18) (v := .bool true) rfl (by kernel_rfl) (of_decide_eq_true (by kernel_rfl)) (by kernel_rfl) (by kernel_rfl) (fun c a w h => hQp c a w _ _ h) (Or.inl ⟨by kernel_rfl, ?hyr18⟩) hS ?restr18
  case hyr18 => (intro w' hw'; (try dsimp only at hw'); go_simp; try (with_reducible rfl))
  try simp only [Act.put, List.getElem_toArray, List.getElem_cons_zero, List.getElem_cons_succ, List.setIfInBounds_toArray, List.set_cons_zero, List.set_cons_succ]
  refine AnyTo.takeA (i := 19) (v := .bool false) rfl (by kernel_rfl) (of_decide_eq_true (by kernel_rfl)) (by kernel_rfl) (by kernel_rfl) (fun c a w h => hQp c a w _ _ h) (Or.inl ⟨by kernel_rfl, ?hyr19⟩) hS ?restr19
  case hyr19 => (intro w' hw'; (try dsimp only at hw'); go_simp; try (with_reducible rfl))
  try simp only [Act.put, List.getElem_toArray, List.getElem_cons_zero, List.getElem_cons_succ, List.setIfInBounds_toArray, List.set_cons_zero, List.set_cons_succ]
  refine AnyTo.takeA (i := 20) (v := .bool false) rfl (by kernel_rfl) (of_decide_eq_true (by kernel_rfl)) (by kernel_rfl) (by kernel_rfl) (fun c a w h => hQp c a w _ _ h) (Or.inl ⟨by kernel_rfl, ?hyr20⟩) hS ?restr20
  case hyr20 => (intro w' hw'; (try dsimp only at hw'); go_simp; try (with_reducible rfl))
  try simp only [Act.put, List.getElem_toArray, List.getElem_cons_zero, List.getElem_cons_succ, List.setIfInBounds_toArray, List.set_cons_zero, List.set_cons_succ]
  refine AnyTo.takeA (i := 21) (v := .bool false) rfl (by kernel_rfl) (of_decide_eq_true (by kernel_rfl)) (by kernel_rfl) (by kernel_rfl) (fun c a w h => hQp c a w _ _ h) (Or.inl ⟨by kernel_rfl, ?hyr21⟩) hS ?restr21
  case hyr21 => (intro w' hw'; (try dsimp only at hw'); go_simp; try (with_reducible rfl))
  try simp only [Act.put, List.getElem_toArray, List.getElem_cons_zero, List.getElem_cons_succ, List.setIfInBounds_toArray, List.set_cons_zero, List.set_cons_succ]
  refine AnyTo.takeA (i := 22) (v := ?vr22) rfl (by kernel_rfl) (of_decide_eq_true (by kernel_rfl)) (by kernel_rfl) (by kernel_rfl) (fun c a w h => hQp c a w _ _ h) (Or.inl ⟨by kernel_rfl, ?hyr22⟩) hS ?restr22
  case hyr22 => (intro w' hw'; (try dsimp only at hw'); go_simp; try (with_reducible rfl))
  try simp only [Act.put, List.getElem_toArray, List.getElem_cons_zero, List.getElem_cons_succ, List.setIfInBounds_toArray, List.set_cons_zero, List.set_cons_succ]
  refine AnyTo.takeA (i := 23) (v := ?vr23) rfl (by kernel_rfl) (of_decide_eq_true (by kernel_rfl)) (by kernel_rfl) (by kernel_rfl) (fun c a w h => hQp c a w _ _ h) (Or.inl ⟨by kernel_rfl, ?hyr23⟩) hS ?restr23
  case hyr23 => (intro w' hw'; (try dsimp only at hw'); go_simp; try (with_reducible rfl))
  try simp only [Act.put, List.getElem_toArray, List.getElem_cons_zero, List.getElem_cons_succ, List.setIfInBounds_toArray, List.set_cons_zero, List.set_cons_succ]
  refine AnyTo.takeA (i := 24) (v := ?vr24) rfl (by kernel_rfl) (of_decide_eq_true (by kernel_rfl)) (by kernel_rfl) (by kernel_rfl) (fun c a w h => hQp c a w _ _ h) (Or.inl ⟨by kernel_rfl, ?hyr24⟩) hS ?restr24
  case hyr24 => (intro w' hw'; (try dsimp only at hw'); go_simp; try (with_reducible rfl))
  try simp only [Act.put, List.getElem_toArray, List.getElem_cons_zero, List.getElem_cons_succ, List.setIfInBounds_toArray, List.set_cons_zero, List.set_cons_succ]
  refine AnyTo.takeA (i := 25) (v := .bool true) rfl (by kernel_rfl) (of_decide_eq_true (by kernel_rfl)) (by kernel_rfl) (by kernel_rfl) (fun c a w h => hQp c a w _ _ h) (Or.inl ⟨by kernel_rfl, ?hyr25⟩) hS ?restr25
  case hyr25 => (intro w' hw'; (try dsimp only at hw'); go_simp; try (with_reducible rfl))
  try simp only [Act.put, List.getElem_toArray, List.getElem_cons_zero, List.getElem_cons_succ, List.setIfInBounds_toArray, List.set_cons_zero, List.set_cons_succ]
  refine AnyTo.takeA (i := 26) (v := .bool false) rfl (by kernel_rfl) (of_decide_eq_true (by kernel_rfl)) (by kernel_rfl) (by kernel_rfl) (fun c a w h => hQp c a w _ _ h) (Or.inl ⟨by kernel_rfl, ?hyr26⟩) hS ?restr26
  case hyr26 => (intro w' hw'; (try dsimp only at hw'); go_simp; try (with_reducible rfl))
  try simp only [Act.put, List.getElem_toArray, List.getElem_cons_zero, List.getElem_cons_succ, List.setIfInBounds_toArray, List.set_cons_zero, List.set_cons_succ]
  refine AnyTo.takeA (i := 27) (v := .bool false) rfl (by kernel_rfl) (of_decide_eq_true (by kernel_rfl)) (by kernel_rfl) (by kernel_rfl) (fun c a w h => hQp c a w _ _ h) (Or.inl ⟨by kernel_rfl, ?hyr27⟩) hS ?restr27
  case hyr27 => (intro w' hw'; (try dsimp only at hw'); go_simp; try (with_reducible rfl))
  try simp only [Act.put, List.getElem_toArray, List.getElem_cons_zero, List.getElem_cons_succ, List.setIfInBounds_toArray, List.set_cons_zero, List.set_cons_succ]
  refine AnyTo.takeA (i := 28) (v := undef) rfl (by kernel_rfl) (of_decide_eq_true (by kernel_rfl)) (by kernel_rfl) (by kernel_rfl) (fun c a w h => hQp c a w _ _ h) (Or.inr ⟨by kernel_rfl, rfl⟩) hS ?restr28
  try simp only [Act.put, List.getElem_toArray, List.getElem_cons_zero, List.getElem_cons_succ, List.setIfInBounds_toArray, List.set_cons_zero, List.set_cons_succ]
  refine AnyTo.takeA (i := 29) (v := undef) rfl (by kernel_rfl) (of_decide_eq_true (by kernel_rfl)) (by kernel_rfl) (by kernel_rfl) (fun c a w h => hQp c a w _ _ h) (Or.inr ⟨by kernel_rfl, rfl⟩) hS ?restr29
  try simp only [Act.put, List.getElem_toArray, List.getElem_cons_zero, List.getElem_cons_succ, List.setIfInBounds_toArray, List.set_cons_zero, List.set_cons_succ]
  refine AnyTo.takeA (i := 30) (v := undef) rfl (by kernel_rfl) (of_decide_eq_true (by kernel_rfl)) (by kernel_rfl) (by kernel_rfl) (fun c a w h => hQp c a w _ _ h) (Or.inr ⟨by kernel_rfl, rfl⟩) hS ?restr30
  try simp only [Act.put, List.getElem_toArray, List.getElem_cons_zero, List.getElem_cons_succ, List.setIfInBounds_toArray, List.set_cons_zero, List.set_cons_succ]
  refine AnyTo.takeA (i := 31) (v := undef) rfl (by kernel_rfl) (of_decide_eq_true (by kernel_rfl)) (by kernel_rfl) (by kernel_rfl) (fun c a w h => hQp c a w _ _ h) (Or.inr ⟨by kernel_rfl, rfl⟩) hS ?restr31
  try simp only [Act.put, List.getElem_toArray, List.getElem_cons_zero, List.getElem_cons_succ, List.setIfInBounds_toArray, List.set_cons_zero, List.set_cons_succ]
  refine AnyTo.takeA (i := 32) (v := undef) rfl (by kernel_rfl) (of_decide_eq_true (by kernel_rfl)) (by kernel_rfl) (by kernel_rfl) (fun c a w h => hQp c a w _ _ h) (Or.inr ⟨by kernel_rfl, rfl⟩) hS ?restr32
  try simp only [Act.put, List.getElem_toArray, List.getElem_cons_zero, List.getElem_cons_succ, List.setIfInBounds_toArray, List.set_cons_zero, List.set_cons_succ]
  refine AnyTo.takeA (i := 33) (v := undef) rfl (by kernel_rfl) (of_decide_eq_true (by kernel_rfl)) (by kernel_rfl) (by kernel_rfl) (fun c a w h => hQp c a w _ _ h) (Or.inr ⟨by kernel_rfl, rfl⟩) hS ?restr33
  try simp only [Act.put, List.getElem_toArray, List.getElem_cons_zero, List.getElem_cons_succ, List.setIfInBounds_toArray, List.set_cons_zero, List.set_cons_succ]
  refine AnyTo.takeA (i := 34) (v := undef) rfl (by kernel_rfl) (of_decide_eq_true (by kernel_rfl)) (by kernel_rfl) (by kernel_rfl) (fun c a w h => hQp c a w _ _ h) (Or.inr ⟨by kernel_rfl, rfl⟩) hS ?restr34
  try simp only [Act.put, List.getElem_toArray, List.getElem_cons_zero, List.getElem_cons_succ, List.setIfInBounds_toArray, List.set_cons_zero, List.set_cons_succ]
  refine AnyTo.takeA (i := 35) (v := .bool false) rfl (by kernel_rfl) (of_decide_eq_true (by kernel_rfl)) (by kernel_rfl) (by kernel_rfl) (fun c a w h => hQp c a w _ _ h) (Or.inl ⟨by kernel_rfl, ?hyr35⟩) hS ?restr35
  case hyr35 => (intro w' hw'; (try dsimp only at hw'); go_simp; try (with_reducible rfl))
  try simp only [Act.put, List.getElem_toArray, List.getElem_cons_zero, List.getElem_cons_succ, List.setIfInBounds_toArray, List.set_cons_zero, List.set_cons_succ]
  refine AnyTo.takeA (i := 36) (v := .bool false) rfl (by kernel_rfl) (of_decide_eq_true (by kernel_rfl)) (by kernel_rfl) (by kernel_rfl) (fun c a w h => hQp c a w _ _ h) (Or.inl ⟨by kernel_rfl, ?hyr36⟩) hS ?restr36
  case hyr36 => (intro w' hw'; (try dsimp only at hw'); go_simp; try (with_reducible rfl))
  try simp only [Act.put, List.getElem_toArray, List.getElem_cons_zero, List.getElem_cons_succ, List.setIfInBounds_toArray, List.set_cons_zero, List.set_cons_succ]
  refine AnyTo.takeA (i := 37) (v := .bool false) rfl (by kernel_rfl) (of_decide_eq_true (by kernel_rfl)) (by kernel_rfl) (by kernel_rfl) (fun c a w h => hQp c a w _ _ h) (Or.inl ⟨by kernel_rfl, ?hyr37⟩) hS ?restr37
  case hyr37 => (intro w' hw'; (try dsimp only at hw'); go_simp; try (with_reducible rfl))
  try simp only [Act.put, List.getElem_toArray, List.getElem_cons_zero, List.getElem_cons_succ, List.setIfInBounds_toArray, List.set_cons_zero, List.set_cons_succ]
  refine AnyTo.takeA (i := 38) (v := ?vr38) rfl (by kernel_rfl) (of_decide_eq_true (by kernel_rfl)) (by kernel_rfl) (by kernel_rfl) (fun c a w h => hQp c a w _ _ h) (Or.inl ⟨by kernel_rfl, ?hyr38⟩) hS ?restr38
  case hyr38 => (intro w' hw'; (try dsimp only at hw'); go_simp; try (with_reducible rfl))
  try simp only [Act.put, List.getElem_toArray, List.getElem_cons_zero, List.getElem_cons_succ, List.setIfInBounds_toArray, List.set_cons_zero, List.set_cons_succ]
  refine AnyTo.takeA (i := 40) (v := ?vr40) rfl (by kernel_rfl) (of_decide_eq_true (by kernel_rfl)) (by kernel_rfl) (by kernel_rfl) (fun c a w h => hQp c a w _ _ h) (Or.inl ⟨by kernel_rfl, ?hyr40⟩) hS ?restr40
  case hyr40 => (intro w' hw'; (try dsimp only at hw'); go_simp; try (with_reducible rfl))
  try simp only [Act.put, List.getElem_toArray, List.getElem_cons_zero, List.getElem_cons_succ, List.setIfInBounds_toArray, List.set_cons_zero, List.set_cons_succ]
  refine AnyTo.takeA (i := 41) (v := ?vr41) rfl (by kernel_rfl) (of_decide_eq_true (by kernel_rfl)) (by kernel_rfl) (by kernel_rfl) (fun c a w h => hQp c a w _ _ h) (Or.inl ⟨by kernel_rfl, ?hyr41⟩) hS ?restr41
  case hyr41 => (intro w' hw'; (try dsimp only at hw'); go_simp; try (with_reducible rfl))
  try simp only [Act.put, List.getElem_toArray, List.getElem_cons_zero, List.getElem_cons_succ, List.setIfInBounds_toArray, List.set_cons_zero, List.set_cons_succ]
  refine AnyTo.takeA (i := 42) (v := ?vr42) rfl (by kernel_rfl) (of_decide_eq_true (by kernel_rfl)) (by kernel_rfl) (by kernel_rfl) (fun c a w h => hQp c a w _ _ h) (Or.inl ⟨by kernel_rfl, ?hyr42⟩) hS ?restr42
  case hyr42 => (intro w' hw'; (try dsimp only at hw'); go_simp; try (with_reducible rfl))
  try simp only [Act.put, List.getElem_toArray, List.getElem_cons_zero, List.getElem_cons_succ, List.setIfInBounds_toArray, List.set_cons_zero, List.set_cons_succ]
  refine AnyTo.takeA (i := 43) (v := .slice ab AL cb) rfl (by kernel_rfl) (of_decide_eq_true (by kernel_rfl)) (by kernel_rfl) (by kernel_rfl) (fun c a w h => hQp c a w _ _ h) (Or.inl ⟨by kernel_rfl, ?hyr43⟩) hS ?restr43
  case hyr43 => (intro w' hw'; (try dsimp only at hw'); go_simp; try (with_reducible rfl))
  try simp only [Act.put, List.getElem_toArray, List.getElem_cons_zero, List.getElem_cons_succ, List.setIfInBounds_toArray, List.set_cons_zero, List.set_cons_succ]
  refine AnyTo.takeA (i := 44) (v := .int .i64 (AL : Nat)) rfl (by kernel_rfl) (of_decide_eq_true (by kernel_rfl)) (by kernel_rfl) (by kernel_rfl) (fun c a w h => hQp c a w _ _ h) (Or.inl ⟨by kernel_rfl, ?hyr44⟩) hS ?restr44
  case hyr44 => (intro w' hw'; (try dsimp only at hw'); go_simp; try (with_reducible rfl))
  try simp only [Act.put, List.getElem_toArray, List.getElem_cons_zero, List.getElem_cons_succ, List.setIfInBounds_toArray, List.set_cons_zero, List.set_cons_succ]
  refine AnyTo.step (i := 39) (by kernel_rfl) rfl (fun K hK => ?_)
  go_simp
  go_at_call 28
  refine (hF _ HG0.out).2.2.1.mono ?_
  rintro e w39 ⟨rfl, hb⟩
  have HG1 := Lib.hid (hstep _ _ HG0.out hb)
  clear hb hS
  have hS := (hF _ HG1.out).1
  go_wp2_with fail
  refine hK.out _ _ (fun _ => hS) ?_
  clear hK K
  try simp only [Act.put, List.getElem_toArray, List.getElem_cons_zero, List.getElem_cons_succ, List.setIfInBounds_toArray, List.set_cons_zero, List.set_cons_succ]
  refine AnyTo.takeA (i := 45) (v := .bool false) rfl (by kernel_rfl) (of_decide_eq_true (by kernel_rfl)) (by kernel_rfl) (by kernel_rfl) (fun c a w h => hQp c a w _ _ h) (Or.inl ⟨by kernel_rfl, ?hyr45⟩) hS ?restr45
  case hyr45 => (intro w' hw'; (try dsimp only at hw'); go_simp; try (with_reducible rfl))
  try simp only [Act.put, List.getElem_toArray, List.getElem_cons_zero, List.getElem_cons_succ, List.setIfInBounds_toArray, List.set_cons_zero, List.set_cons_succ]
  refine AnyTo.takeA (i := 46) (v := .bool false) rfl (by kernel_rfl) (of_decide_eq_true (by kernel_rfl)) (by kernel_rfl) (by kernel_rfl) (fun c a w h => hQp c a w _ _ h) (Or.inl ⟨by kernel_rfl, ?hyr46⟩) hS ?restr46
  case hyr46 => (intro w' hw'; (try dsimp only at hw'); go_simp; try (with_reducible rfl))
  try simp only [Act.put, List.getElem_toArray, List.getElem_cons_zero, List.getElem_cons_succ, List.setIfInBounds_toArray, List.set_cons_zero, List.set_cons_succ]
  refine AnyTo.takeA (i := 47) (v := .bool false) rfl (by kernel_rfl) (of_decide_eq_true (by kernel_rfl)) (by kernel_rfl) (by kernel_rfl) (fun c a w h => hQp c a w _ _ h) (Or.inl ⟨by kernel_rfl, ?hyr47⟩) hS ?restr47
  case hyr47 => (intro w' hw'; (try dsimp only at hw'); go_simp; try (with_reducible rfl))
  try simp only [Act.put, List.getElem_toArray, List.getElem_cons_zero, List.getElem_cons_succ, List.setIfInBounds_toArray, List.set_cons_zero, List.set_cons_succ]
  refine AnyTo.takeA (i := 48) (v := ?vr48) rfl (by kernel_rfl) (of_decide_eq_true (by kernel_rfl)) (by kernel_rfl) (by kernel_rfl) (fun c a w h => hQp c a w _ _ h) (Or.inl ⟨by kernel_rfl, ?hyr48⟩) hS ?restr48
  case hyr48 => (intro w' hw'; (try dsimp only at hw'); go_simp; try (with_reducible rfl))
  try simp only [Act.put, List.getElem_toArray, List.getElem_cons_zero, List.getElem_cons_succ, List.setIfInBounds_toArray, List.set_cons_zero, List.set_cons_succ]
  refine AnyTo.takeA (i := 50) (v := ?vr50) rfl (by kernel_rfl) (of_decide_eq_true (by kernel_rfl)) (by kernel_rfl) (by kernel_rfl) (fun c a w h => hQp c a w _ _ h) (Or.inl ⟨by kernel_rfl, ?hyr50⟩) hS ?restr50
  case hyr50 => (intro w' hw'; (try dsimp only at hw'); go_simp; try (with_reducible rfl))
  try simp only [Act.put, List.getElem_toArray, List.getElem_cons_zero, List.getElem_cons_succ, List.setIfInBounds_toArray, List.set_cons_zero, List.set_cons_succ]
  refine AnyTo.step (i := 49) (by kernel_rfl) rfl (fun K hK => ?_)
  go_simp
  go_at_call 29
  refine (hF _ HG1.out).2.2.2.1.mono ?_
  rintro e w49 ⟨rfl, rfl⟩
  go_wp2_with fail
  refine hK.out _ _ (fun _ => hS) ?_
  clear hK K
  try simp only [Act.put, List.getElem_toArray, List.getElem_cons_zero, List.getElem_cons_succ, List.setIfInBounds_toArray, List.set_cons_zero, List.set_cons_succ]
  refine AnyTo.step (i := 51) (by kernel_rfl) rfl (fun K hK => ?_)
  go_simp
  go_at_call 41
  refine (hF _ HG1.out).2.2.2.2.1.mono ?_
  rintro e w51 ⟨rfl, rfl⟩
  go_wp2_with fail
  refine hK.out _ _ (fun _ => hS) ?_
  clear hK K
  try simp only [Act.put, List.getElem_toArray, List.getElem_cons_zero, List.getElem_cons_succ, List.setIfInBounds_toArray, List.set_cons_zero, List.set_cons_succ]
  refine AnyTo.takeA (i := 52) (v := .bool false) rfl (by kernel_rfl) (of_decide_eq_true (by kernel_rfl)) (by kernel_rfl) (by kernel_rfl) (fun c a w h => hQp c a w _ _ h) (Or.inl ⟨by kernel_rfl, ?hyr52⟩) hS ?restr52
  case hyr52 => (intro w' hw'; (try dsimp only at hw'); go_simp; try (with_reducible rfl))
  try simp only [Act.put, List.getElem_toArray, List.getElem_cons_zero, List.getElem_cons_succ, List.setIfInBounds_toArray, List.set_cons_zero, List.set_cons_succ]
  refine AnyTo.takeA (i := 53) (v := .bool false) rfl (by kernel_rfl) (of_decide_eq_true (by kernel_rfl)) (by kernel_rfl) (by kernel_rfl) (fun c a w h => hQp c a w _ _ h) (Or.inl ⟨by kernel_rfl, ?hyr53⟩) hS ?restr53
  case hyr53 => (intro w' hw'; (try dsimp only at hw'); go_simp; try (with_reducible rfl))
  try simp only [Act.put, List.getElem_toArray, List.getElem_cons_zero, List.getElem_cons_succ, List.setIfInBounds_toArray, List.set_cons_zero, List.set_cons_succ]
  refine AnyTo.takeA (i := 54) (v := .bool false) rfl (by kernel_rfl) (of_decide_eq_true (by kernel_rfl)) (by kernel_rfl) (by kernel_rfl) (fun c a w h => hQp c a w _ _ h) (Or.inl ⟨by kernel_rfl, ?hyr54⟩) hS ?restr54
  case hyr54 => (intro w' hw'; (try dsimp only at hw'); go_simp; try (with_reducible rfl))
  try simp only [Act.put, List.getElem_toArray, List.getElem_cons_zero, List.getElem_cons_succ, List.setIfInBounds_toArray, List.set_cons_zero, List.set_cons_succ]
  refine AnyTo.takeA (i := 55) (v := ?vr55) rfl (by kernel_rfl) (of_decide_eq_true (by kernel_rfl)) (by kernel_rfl) (by kernel_rfl) (fun c a w h => hQp c a w _ _ h) (Or.inl ⟨by kernel_rfl, ?hyr55⟩) hS ?restr55
  case hyr55 => (intro w' hw'; (try dsimp only at hw'); go_simp; try (with_reducible rfl))
  try simp only [Act.put, List.getElem_toArray, List.getElem_cons_zero, List.getElem_cons_succ, List.setIfInBounds_toArray, List.set_cons_zero, List.set_cons_succ]
  refine AnyTo.takeA (i := 57) (v := ?vr57) rfl (by kernel_rfl) (of_decide_eq_true (by kernel_rfl)) (by kernel_rfl) (by kernel_rfl) (fun c a w h => hQp c a w _ _ h) (Or.inl ⟨by kernel_rfl, ?hyr57⟩) hS ?restr57
  case hyr57 => (intro w' hw'; (try dsimp only at hw'); go_simp; try (with_reducible rfl))
  try simp only [Act.put, List.getElem_toArray, List.getElem_cons_zero, List.getElem_cons_succ, List.setIfInBounds_toArray, List.set_cons_zero, List.set_cons_succ]
  refine AnyTo.takeA (i := 58) (v := ?vr58) rfl (by kernel_rfl) (of_decide_eq_true (by kernel_rfl)) (by kernel_rfl) (by kernel_rfl) (fun c a w h => hQp c a w _ _ h) (Or.inl ⟨by kernel_rfl, ?hyr58⟩) hS ?restr58
  case hyr58 => (intro w' hw'; (try dsimp only at hw'); go_simp; try (with_reducible rfl))
  try simp only [Act.put, List.getElem_toArray, List.getElem_cons_zero, List.getElem_cons_succ, List.setIfInBounds_toArray, List.set_cons_zero, List.set_cons_succ]
  refine AnyTo.takeA (i := 59) (v := ?vr59) rfl (by kernel_rfl) (of_decide_eq_true (by kernel_rfl)) (by kernel_rfl) (by kernel_rfl) (fun c a w h => hQp c a w _ _ h) (Or.inl ⟨by kernel_rfl, ?hyr59⟩) hS ?restr59
  case hyr59 => (intro w' hw'; (try dsimp only at hw'); go_simp; try (with_reducible rfl))
  try simp only [Act.put, List.getElem_toArray, List.getElem_cons_zero, List.getElem_cons_succ, List.setIfInBounds_toArray, List.set_cons_zero, List.set_cons_succ]
  refine AnyTo.takeA (i := 60) (v := .int .i64 CP) rfl (by kernel_rfl) (of_decide_eq_true (by kernel_rfl)) (by kernel_rfl) (by kernel_rfl) (fun c a w h => hQp c a w _ _ h) (Or.inl ⟨by kernel_rfl, ?hyr60⟩) hS ?restr60
  case hyr60 => (intro w' hw'; (try dsimp only at hw'); go_simp; try (with_reducible rfl))
  try simp only [Act.put, List.getElem_toArray, List.getElem_cons_zero, List.getElem_cons_succ, List.setIfInBounds_toArray, List.set_cons_zero, List.set_cons_succ]
  refine AnyTo.takeA (i := 61) (v := ?vr61) rfl (by kernel_rfl) (of_decide_eq_true (by kernel_rfl)) (by kernel_rfl) (by kernel_rfl) (fun c a w h => hQp c a w _ _ h) (Or.inl ⟨by kernel_rfl, ?hyr61⟩) hS ?restr61
  case hyr61 => (intro w' hw'; (try dsimp only at hw'); go_simp; try (with_reducible rfl))
  try simp only [Act.put, List.getElem_toArray, List.getElem_cons_zero, List.getElem_cons_succ, List.setIfInBounds_toArray, List.set_cons_zero, List.set_cons_succ]
  refine AnyTo.takeA (i := 62) (v := ?vr62) rfl (by kernel_rfl) (of_decide_eq_true (by kernel_rfl)) (by kernel_rfl) (by kernel_rfl) (fun c a w h => hQp c a w _ _ h) (Or.inl ⟨by kernel_rfl, ?hyr62⟩) hS ?restr62
  case hyr62 => (intro w' hw'; (try dsimp only at hw'); go_simp; try (with_reducible rfl))
  try simp only [Act.put, List.getElem_toArray, List.getElem_cons_zero, List.getElem_cons_succ, List.setIfInBounds_toArray, List.set_cons_zero, List.set_cons_succ]
  refine AnyTo.takeA (i := 63) (v := ?vr63) rfl (by kernel_rfl) (of_decide_eq_true (by kernel_rfl)) (by kernel_rfl) (by kernel_rfl) (fun c a w h => hQp c a w _ _ h) (Or.inl ⟨by kernel_rfl, ?hyr63⟩) hS ?restr63
  case hyr63 => (intro w' hw'; (try dsimp only at hw'); go_simp; try (with_reducible rfl))
  try simp only [Act.put, List.getElem_toArray, List.getElem_cons_zero, List.getElem_cons_succ, List.setIfInBounds_toArray, List.set_cons_zero, List.set_cons_succ]
  refine AnyTo.takeA (i := 64) (v := .slice ab AL cb) rfl (by kernel_rfl) (of_decide_eq_true (by kernel_rfl)) (by kernel_rfl) (by kernel_rfl) (fun c a w h => hQp c a w _ _ h) (Or.inl ⟨by kernel_rfl, ?hyr64⟩) hS ?restr64
  case hyr64 => (intro w' hw'; (try dsimp only at hw'); go_simp; try (with_reducible rfl))
  try simp only [Act.put, List.getElem_toArray, List.getElem_cons_zero, List.getElem_cons_succ, List.setIfInBounds_toArray, List.set_cons_zero, List.set_cons_succ]
  refine AnyTo.takeA (i := 65) (v := .int .i64 (AL : Nat)) rfl (by kernel_rfl) (of_decide_eq_true (by kernel_rfl)) (by kernel_rfl) (by kernel_rfl) (fun c a w h => hQp c a w _ _ h) (Or.inl ⟨by kernel_rfl, ?hyr65⟩) hS ?restr65
  case hyr65 => (intro w' hw'; (try dsimp only at hw'); go_simp; try (with_reducible rfl))
  try simp only [Act.put, List.getElem_toArray, List.getElem_cons_zero, List.getElem_cons_succ, List.setIfInBounds_toArray, List.set_cons_zero, List.set_cons_succ]
  refine AnyTo.takeA (i := 66) (v := .int .i64 RM) rfl (by kernel_rfl) (of_decide_eq_true (by kernel_rfl)) (by kernel_rfl) (by kernel_rfl) (fun c a w h => hQp c a w _ _ h) (Or.inl ⟨by kernel_rfl, ?hyr66⟩) hS ?restr66
  case hyr66 => (intro w' hw'; (try dsimp only at hw'); go_simp; try (with_reducible rfl))
  try simp only [Act.put, List.getElem_toArray, List.getElem_cons_zero, List.getElem_cons_succ, List.setIfInBounds_toArray, List.set_cons_zero, List.set_cons_succ]
  refine AnyTo.step (i := 56) (by kernel_rfl) rfl (fun K hK => ?_)
  go_simp
  go_at_call 25
  refine (hF _ HG1.out).2.2.2.2.2.mono ?_
  rintro e w56 ⟨rfl, hb⟩
  have HG2 := Lib.hid (hstep _ _ HG1.out hb)
  clear hb hS
  have hS := (hF _ HG2.out).1
  go_wp2_with fail
  refine hK.out _ _ (fun _ => hS) ?_
  clear hK K
  try simp only [Act.put, List.getElem_toArray, List.getElem_cons_zero, List.getElem_cons_succ, List.setIfInBounds_toArray, List.set_cons_zero, List.set_cons_succ]
  refine AnyTo.takeA (i := 67) (v := .bool false) rfl (by kernel_rfl) (of_decide_eq_true (by kernel_rfl)) (by kernel_rfl) (by kernel_rfl) (fun c a w h => hQp c a w _ _ h) (Or.inl ⟨by kernel_rfl, ?hyr67⟩) hS ?restr67
  case hyr67 => (intro w' hw'; (try dsimp only at hw'); go_simp; try (with_reducible rfl))
  try simp only [Act.put, List.getElem_toArray, List.getElem_cons_zero, List.getElem_cons_succ, List.setIfInBounds_toArray, List.set_cons_zero, List.set_cons_succ]
  refine AnyTo.takeA (i := 68) (v := .bool false) rfl (by kernel_rfl) (of_decide_eq_true (by kernel_rfl)) (by kernel_rfl) (by kernel_rfl) (fun c a w h => hQp c a w _ _ h) (Or.inl ⟨by kernel_rfl, ?hyr68⟩) hS ?restr68
  case hyr68 => (intro w' hw'; (try dsimp only at hw'); go_simp; try (with_reducible rfl))
  try simp only [Act.put, List.getElem_toArray, List.getElem_cons_zero, List.getElem_cons_succ, List.setIfInBounds_toArray, List.set_cons_zero, List.set_cons_succ]
  refine AnyTo.done (by kernel_rfl) ?_
  exact hQ _ _ _ _ _ _ _ _ _ _ _ _ _ _ _ _ _ _ _ _ _ _ _ _ _ _ _ _ _ _ _ _ _ _ _ _ _ _ _ _ _ _ _ _ _ _ _ _ _ _ _ _ _ _ _ _ _ _ _ _ _ _ _ _ _ _ _ _ _ HG2.out

end Go.Proofs.Ytpnmhpkpkejdiaa
