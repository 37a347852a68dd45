/- Layer 14: the last region of DiskCrashes, that draws its order, walked by itself, over a frame of letters. -/
import Derived.Test.YtpnmhpkpkejdiaaDiskJ
import Derived.Test.YtpnmhpkpkejdiaaAnyAll
import Derived.Test.YtpnmhpkpkejdiaaBytes
namespace Go.Proofs.Ytpnmhpkpkejdiaa
open Go.ChangeShapes Go.WideShapes Go.ChangeAt Go.RowKit

/-- the region of a number, out of a function's code -/
def regionOf (n : Nat) : Code → Option Code
  | .region i o d => if i == n then some (.region i o d) else none
  | .seq a b => match regionOf n a with
    | some c => some c
    | none => regionOf n b
  | .loop c => regionOf n c
  | .block _ c => regionOf n c
  | .scope c => regionOf n c
  | .cond _ a b => match regionOf n a with
    | some c => some c
    | none => regionOf n b
  | _ => none

set_option maxRecDepth 1000000 in
set_option maxHeartbeats 6400000 in
theorem dcReg {B m z : Nat} {v9 : World} {BY LA Z : ByteArray} {Q : Exit → Act → World → Prop} {u0 u1 u2 u3 u4 u5 u6 u10 u11 u13 u15 u17 u18 u19 u20 u21 u22 u23 u24 u25 u26 u27 u28 u29 u30 u31 u32 u33 u34 u35 u36 u37 u38 u39 u40 u41 u42 u43 u44 u45 u46 u47 u48 u49 u50 u51 u52 u53 u54 u55 u56 u57 u58 u59 u60 u61 u62 u63 u64 u65 u66 u67 u68 u69 u70 u71 u72 u73 u74 u75 u76 u77 u78 u79 u80 u81 u82 u83 u84 u85 u86 u87 u88 u89 u90 u91 u92 u93 u94 u95 u96 u97 u98 u99 u100 u101 u102 u103 u104 u105 u106 u107 u108 u109 u110 u111 u112 u113 u114 u115 u116 u117 u118 u119 u120 u121 u122 u123 u124 u125 u126 u127 u128 u129 u130 u131 u132 u133 u134 u135 u136 u137 u138 : Value} (hB : B ≤ v9.heap.size) (hz : z ≤ 10000) (hm : m ≤ BY.size) (hb : BY.size ≤ 10000)
    (hla : LA.size ≤ 10000) (hZ : LA ++ { data := Array.replicate z 0 } = Z) (hwr : IntKind.i64.wrap ((BY.size : Int) - (m : Int)) = (z : Int)) (hcut : BY.extract 0 m = LA)
    (hQp : ∀ c a w (d : Nat) v, Q (.panic c) (Act.put a (some d) v) w → Q (.panic c) a w) (hQ : ∀ (w' : World) (x111 x112 x113 x114 x115 x116 x117 x118 x119 x120 x121 x122 x123 x124 x125 x126 x127 x128 x129 x130 x131 x132 x133 x134 x135 x136 x137 x138 : Value), Below B v9 w' → Q .normal ⟨#[u0, u1, .bool true, u3, u4, u5, u6, .string BY, .int .i64 0, .int .i64 (m : Nat), u10, u11, .string BY, u13, .string Z, u15, .string LA, u17, u18, u19, u20, u21, u22, u23, u24, u25, u26, u27, u28, u29, u30, u31, u32, u33, u34, u35, u36, u37, u38, u39, u40, u41, u42, u43, u44, u45, u46, u47, u48, u49, u50, u51, u52, u53, u54, u55, u56, u57, u58, u59, u60, u61, u62, u63, u64, u65, u66, u67, u68, u69, u70, u71, u72, u73, u74, u75, u76, u77, u78, u79, u80, u81, u82, u83, u84, u85, u86, u87, u88, u89, u90, u91, u92, u93, u94, u95, u96, u97, u98, u99, u100, u101, u102, u103, u104, u105, u106, u107, u108, u109, u110, x111, x112, x113, x114, x115, x116, x117, x118, x119, x120, x121, x122, x123, x124, x125, x126, x127, x128, x129, x130, x131, x132, x133, x134, x135, x136, x137, x138], []⟩ w') :
    Code.wp Try.prog (((Try.f9.body).bind (regionOf 36)).getD .skip) Q ⟨#[u0, u1, u2, u3, u4, u5, u6, .string BY, .int .i64 0, .int .i64 (m : Nat), u10, u11, .string BY, u13, .string Z, u15, .string LA, u17, u18, u19, u20, u21, u22, u23, u24, u25, u26, u27, u28, u29, u30, u31, u32, u33, u34, u35, u36, u37, u38, u39, u40, u41, u42, u43, u44, u45, u46, u47, u48, u49, u50, u51, u52, u53, u54, u55, u56, u57, u58, u59, u60, u61, u62, u63, u64, u65, u66, u67, u68, u69, u70, u71, u72, u73, u74, u75, u76, u77, u78, u79, u80, u81, u82, u83, u84, u85, u86, u87, u88, u89, u90, u91, u92, u93, u94, u95, u96, u97, u98, u99, u100, u101, u102, u103, u104, u105, u106, u107, u108, u109, u110, u111, u112, u113, u114, u115, u116, u117, u118, u119, u120, u121, u122, u123, u124, u125, u126, u127, u128, u129, u130, u131, u132, u133, u134, u135, u136, u137, u138], []⟩ v9 := by
  conv => arg 2; whnf
  have mixed : Try.prog.follows .mixedOrders = true := by kernel_rfl
  obtain ⟨W2, hmk2, hbm, -, hcm⟩ := noughtsOf v9.drew .i64 z (by omega)
  have hcv := stringOf W2 v9.heap.size z z (List.replicate z 0) (by rw [List.length_replicate]) hcm
  have HEND : Hid (Below B v9 W2) := ((Below.refl B v9).drew).trans (hbm.mono (by exact hB))
  clear hbm hcm
  have hS : (fun _ => True : World → Prop) v9.drew := trivial
  refine AnyTo.region (m := 99) (S := fun _ => True) mixed ?_
  refine AnyTo.takeA (i := 0) (v := ?vr0) rfl (by kernel_rfl) (of_decide_eq_true (by kernel_rfl)) (by kernel_rfl) (by kernel_rfl) (fun c a w h => hQp c a w _ _ h) (Or.inl ⟨by kernel_rfl, ?hyr0⟩) hS ?restr0
  case hyr0 => (intro w' hw'; (try dsimp only at hw'); go_simp; try (with_reducible rfl))
  try simp only [Act.put, List.getElem_toArray, List.getElem_cons_zero, List.getElem_cons_succ, List.setIfInBounds_toArray, List.set_cons_zero, List.set_cons_succ]
  refine AnyTo.takeA (i := 1) (v := .bool true) rfl (by kernel_rfl) (of_decide_eq_true (by kernel_rfl)) (by kernel_rfl) (by kernel_rfl) (fun c a w h => hQp c a w _ _ h) (Or.inl ⟨by kernel_rfl, ?hyr1⟩) hS ?restr1
  case hyr1 => (intro w' hw'; (try dsimp only at hw'); go_simp; try (with_reducible rfl))
  try simp only [Act.put, List.getElem_toArray, List.getElem_cons_zero, List.getElem_cons_succ, List.setIfInBounds_toArray, List.set_cons_zero, List.set_cons_succ]
  refine AnyTo.takeA (i := 2) (v := ?vr2) rfl (by kernel_rfl) (of_decide_eq_true (by kernel_rfl)) (by kernel_rfl) (by kernel_rfl) (fun c a w h => hQp c a w _ _ h) (Or.inl ⟨by kernel_rfl, ?hyr2⟩) hS ?restr2
  case hyr2 => (intro w' hw'; (try dsimp only at hw'); go_simp; try (with_reducible rfl))
  try simp only [Act.put, List.getElem_toArray, List.getElem_cons_zero, List.getElem_cons_succ, List.setIfInBounds_toArray, List.set_cons_zero, List.set_cons_succ]
  refine AnyTo.takeA (i := 3) (v := ?vr3) rfl (by kernel_rfl) (of_decide_eq_true (by kernel_rfl)) (by kernel_rfl) (by kernel_rfl) (fun c a w h => hQp c a w _ _ h) (Or.inl ⟨by kernel_rfl, ?hyr3⟩) hS ?restr3
  case hyr3 => (intro w' hw'; (try dsimp only at hw'); go_simp; try (with_reducible rfl))
  try simp only [Act.put, List.getElem_toArray, List.getElem_cons_zero, List.getElem_cons_succ, List.setIfInBounds_toArray, List.set_cons_zero, List.set_cons_succ]
  refine AnyTo.takeA (i := 4) (v := ?vr4) rfl (by kernel_rfl) (of_decide_eq_true (by kernel_rfl)) (by kernel_rfl) (by kernel_rfl) (fun c a w h => hQp c a w _ _ h) (Or.inl ⟨by kernel_rfl, ?hyr4⟩) hS ?restr4
  case hyr4 => (intro w' hw'; (try dsimp only at hw'); go_simp; try (with_reducible rfl))
  try simp only [Act.put, List.getElem_toArray, List.getElem_cons_zero, List.getElem_cons_succ, List.setIfInBounds_toArray, List.set_cons_zero, List.set_cons_succ]
  refine AnyTo.takeA (i := 5) (v := .bool true) rfl (by kernel_rfl) (of_decide_eq_true (by kernel_rfl)) (by kernel_rfl) (by kernel_rfl) (fun c a w h => hQp c a w _ _ h) (Or.inl ⟨by kernel_rfl, ?hyr5⟩) hS ?restr5
  case hyr5 => (intro w' hw'; (try dsimp only at hw'); go_simp; try (with_reducible rfl))
  try simp only [Act.put, List.getElem_toArray, List.getElem_cons_zero, List.getElem_cons_succ, List.setIfInBounds_toArray, List.set_cons_zero, List.set_cons_succ]
  refine AnyTo.takeA (i := 6) (v := .bool true) rfl (by kernel_rfl) (of_decide_eq_true (by kernel_rfl)) (by kernel_rfl) (by kernel_rfl) (fun c a w h => hQp c a w _ _ h) (Or.inl ⟨by kernel_rfl, ?hyr6⟩) hS ?restr6
  case hyr6 => (intro w' hw'; (try dsimp only at hw'); go_simp; try (with_reducible rfl))
  try simp only [Act.put, List.getElem_toArray, List.getElem_cons_zero, List.getElem_cons_succ, List.setIfInBounds_toArray, List.set_cons_zero, List.set_cons_succ]
  refine AnyTo.takeA (i := 7) (v := .bool true) rfl (by kernel_rfl) (of_decide_eq_true (by kernel_rfl)) (by kernel_rfl) (by kernel_rfl) (fun c a w h => hQp c a w _ _ h) (Or.inl ⟨by kernel_rfl, ?hyr7⟩) hS ?restr7
  case hyr7 => (intro w' hw'; (try dsimp only at hw'); go_simp; try (with_reducible rfl))
  try simp only [Act.put, List.getElem_toArray, List.getElem_cons_zero, List.getElem_cons_succ, List.setIfInBounds_toArray, List.set_cons_zero, List.set_cons_succ]
  refine AnyTo.takeA (i := 8) (v := ?vr8) rfl (by kernel_rfl) (of_decide_eq_true (by kernel_rfl)) (by kernel_rfl) (by kernel_rfl) (fun c a w h => hQp c a w _ _ h) (Or.inl ⟨by kernel_rfl, ?hyr8⟩) hS ?restr8
  case hyr8 => (intro w' hw'; (try dsimp only at hw'); go_simp; try (with_reducible rfl))
  try simp only [Act.put, List.getElem_toArray, List.getElem_cons_zero, List.getElem_cons_succ, List.setIfInBounds_toArray, List.set_cons_zero, List.set_cons_succ]
  refine AnyTo.takeA (i := 9) (v := ?vr9) rfl (by kernel_rfl) (of_decide_eq_true (by kernel_rfl)) (by kernel_rfl) (by kernel_rfl) (fun c a w h => hQp c a w _ _ h) (Or.inl ⟨by kernel_rfl, ?hyr9⟩) hS ?restr9
  case hyr9 => (intro w' hw'; (try dsimp only at hw'); go_simp; try (with_reducible rfl))
  try simp only [Act.put, List.getElem_toArray, List.getElem_cons_zero, List.getElem_cons_succ, List.setIfInBounds_toArray, List.set_cons_zero, List.set_cons_succ]
  refine AnyTo.takeA (i := 10) (v := ?vr10) rfl (by kernel_rfl) (of_decide_eq_true (by kernel_rfl)) (by kernel_rfl) (by kernel_rfl) (fun c a w h => hQp c a w _ _ h) (Or.inl ⟨by kernel_rfl, ?hyr10⟩) hS ?restr10
  case hyr10 => (intro w' hw'; (try dsimp only at hw'); go_simp; try (with_reducible rfl))
  try simp only [Act.put, List.getElem_toArray, List.getElem_cons_zero, List.getElem_cons_succ, List.setIfInBounds_toArray, List.set_cons_zero, List.set_cons_succ]
  refine AnyTo.takeA (i := 11) (v := .string LA) rfl (by kernel_rfl) (of_decide_eq_true (by kernel_rfl)) (by kernel_rfl) (by kernel_rfl) (fun c a w h => hQp c a w _ _ h) (Or.inl ⟨by kernel_rfl, ?hyr11⟩) hS ?restr11
  case hyr11 => (intro w' hw'; (try dsimp only at hw'); go_simp; try (with_reducible rfl))
  try simp only [Act.put, List.getElem_toArray, List.getElem_cons_zero, List.getElem_cons_succ, List.setIfInBounds_toArray, List.set_cons_zero, List.set_cons_succ]
  refine AnyTo.takeA (i := 12) (v := ?vr12) rfl (by kernel_rfl) (of_decide_eq_true (by kernel_rfl)) (by kernel_rfl) (by kernel_rfl) (fun c a w h => hQp c a w _ _ h) (Or.inl ⟨by kernel_rfl, ?hyr12⟩) hS ?restr12
  case hyr12 => (intro w' hw'; (try dsimp only at hw'); go_simp; try (with_reducible rfl))
  try simp only [Act.put, List.getElem_toArray, List.getElem_cons_zero, List.getElem_cons_succ, List.setIfInBounds_toArray, List.set_cons_zero, List.set_cons_succ]
  refine AnyTo.takeA (i := 13) (v := .int .i64 (BY.size : Nat)) rfl (by kernel_rfl) (of_decide_eq_true (by kernel_rfl)) (by kernel_rfl) (by kernel_rfl) (fun c a w h => hQp c a w _ _ h) (Or.inl ⟨by kernel_rfl, ?hyr13⟩) hS ?restr13
  case hyr13 => (intro w' hw'; (try dsimp only at hw'); go_simp; try (with_reducible rfl))
  try simp only [Act.put, List.getElem_toArray, List.getElem_cons_zero, List.getElem_cons_succ, List.setIfInBounds_toArray, List.set_cons_zero, List.set_cons_succ]
  refine AnyTo.takeA (i := 14) (v := ?vr14) rfl (by kernel_rfl) (of_decide_eq_true (by kernel_rfl)) (by kernel_rfl) (by kernel_rfl) (fun c a w h => hQp c a w _ _ h) (Or.inl ⟨by kernel_rfl, ?hyr14⟩) hS ?restr14
  case hyr14 => (intro w' hw'; (try dsimp only at hw'); go_simp; try (with_reducible rfl))
  try simp only [Act.put, List.getElem_toArray, List.getElem_cons_zero, List.getElem_cons_succ, List.setIfInBounds_toArray, List.set_cons_zero, List.set_cons_succ]
  refine AnyTo.takeA (i := 15) (v := .int .i64 (z : Nat)) rfl (by kernel_rfl) (of_decide_eq_true (by kernel_rfl)) (by kernel_rfl) (by kernel_rfl) (fun c a w h => hQp c a w _ _ h) (Or.inl ⟨by kernel_rfl, ?hyr15⟩) hS ?restr15
  case hyr15 => (intro w' hw'; (try dsimp only at hw'); go_simp; try (with_reducible rfl))
  try simp only [Act.put, List.getElem_toArray, List.getElem_cons_zero, List.getElem_cons_succ, List.setIfInBounds_toArray, List.set_cons_zero, List.set_cons_succ]
  refine AnyTo.step (i := 16) (by kernel_rfl) rfl (fun K hK => ?_)
  go_simp
  refine hK.out _ _ (fun _ => trivial) ?_
  clear hK K
  try simp only [Act.put, List.getElem_toArray, List.getElem_cons_zero, List.getElem_cons_succ, List.setIfInBounds_toArray, List.set_cons_zero, List.set_cons_succ]
  refine AnyTo.step (i := 17) (by kernel_rfl) rfl (fun K hK => ?_)
  go_simp
  refine hK.out _ _ (fun _ => trivial) ?_
  clear hK K
  try simp only [Act.put, List.getElem_toArray, List.getElem_cons_zero, List.getElem_cons_succ, List.setIfInBounds_toArray, List.set_cons_zero, List.set_cons_succ]
  refine AnyTo.takeA (i := 18) (v := .string Z) rfl (by kernel_rfl) (of_decide_eq_true (by kernel_rfl)) (by kernel_rfl) (by kernel_rfl) (fun c a w h => hQp c a w _ _ h) (Or.inl ⟨by kernel_rfl, ?hyr18⟩) hS ?restr18
  case hyr18 => (intro w' hw'; go_simp; omega)
  try simp only [Act.put, List.getElem_toArray, List.getElem_cons_zero, List.getElem_cons_succ, List.setIfInBounds_toArray, List.set_cons_zero, List.set_cons_succ]
  refine AnyTo.takeA (i := 19) (v := .bool true) rfl (by kernel_rfl) (of_decide_eq_true (by kernel_rfl)) (by kernel_rfl) (by kernel_rfl) (fun c a w h => hQp c a w _ _ h) (Or.inl ⟨by kernel_rfl, ?hyr19⟩) hS ?restr19
  case hyr19 => (intro w' hw'; (try dsimp only at hw'); go_simp; try (with_reducible rfl))
  try simp only [Act.put, List.getElem_toArray, List.getElem_cons_zero, List.getElem_cons_succ, List.setIfInBounds_toArray, List.set_cons_zero, List.set_cons_succ]
  refine AnyTo.takeA (i := 20) (v := .bool true) rfl (by kernel_rfl) (of_decide_eq_true (by kernel_rfl)) (by kernel_rfl) (by kernel_rfl) (fun c a w h => hQp c a w _ _ h) (Or.inl ⟨by kernel_rfl, ?hyr20⟩) hS ?restr20
  case hyr20 => (intro w' hw'; (try dsimp only at hw'); go_simp; try (with_reducible rfl))
  try simp only [Act.put, List.getElem_toArray, List.getElem_cons_zero, List.getElem_cons_succ, List.setIfInBounds_toArray, List.set_cons_zero, List.set_cons_succ]
  refine AnyTo.takeA (i := 21) (v := .bool true) rfl (by kernel_rfl) (of_decide_eq_true (by kernel_rfl)) (by kernel_rfl) (by kernel_rfl) (fun c a w h => hQp c a w _ _ h) (Or.inl ⟨by kernel_rfl, ?hyr21⟩) hS ?restr21
  case hyr21 => (intro w' hw'; (try dsimp only at hw'); go_simp; try (with_reducible rfl))
  try simp only [Act.put, List.getElem_toArray, List.getElem_cons_zero, List.getElem_cons_succ, List.setIfInBounds_toArray, List.set_cons_zero, List.set_cons_succ]
  refine AnyTo.takeA (i := 22) (v := ?vr22) rfl (by kernel_rfl) (of_decide_eq_true (by kernel_rfl)) (by kernel_rfl) (by kernel_rfl) (fun c a w h => hQp c a w _ _ h) (Or.inl ⟨by kernel_rfl, ?hyr22⟩) hS ?restr22
  case hyr22 => (intro w' hw'; (try dsimp only at hw'); go_simp; try (with_reducible rfl))
  try simp only [Act.put, List.getElem_toArray, List.getElem_cons_zero, List.getElem_cons_succ, List.setIfInBounds_toArray, List.set_cons_zero, List.set_cons_succ]
  refine AnyTo.takeA (i := 23) (v := ?vr23) rfl (by kernel_rfl) (of_decide_eq_true (by kernel_rfl)) (by kernel_rfl) (by kernel_rfl) (fun c a w h => hQp c a w _ _ h) (Or.inl ⟨by kernel_rfl, ?hyr23⟩) hS ?restr23
  case hyr23 => (intro w' hw'; (try dsimp only at hw'); go_simp; try (with_reducible rfl))
  try simp only [Act.put, List.getElem_toArray, List.getElem_cons_zero, List.getElem_cons_succ, List.setIfInBounds_toArray, List.set_cons_zero, List.set_cons_succ]
  refine AnyTo.takeA (i := 24) (v := ?vr24) rfl (by kernel_rfl) (of_decide_eq_true (by kernel_rfl)) (by kernel_rfl) (by kernel_rfl) (fun c a w h => hQp c a w _ _ h) (Or.inl ⟨by kernel_rfl, ?hyr24⟩) hS ?restr24
  case hyr24 => (intro w' hw'; (try dsimp only at hw'); go_simp; try (with_reducible rfl))
  try simp only [Act.put, List.getElem_toArray, List.getElem_cons_zero, List.getElem_cons_succ, List.setIfInBounds_toArray, List.set_cons_zero, List.set_cons_succ]
  refine AnyTo.takeA (i := 25) (v := .string LA) rfl (by kernel_rfl) (of_decide_eq_true (by kernel_rfl)) (by kernel_rfl) (by kernel_rfl) (fun c a w h => hQp c a w _ _ h) (Or.inl ⟨by kernel_rfl, ?hyr25⟩) hS ?restr25
  case hyr25 => (intro w' hw'; (try dsimp only at hw'); go_simp; try (with_reducible rfl))
  try simp only [Act.put, List.getElem_toArray, List.getElem_cons_zero, List.getElem_cons_succ, List.setIfInBounds_toArray, List.set_cons_zero, List.set_cons_succ]
  refine AnyTo.takeA (i := 26) (v := .bool true) rfl (by kernel_rfl) (of_decide_eq_true (by kernel_rfl)) (by kernel_rfl) (by kernel_rfl) (fun c a w h => hQp c a w _ _ h) (Or.inl ⟨by kernel_rfl, ?hyr26⟩) hS ?restr26
  case hyr26 => (intro w' hw'; (try dsimp only at hw'); go_simp; try (with_reducible rfl))
  try simp only [Act.put, List.getElem_toArray, List.getElem_cons_zero, List.getElem_cons_succ, List.setIfInBounds_toArray, List.set_cons_zero, List.set_cons_succ]
  refine AnyTo.takeA (i := 27) (v := .bool true) rfl (by kernel_rfl) (of_decide_eq_true (by kernel_rfl)) (by kernel_rfl) (by kernel_rfl) (fun c a w h => hQp c a w _ _ h) (Or.inl ⟨by kernel_rfl, ?hyr27⟩) hS ?restr27
  case hyr27 => (intro w' hw'; (try dsimp only at hw'); go_simp; try (with_reducible rfl))
  try simp only [Act.put, List.getElem_toArray, List.getElem_cons_zero, List.getElem_cons_succ, List.setIfInBounds_toArray, List.set_cons_zero, List.set_cons_succ]
  refine AnyTo.takeA (i := 28) (v := .bool true) rfl (by kernel_rfl) (of_decide_eq_true (by kernel_rfl)) (by kernel_rfl) (by kernel_rfl) (fun c a w h => hQp c a w _ _ h) (Or.inl ⟨by kernel_rfl, ?hyr28⟩) hS ?restr28
  case hyr28 => (intro w' hw'; (try dsimp only at hw'); go_simp; try (with_reducible rfl))
  try simp only [Act.put, List.getElem_toArray, List.getElem_cons_zero, List.getElem_cons_succ, List.setIfInBounds_toArray, List.set_cons_zero, List.set_cons_succ]
  refine AnyTo.done (by kernel_rfl) ?_
  exact hQ _ _ _ _ _ _ _ _ _ _ _ _ _ _ _ _ _ _ _ _ _ _ _ _ _ _ _ _ _ HEND.out
end Go.Proofs.Ytpnmhpkpkejdiaa
