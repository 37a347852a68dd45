/- Layer 16: a region of WirePlays that draws its order, walked by itself, over a frame of letters. -/
import Derived.Test.YtecpgkcoehnpbaaWireH
namespace Go.Proofs.Ytecpgkcoehnpbaa
open Go.ChangeShapes Go.WideShapes Go.ChangeAt Go.RowKit

/-- the region of a number, out of a function's code -/
def regionOf (n : Nat) : Code → Option Code
  | .region i o d => if i == n then some (.region i o d) else none
  | .seq a b => match regionOf n a with
    | some c => some c
    | none => regionOf n b
  | .loop c => regionOf n c
  | .block _ c => regionOf n c
  | .scope c => regionOf n c
  | .cond _ a b => match regionOf n a with
    | some c => some c
    | none => regionOf n b
  | _ => none

set_option maxRecDepth 1000000 in
set_option maxHeartbeats 6400000 in
theorem reg32 {B g X : Nat} {wL : World} {l hs : List Pk} {ao : Option Addr} {c i : Nat} {p : Pk} {ob : Int} {oao : Option Addr} {on ocap : Nat} {Q : Exit → Act → World → Prop} {u0 u1 u2 u3 u5 u7 u8 u9 u10 u11 u12 u13 u14 u15 u16 u17 u18 u19 u20 u21 u22 u23 u24 u25 u26 u27 u28 u29 u30 u31 u32 u33 u34 u35 u36 u37 u38 u39 u40 u41 u42 u43 u44 u45 u46 u47 u48 u49 u50 u51 u52 u53 u54 u55 u56 u57 u58 u59 u60 u61 u62 u63 u64 u65 u66 u67 u68 u69 u70 u71 u72 u73 u74 u75 u76 u77 u78 u79 u80 u81 u82 u83 u84 u85 u86 u87 u88 u89 u90 u91 u92 u93 u94 u95 u96 u97 u98 u99 u100 u101 u102 u103 u104 u105 u106 u107 u108 u109 u110 u111 u112 u113 u114 u115 u116 u117 u118 u119 u120 u121 u122 u123 u124 u125 u126 u127 u128 u129 u130 u131 u132 u133 u134 u135 u136 u137 u138 u139 u140 u141 u142 u143 u144 u145 u146 u147 u148 u149 u150 u151 u152 u153 u154 u155 u156 u157 u158 u159 u160 u161 u162 u163 u164 u165 u166 u167 u168 u169 u170 u171 u172 : Value}
    (hL : Two B (fun k => k = X) wL g l (.slice ao hs.length c) hs) (hzL : B ≤ wL.heap.size) (hXL : wL.heap[X]? = some (.cells #[.int .i64 3, .int .i64 (i : Int), .int .i64 ob, .slice oao on ocap] 56)) (hi : i < hs.length) (hp : hs[i]? = some p) (hlen : hs.length ≤ 64)
    (hQp : ∀ c a w (d : Nat) v, Q (.panic c) (Act.put a (some d) v) w → Q (.panic c) a w) (hQ : ∀ (ao' : Option Addr) (c' : Nat) (w' : World) (x104 x105 x106 x107 x108 x109 x110 x111 x112 x113 x114 : Value), Two B (fun _ => False) w' g l (.slice ao' (cutPks (hs ++ [p])).length c') (cutPks (hs ++ [p])) → Below B wL w' → Q .normal ⟨#[u0, u1, u2, u3, .slice ao' (cutPks (hs ++ [p])).length c', u5, .pointer (some ⟨X, 0, none⟩), u7, u8, u9, u10, u11, u12, u13, u14, u15, u16, u17, u18, u19, u20, u21, u22, u23, u24, u25, u26, u27, u28, u29, u30, u31, u32, u33, u34, u35, u36, u37, u38, u39, u40, u41, u42, u43, u44, u45, u46, u47, u48, u49, u50, u51, u52, u53, u54, u55, u56, u57, u58, u59, u60, u61, u62, u63, u64, u65, u66, u67, u68, u69, u70, u71, u72, u73, u74, u75, u76, u77, u78, u79, u80, u81, u82, u83, u84, u85, u86, u87, u88, u89, u90, u91, u92, u93, u94, u95, u96, u97, u98, u99, u100, u101, u102, u103, x104, x105, x106, x107, x108, x109, x110, x111, x112, x113, x114, u115, u116, u117, u118, u119, u120, u121, u122, u123, u124, u125, u126, u127, u128, u129, u130, u131, u132, u133, u134, u135, u136, u137, u138, u139, u140, u141, u142, u143, u144, u145, u146, u147, u148, u149, u150, u151, u152, u153, u154, u155, u156, u157, u158, u159, u160, u161, u162, u163, u164, u165, u166, u167, u168, u169, u170, u171, u172], []⟩ w') :
    Code.wp Try.prog (((Try.f6.body).bind (regionOf 32)).getD .skip) Q ⟨#[u0, u1, u2, u3, .slice ao hs.length c, u5, .pointer (some ⟨X, 0, none⟩), u7, u8, u9, u10, u11, u12, u13, u14, u15, u16, u17, u18, u19, u20, u21, u22, u23, u24, u25, u26, u27, u28, u29, u30, u31, u32, u33, u34, u35, u36, u37, u38, u39, u40, u41, u42, u43, u44, u45, u46, u47, u48, u49, u50, u51, u52, u53, u54, u55, u56, u57, u58, u59, u60, u61, u62, u63, u64, u65, u66, u67, u68, u69, u70, u71, u72, u73, u74, u75, u76, u77, u78, u79, u80, u81, u82, u83, u84, u85, u86, u87, u88, u89, u90, u91, u92, u93, u94, u95, u96, u97, u98, u99, u100, u101, u102, u103, u104, u105, u106, u107, u108, u109, u110, u111, u112, u113, u114, u115, u116, u117, u118, u119, u120, u121, u122, u123, u124, u125, u126, u127, u128, u129, u130, u131, u132, u133, u134, u135, u136, u137, u138, u139, u140, u141, u142, u143, u144, u145, u146, u147, u148, u149, u150, u151, u152, u153, u154, u155, u156, u157, u158, u159, u160, u161, u162, u163, u164, u165, u166, u167, u168, u169, u170, u171, u172], []⟩ wL := by
  conv => arg 2; whnf
  have mixed : Try.prog.follows .mixedOrders = true := by kernel_rfl
  have HXL := Lib.hid hXL
  have HP := Lib.hid hp
  have HBL : Hid (Below B wL wL) := Below.refl _ _
  clear hXL hp
  obtain ⟨GL, hsL⟩ := hL.slice
  obtain ⟨b2, off2, cap2, he, _, hb2, _⟩ := hsL.at (by omega)
  simp only [Value.slice.injEq] at he
  obtain ⟨rfl, -, rfl⟩ := he
  have hcL := pk_cells hsL HP.out
  have hmk : ∀ w' : World, w'.heap[X]? = wL.heap[X]? → w'.heap[b2]? = wL.heap[b2]? → (fun w' : World => w'.cell? ⟨X, 1, none⟩ = some (.int .i64 (i : Int)) ∧ w'.cell? ⟨b2, off2 + i * 6, none⟩ = some (.int .i64 p.ch) ∧ w'.cell? ⟨b2, off2 + i * 6 + 1, none⟩ = some (.int .i64 p.back) ∧ w'.cell? ⟨b2, off2 + i * 6 + 2, none⟩ = some (.int .i64 p.inc) ∧ w'.cell? ⟨b2, off2 + i * 6 + 3, none⟩ = some (.int .i64 p.seq) ∧ w'.cell? ⟨b2, off2 + i * 6 + 4, none⟩ = some (.int .i64 p.ack) ∧ w'.cell? ⟨b2, off2 + i * 6 + 5, none⟩ = some (.string p.load)) w' := fun w' a b => by
    have e : ∀ k, w'.cell? ⟨b2, k, none⟩ = wL.cell? ⟨b2, k, none⟩ := fun k => World.cell?_of_block b
    refine ⟨cell_at (a.trans HXL.out) rfl, ?_, ?_, ?_, ?_, ?_, ?_⟩
    · rw [e]; exact hcL 0 _ rfl
    · rw [e]; exact hcL 1 _ rfl
    · rw [e]; exact hcL 2 _ rfl
    · rw [e]; exact hcL 3 _ rfl
    · rw [e]; exact hcL 4 _ rfl
    · rw [e]; exact hcL 5 _ rfl
  have HMK := Lib.hid hmk
  have hrw : X < wL.heap.size := heap_lt HXL.out
  have hS : (fun w' : World => w'.cell? ⟨X, 1, none⟩ = some (.int .i64 (i : Int)) ∧ w'.cell? ⟨b2, off2 + i * 6, none⟩ = some (.int .i64 p.ch) ∧ w'.cell? ⟨b2, off2 + i * 6 + 1, none⟩ = some (.int .i64 p.back) ∧ w'.cell? ⟨b2, off2 + i * 6 + 2, none⟩ = some (.int .i64 p.inc) ∧ w'.cell? ⟨b2, off2 + i * 6 + 3, none⟩ = some (.int .i64 p.seq) ∧ w'.cell? ⟨b2, off2 + i * 6 + 4, none⟩ = some (.int .i64 p.ack) ∧ w'.cell? ⟨b2, off2 + i * 6 + 5, none⟩ = some (.string p.load)) wL.drew := HMK.out _ rfl rfl
  have own2 : (Value.slice (some ⟨b2, off2, none⟩) hs.length c).ownBlock = some b2 := rfl
  have HTL := Lib.hid hL
  clear hL hcL hmk
  obtain ⟨ob2, hob2⟩ : ∃ ob2, wL.heap[b2]? = some ob2 := ⟨_, Array.getElem?_eq_getElem hb2⟩
  have alR : ∀ o : Obj, (wL.alloc o).heap[X]? = wL.heap[X]? := fun o => Below.heap_alloc wL o _ hrw
  have alB : ∀ o : Obj, (wL.alloc o).heap[b2]? = wL.heap[b2]? := fun o => Below.heap_alloc wL o _ hb2
  have alR2 : ∀ o o' : Obj, ((wL.alloc o).alloc o').heap[X]? = wL.heap[X]? := fun o o' => (Below.heap_alloc (wL.alloc o) o' _ (by rw [World.size_alloc]; omega)).trans (alR o)
  have alB2 : ∀ o o' : Obj, ((wL.alloc o).alloc o').heap[b2]? = wL.heap[b2]? := fun o o' => (Below.heap_alloc (wL.alloc o) o' _ (by rw [World.size_alloc]; omega)).trans (alB o)
  obtain ⟨GV, hsV⟩ := HTL.out.slice
  obtain ⟨N, hN⟩ : ∃ N, (hs ++ [p]).length = N := ⟨_, rfl⟩
  have hNb : N ≤ 65 := by rw [← hN]; simp; omega
  -- the copy, then the packet's row
  have hF := (HTL.out.anew hzL).drew
  have zF : ((wL.alloc (.cells #[] 23)).drew).heap.size = wL.heap.size + 1 := World.size_alloc _ _
  have bF : Below B wL ((wL.alloc (.cells #[] 23)).drew) := ((Below.refl B wL).alloc hzL _).drew
  obtain ⟨ao1, cc1, w1a, hr1, hT1, hB1, hK1⟩ := two_append hF (by omega) hs (.slice (some ⟨b2, off2, none⟩) hs.length c) (News.of_sl hsV (pks_one _) (fun k hk hlt => Below.heap_alloc wL _ k hlt)) (by simp; omega)
  rw [List.nil_append] at hr1 hT1
  have z1a : B ≤ w1a.heap.size := by have := hB1.size; omega
  have k1R := hK1 _ _ (.inl rfl) ((alR (.cells #[] 23)).trans HXL.out)
  have k1B := hK1 b2 _ (.inr rfl) ((alB (.cells #[] 23)).trans hob2)
  have k1r : w1a.heap[X]? = wL.heap[X]? := k1R.trans HXL.out.symm
  have k1b : w1a.heap[b2]? = wL.heap[b2]? := k1B.trans hob2.symm
  obtain ⟨ao2, cc2, w2a, hr2, hT2, hB2, hK2⟩ := two_append (hT1.below ((Below.refl w1a.heap.size w1a).alloc (Nat.le_refl _) (pkObj p)) (Nat.le_refl _)) (by rw [World.size_alloc]; omega) [p] _ (News.pk (c := 1) p (heap_alloc_new w1a (pkObj p))) (by simp; omega)
  have k2r : w2a.heap[X]? = wL.heap[X]? := (hK2 _ _ (.inl rfl) (heap_alloc_same k1R (pkObj p))).trans HXL.out.symm
  have k2b : w2a.heap[b2]? = wL.heap[b2]? := (hK2 b2 _ (.inr rfl) (heap_alloc_same k1B (pkObj p))).trans hob2.symm
  have k3r : (w1a.alloc (pkObj p)).heap[X]? = wL.heap[X]? := (heap_alloc_same k1R (pkObj p)).trans HXL.out.symm
  have k3b : (w1a.alloc (pkObj p)).heap[b2]? = wL.heap[b2]? := (heap_alloc_same k1B (pkObj p)).trans hob2.symm
  have hcutA := two_cut hT2 (by simp; omega)
  rw [hN] at hr2 hcutA
  have HA1 := Lib.hid hr1
  have HA2 := Lib.hid hr2
  have HAC := Lib.hid hcutA
  have HAB : Hid (Below B wL w2a) := (((HBL.out.trans bF).trans hB1).alloc z1a _).trans hB2
  clear hr1 hr2 hcutA hT1 hT2 hB1 hB2 hK1 hK2 k1R k1B
  -- the empty slice, the packet's row, the copy
  have hn2 : (((wL.alloc (.cells #[] 23)).drew).alloc (pkObj p)).heap[wL.heap.size + 1]? = some (pkObj p) := by have := heap_alloc_new ((wL.alloc (.cells #[] 23)).drew) (pkObj p); rw [zF] at this; exact this
  have hT2 := hF.next (Y := fun k => (k = X ∨ (Value.slice (some ⟨b2, off2, none⟩) hs.length c).ownBlock = some k) ∨ k = wL.heap.size + 1) ((Below.refl _ _).alloc (Nat.le_refl _) (pkObj p)) (Nat.le_refl _) (fun k hk => by
    rw [World.size_alloc, zF]
    rcases hk with (hk | hk) | hk
    · exact ⟨.inl (.inl hk), by omega⟩
    · have : b2 = k := by simpa [Value.ownBlock] using hk
      exact ⟨.inl (.inr hk), by omega⟩
    · exact ⟨.inr (by omega), by omega⟩)
  obtain ⟨ao3, cc3, w1b, ao4, cc4, w2b, hr3, hr4, hT4, hB4, hK3, hK4⟩ := two_pair hT2 (by rw [World.size_alloc]; omega) (News.of_sl (w' := ((wL.alloc (.cells #[] 23)).drew).alloc (pkObj p)) hsV (pks_one _) (fun k hk hlt => (Below.heap_alloc ((wL.alloc (.cells #[] 23)).drew) _ k (by omega)).trans (Below.heap_alloc wL _ k hlt))) (by omega) hn2 (.inr rfl)
  have k4r : w1b.heap[X]? = wL.heap[X]? := (hK3 _ _ (.inl (.inl rfl)) ((alR2 _ _).trans HXL.out)).trans HXL.out.symm
  have k4b : w1b.heap[b2]? = wL.heap[b2]? := (hK3 b2 _ (.inl (.inr rfl)) ((alB2 _ _).trans hob2)).trans hob2.symm
  have k5r : w2b.heap[X]? = wL.heap[X]? := (hK4 _ _ (.inl (.inl rfl)) ((alR2 _ _).trans HXL.out)).trans HXL.out.symm
  have k5b : w2b.heap[b2]? = wL.heap[b2]? := (hK4 b2 _ (.inl (.inr rfl)) ((alB2 _ _).trans hob2)).trans hob2.symm
  have hcutB := two_cut hT4 (by simp; omega)
  rw [hN] at hr4 hcutB
  have HB1' := Lib.hid hr3
  have HB2' := Lib.hid hr4
  have HBC := Lib.hid hcutB
  have HBB : Hid (Below B wL w2b) := ((HBL.out.trans bF).alloc (by omega) _).trans hB4
  clear hr3 hr4 hcutB hT4 hB4 hK3 hK4 hT2 hn2 hF
  -- the packet's row, the empty slice, the copy
  have zP : (wL.alloc (pkObj p)).heap.size = wL.heap.size + 1 := World.size_alloc _ _
  have hP := HTL.out.next (Y := fun k => k = X ∨ k = wL.heap.size) ((Below.refl wL.heap.size wL).alloc (Nat.le_refl _) (pkObj p)) (Nat.le_refl _) (fun k hk => by
    rw [zP]
    rcases hk with hk | hk
    · exact ⟨.inl hk, by omega⟩
    · exact ⟨.inr (by omega), by omega⟩)
  have hPA := (hP.anew (by omega)).drew
  rw [zP] at hPA
  have zQ : (((wL.alloc (pkObj p)).alloc (.cells #[] 23)).drew).heap.size = wL.heap.size + 2 := by show ((wL.alloc (pkObj p)).alloc (.cells #[] 23)).heap.size = _; rw [World.size_alloc, zP]
  obtain ⟨ao5, cc5, w1c, ao6, cc6, w2c, hr5, hr6, hT6, hB6, hK5, hK6⟩ := two_pair hPA (by omega) (News.of_sl (w' := ((wL.alloc (pkObj p)).alloc (.cells #[] 23)).drew) hsV (pks_one _) (fun k hk hlt => (Below.heap_alloc (wL.alloc (pkObj p)) _ k (by omega)).trans (Below.heap_alloc wL _ k hlt))) (by omega) (heap_alloc_same (heap_alloc_new wL (pkObj p)) _) (.inl (.inr rfl))
  have k6r : w1c.heap[X]? = wL.heap[X]? := (hK5 _ _ (.inl (.inl rfl)) ((alR2 _ _).trans HXL.out)).trans HXL.out.symm
  have k6b : w1c.heap[b2]? = wL.heap[b2]? := (hK5 b2 _ (.inr rfl) ((alB2 _ _).trans hob2)).trans hob2.symm
  have k7r : w2c.heap[X]? = wL.heap[X]? := (hK6 _ _ (.inl (.inl rfl)) ((alR2 _ _).trans HXL.out)).trans HXL.out.symm
  have k7b : w2c.heap[b2]? = wL.heap[b2]? := (hK6 b2 _ (.inr rfl) ((alB2 _ _).trans hob2)).trans hob2.symm
  have hcutC := two_cut hT6 (by simp; omega)
  rw [hN] at hr6 hcutC
  have HC1' := Lib.hid hr5
  have HC2' := Lib.hid hr6
  have HCC := Lib.hid hcutC
  have HCB : Hid (Below B wL w2c) := (((HBL.out.alloc hzL (pkObj p)).alloc (by omega) _).drew).trans hB6
  clear hr5 hr6 hcutC hT6 hB6 hK5 hK6 hP hPA

  clear hsV hN
  refine AnyTo.region (m := 11) (S := fun w' : World => w'.cell? ⟨X, 1, none⟩ = some (.int .i64 (i : Int)) ∧ w'.cell? ⟨b2, off2 + i * 6, none⟩ = some (.int .i64 p.ch) ∧ w'.cell? ⟨b2, off2 + i * 6 + 1, none⟩ = some (.int .i64 p.back) ∧ w'.cell? ⟨b2, off2 + i * 6 + 2, none⟩ = some (.int .i64 p.inc) ∧ w'.cell? ⟨b2, off2 + i * 6 + 3, none⟩ = some (.int .i64 p.seq) ∧ w'.cell? ⟨b2, off2 + i * 6 + 4, none⟩ = some (.int .i64 p.ack) ∧ w'.cell? ⟨b2, off2 + i * 6 + 5, none⟩ = some (.string p.load)) mixed ?_
  refine AnyTo.take (i := 1) (v := ?vt1) rfl (by kernel_rfl) (by kernel_rfl) (by kernel_rfl) (by kernel_rfl) (fun _ _ _ h => hQp _ _ _ _ _ h) (Or.inl ⟨by rfl, ?hyt1⟩) hS ?restt1
  case hyt1 => (intro w' hw'; (try dsimp only at hw'); go_simp; try (with_reducible rfl))
  try simp only [Act.put, List.setIfInBounds_toArray, List.set_cons_zero, List.set_cons_succ]
  refine AnyTo.take (i := 3) (v := ?vt3) rfl (by kernel_rfl) (by kernel_rfl) (by kernel_rfl) (by kernel_rfl) (fun _ _ _ h => hQp _ _ _ _ _ h) (Or.inl ⟨by rfl, ?hyt3⟩) hS ?restt3
  case hyt3 => (intro w' hw'; (try dsimp only at hw'); go_simp; try (with_reducible rfl))
  try simp only [Act.put, List.setIfInBounds_toArray, List.set_cons_zero, List.set_cons_succ]
  refine AnyTo.take (i := 4) (v := ?vt4) rfl (by kernel_rfl) (by kernel_rfl) (by kernel_rfl) (by kernel_rfl) (fun _ _ _ h => hQp _ _ _ _ _ h) (Or.inl ⟨by rfl, ?hyt4⟩) hS ?restt4
  case hyt4 => (intro w' hw'; (try dsimp only at hw'); go_simp; try (with_reducible rfl))
  try simp only [Act.put, List.setIfInBounds_toArray, List.set_cons_zero, List.set_cons_succ]
  refine AnyTo.take (i := 5) (v := ?vt5) rfl (by kernel_rfl) (by kernel_rfl) (by kernel_rfl) (by kernel_rfl) (fun _ _ _ h => hQp _ _ _ _ _ h) (Or.inl ⟨by rfl, ?hyt5⟩) hS ?restt5
  case hyt5 => (intro w' hw'; (try dsimp only at hw'); go_simp; try (with_reducible rfl))
  try simp only [Act.put, List.setIfInBounds_toArray, List.set_cons_zero, List.set_cons_succ]
  refine AnyTo.take (i := 6) (v := ?vt6) rfl (by kernel_rfl) (by kernel_rfl) (by kernel_rfl) (by kernel_rfl) (fun _ _ _ h => hQp _ _ _ _ _ h) (Or.inl ⟨by rfl, ?hyt6⟩) hS ?restt6
  case hyt6 => (intro w' hw'; (try dsimp only at hw'); go_simp; try (with_reducible rfl))
  try simp only [Act.put, List.setIfInBounds_toArray, List.set_cons_zero, List.set_cons_succ]
  refine AnyTo.take (i := 7) (v := ?vt7) rfl (by kernel_rfl) (by kernel_rfl) (by kernel_rfl) (by kernel_rfl) (fun _ _ _ h => hQp _ _ _ _ _ h) (Or.inl ⟨by rfl, ?hyt7⟩) hS ?restt7
  case hyt7 => (intro w' hw'; (try dsimp only at hw'); go_simp; try (with_reducible rfl))
  try simp only [Act.put, List.setIfInBounds_toArray, List.set_cons_zero, List.set_cons_succ]
  refine AnyTo.two (i := 0) (j := 8) (by kernel_rfl) rfl rfl (fun K hK => ?_) (fun K hK => ?_)
  · go_simp
    refine hK.out _ _ (fun _ => HMK.out _ (alR _) (alB _)) ?_
    clear hK K
    try simp only [Act.put, List.setIfInBounds_toArray, List.set_cons_zero, List.set_cons_succ]
    refine AnyTo.two (i := 2) (j := 8) (by kernel_rfl) rfl rfl (fun K hK => ?_) (fun K hK => ?_)
    · refine step_append_run (t := 28) rfl rfl (v := .slice (some ⟨wL.heap.size, 0, none⟩) 0 0) (u := .slice (some ⟨b2, off2, none⟩) hs.length c) (by simp [Act.eval, Act.put]) (by simp [Act.eval, Act.put]) HA1.out ?_
      refine hK.out _ _ (fun _ => HMK.out _ k1r k1b) ?_
      clear hK K
      try simp only [Act.put, List.setIfInBounds_toArray, List.set_cons_zero, List.set_cons_succ]
      refine AnyTo.step (i := 8) (by kernel_rfl) rfl (fun K hK => ?_)
      go_simp
      refine hK.out _ _ (fun _ => HMK.out _ k3r k3b) ?_
      clear hK K
      try simp only [Act.put, List.setIfInBounds_toArray, List.set_cons_zero, List.set_cons_succ]
      refine AnyTo.step (i := 9) (by kernel_rfl) rfl (fun K hK => ?_)
      refine step_append_run (t := 28) rfl rfl (v := .slice ao1 hs.length cc1) (u := .slice (some ⟨w1a.heap.size, 0, none⟩) 1 1) (by simp [Act.eval, Act.put]) (by simp [Act.eval, Act.put]) HA2.out ?_
      refine hK.out _ _ (fun _ => HMK.out _ k2r k2b) ?_
      clear hK K
      try simp only [Act.put, List.setIfInBounds_toArray, List.set_cons_zero, List.set_cons_succ]
      refine AnyTo.step (i := 10) (by kernel_rfl) rfl (fun K hK => ?_)
      go_simp
      refine HAC.out.mono ?_
      rintro e wM ⟨v', rfl, hM, rfl⟩
      obtain ⟨GM, hsM⟩ := hM.slice
      obtain ⟨ao', c', rfl, _, _⟩ := hsM.shape
      have HTM := Lib.hid hM.forget
      have hel : (cutPks (hs ++ [p])).length ≤ 64 := by rw [cutPks_length]; omega
      clear hM hsM
      go_wp2_with fail
      refine hK.out _ _ (fun _ => HMK.out _ k2r k2b) ?_
      clear hK K
      try simp only [Act.put, List.setIfInBounds_toArray, List.set_cons_zero, List.set_cons_succ]
      refine AnyTo.step (i := 11) (by kernel_rfl) rfl (fun K hK => ?_)
      go_simp
      refine hK.out _ _ (fun z => absurd rfl z) ?_
      clear hK K
      try simp only [Act.put, List.setIfInBounds_toArray, List.set_cons_zero, List.set_cons_succ]
      refine AnyTo.done (by kernel_rfl) ?_
      exact hQ _ _ _ _ _ _ _ _ _ _ _ _ _ _ HTM.out HAB.out
    · go_simp
      refine hK.out _ _ (fun _ => HMK.out _ (alR2 _ _) (alB2 _ _)) ?_
      clear hK K
      try simp only [Act.put, List.setIfInBounds_toArray, List.set_cons_zero, List.set_cons_succ]
      refine AnyTo.step (i := 2) (by kernel_rfl) rfl (fun K hK => ?_)
      refine step_append_run (t := 28) rfl rfl (v := .slice (some ⟨wL.heap.size, 0, none⟩) 0 0) (u := .slice (some ⟨b2, off2, none⟩) hs.length c) (by simp [Act.eval, Act.put]) (by simp [Act.eval, Act.put]) HB1'.out ?_
      refine hK.out _ _ (fun _ => HMK.out _ k4r k4b) ?_
      clear hK K
      try simp only [Act.put, List.setIfInBounds_toArray, List.set_cons_zero, List.set_cons_succ]
      refine AnyTo.step (i := 9) (by kernel_rfl) rfl (fun K hK => ?_)
      refine step_append_run (t := 28) rfl rfl (v := .slice ao3 hs.length cc3) (u := .slice (some ⟨wL.heap.size + 1, 0, none⟩) 1 1) (by simp [Act.eval, Act.put]) (by simp [Act.eval, Act.put]) HB2'.out ?_
      refine hK.out _ _ (fun _ => HMK.out _ k5r k5b) ?_
      clear hK K
      try simp only [Act.put, List.setIfInBounds_toArray, List.set_cons_zero, List.set_cons_succ]
      refine AnyTo.step (i := 10) (by kernel_rfl) rfl (fun K hK => ?_)
      go_simp
      refine HBC.out.mono ?_
      rintro e wM ⟨v', rfl, hM, rfl⟩
      obtain ⟨GM, hsM⟩ := hM.slice
      obtain ⟨ao', c', rfl, _, _⟩ := hsM.shape
      have HTM := Lib.hid hM.forget
      have hel : (cutPks (hs ++ [p])).length ≤ 64 := by rw [cutPks_length]; omega
      clear hM hsM
      go_wp2_with fail
      refine hK.out _ _ (fun _ => HMK.out _ k5r k5b) ?_
      clear hK K
      try simp only [Act.put, List.setIfInBounds_toArray, List.set_cons_zero, List.set_cons_succ]
      refine AnyTo.step (i := 11) (by kernel_rfl) rfl (fun K hK => ?_)
      go_simp
      refine hK.out _ _ (fun z => absurd rfl z) ?_
      clear hK K
      try simp only [Act.put, List.setIfInBounds_toArray, List.set_cons_zero, List.set_cons_succ]
      refine AnyTo.done (by kernel_rfl) ?_
      exact hQ _ _ _ _ _ _ _ _ _ _ _ _ _ _ HTM.out HBB.out
  · go_simp
    refine hK.out _ _ (fun _ => HMK.out _ (alR _) (alB _)) ?_
    clear hK K
    try simp only [Act.put, List.setIfInBounds_toArray, List.set_cons_zero, List.set_cons_succ]
    refine AnyTo.step (i := 0) (by kernel_rfl) rfl (fun K hK => ?_)
    go_simp
    refine hK.out _ _ (fun _ => HMK.out _ (alR2 _ _) (alB2 _ _)) ?_
    clear hK K
    try simp only [Act.put, List.setIfInBounds_toArray, List.set_cons_zero, List.set_cons_succ]
    refine AnyTo.step (i := 2) (by kernel_rfl) rfl (fun K hK => ?_)
    refine step_append_run (t := 28) rfl rfl (v := .slice (some ⟨wL.heap.size + 1, 0, none⟩) 0 0) (u := .slice (some ⟨b2, off2, none⟩) hs.length c) (by simp [Act.eval, Act.put]) (by simp [Act.eval, Act.put]) HC1'.out ?_
    refine hK.out _ _ (fun _ => HMK.out _ k6r k6b) ?_
    clear hK K
    try simp only [Act.put, List.setIfInBounds_toArray, List.set_cons_zero, List.set_cons_succ]
    refine AnyTo.step (i := 9) (by kernel_rfl) rfl (fun K hK => ?_)
    refine step_append_run (t := 28) rfl rfl (v := .slice ao5 hs.length cc5) (u := .slice (some ⟨wL.heap.size, 0, none⟩) 1 1) (by simp [Act.eval, Act.put]) (by simp [Act.eval, Act.put]) HC2'.out ?_
    refine hK.out _ _ (fun _ => HMK.out _ k7r k7b) ?_
    clear hK K
    try simp only [Act.put, List.setIfInBounds_toArray, List.set_cons_zero, List.set_cons_succ]
    refine AnyTo.step (i := 10) (by kernel_rfl) rfl (fun K hK => ?_)
    go_simp
    refine HCC.out.mono ?_
    rintro e wM ⟨v', rfl, hM, rfl⟩
    obtain ⟨GM, hsM⟩ := hM.slice
    obtain ⟨ao', c', rfl, _, _⟩ := hsM.shape
    have HTM := Lib.hid hM.forget
    have hel : (cutPks (hs ++ [p])).length ≤ 64 := by rw [cutPks_length]; omega
    clear hM hsM
    go_wp2_with fail
    refine hK.out _ _ (fun _ => HMK.out _ k7r k7b) ?_
    clear hK K
    try simp only [Act.put, List.setIfInBounds_toArray, List.set_cons_zero, List.set_cons_succ]
    refine AnyTo.step (i := 11) (by kernel_rfl) rfl (fun K hK => ?_)
    go_simp
    refine hK.out _ _ (fun z => absurd rfl z) ?_
    clear hK K
    try simp only [Act.put, List.setIfInBounds_toArray, List.set_cons_zero, List.set_cons_succ]
    refine AnyTo.done (by kernel_rfl) ?_
    exact hQ _ _ _ _ _ _ _ _ _ _ _ _ _ _ HTM.out HCB.out
end Go.Proofs.Ytecpgkcoehnpbaa
