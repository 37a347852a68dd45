/- A wire that isn't there carries nothing; what is asked for shares nothing: the law WireNone answers true at every input. No condition. -/
import Derived.Test.YtecpgkcoehnpbaaWireC
import Derived.Test.YtecpgkcoehnpbaaPkArg
namespace Go.Proofs.Ytecpgkcoehnpbaa
open Go.ChangeShapes Go.WideShapes Go.ChangeAt Go.RowKit
open Go.ChangeMaps (open_string)

theorem all_one {w : World} {F : Nat → Prop} {v : Value} {p : Pk} (h : Sl w F 23 6 v (List.length [p]) (pksCells [p])) : ∃ b off cap, v = .slice (some ⟨b, off, none⟩) 1 cap ∧ F b ∧ b < w.heap.size ∧
    (w.cell? ⟨b, off, none⟩ = some (.int .i64 p.ch) ∧ w.cell? ⟨b, off + 1, none⟩ = some (.int .i64 p.back) ∧ w.cell? ⟨b, off + 2, none⟩ = some (.int .i64 p.inc) ∧ w.cell? ⟨b, off + 3, none⟩ = some (.int .i64 p.seq) ∧ w.cell? ⟨b, off + 4, none⟩ = some (.int .i64 p.ack) ∧ w.cell? ⟨b, off + 5, none⟩ = some (.string p.load)) := by
  obtain ⟨b, off, cap, e1, e2, e3, _, _, e4⟩ := h.at (by simp)
  exact ⟨b, off, cap, e1, e2, e3, (e4 0 _ rfl).1, (e4 1 _ rfl).1, (e4 2 _ rfl).1, (e4 3 _ rfl).1, (e4 4 _ rfl).1, (e4 5 _ rfl).1⟩

set_option maxRecDepth 100000 in
set_option maxHeartbeats 12800000 in
theorem wireNone_law (p : Pk) (i : Int) (w : World) : Calls Try.prog 7 #[.agg #[.int .i64 p.ch, .int .i64 p.back, .int .i64 p.inc, .int .i64 p.seq, .int .i64 p.ack, .string p.load], .int .i64 i] w fun e w' => e = .returned (.bool true) ∧ Below w.heap.size w w' := by
  have hpk := heap_alloc_new w (pkObj p)
  have HPK := Lib.hid hpk
  have hb0 : Below w.heap.size w (w.alloc (pkObj p)) := (Below.refl _ _).alloc (Nat.le_refl _) _
  have HB0 := Lib.hid hb0
  have hz0 : w.heap.size < (w.alloc (pkObj p)).heap.size := by simp
  have HZ0 := Lib.hid hz0
  clear hpk hb0 hz0
  go_enter Try.func7, Try.ntmps7
  go_wp2_with fail
  rw [show w.alloc (.cells #[.int .i64 p.ch, .int .i64 p.back, .int .i64 p.inc, .int .i64 p.seq, .int .i64 p.ack, .string p.load] 23) = w.alloc (pkObj p) from rfl]
  generalize w.alloc (pkObj p) = w0 at *
  refine (wireAwake w0).mono ?_
  rintro e w1 ⟨rfl, hb1⟩
  have HB1 := Lib.hid (HB0.out.trans (hb1.mono (Nat.le_of_lt HZ0.out)))
  have HPK1 := Lib.hid (below_heap hb1 HPK.out HZ0.out)
  clear hb1 HB0 HPK HZ0
  have q0 : w1.cell? ⟨w.heap.size, 0, none⟩ = some (.int .i64 p.ch) := cell_at HPK1.out rfl
  have q1 : w1.cell? ⟨w.heap.size, 1, none⟩ = some (.int .i64 p.back) := cell_at HPK1.out rfl
  have q2 : w1.cell? ⟨w.heap.size, 2, none⟩ = some (.int .i64 p.inc) := cell_at HPK1.out rfl
  have q3 : w1.cell? ⟨w.heap.size, 3, none⟩ = some (.int .i64 p.seq) := cell_at HPK1.out rfl
  have q4 : w1.cell? ⟨w.heap.size, 4, none⟩ = some (.int .i64 p.ack) := cell_at HPK1.out rfl
  have q5 : w1.cell? ⟨w.heap.size, 5, none⟩ = some (.string p.load) := cell_at HPK1.out rfl
  go_wp2_with fail
  have z1 := heap_lt HPK1.out
  have HB2 : Hid (Below w.heap.size w (w1.alloc (pkObj p))) := HB1.out.alloc (Nat.le_of_lt z1) _
  have HPK2 := Lib.hid (heap_alloc_same HPK1.out (pkObj p))
  rw [show w1.alloc (.cells #[.int .i64 p.ch, .int .i64 p.back, .int .i64 p.inc, .int .i64 p.seq, .int .i64 p.ack, .string p.load] 23) = w1.alloc (pkObj p) from rfl]
  clear q0 q1 q2 q3 q4 q5 HPK1 HB1 z1
  generalize w1.alloc (pkObj p) = w2 at *
  refine (wsendNil _ w2).mono ?_
  rintro e w3 ⟨rfl, rfl⟩
  go_wp2_with fail
  refine (wclearNil w2).mono ?_
  rintro e w3 ⟨rfl, rfl⟩
  go_wp2_with fail
  refine (wtakeNil i w2).mono ?_
  rintro e w3 ⟨rfl, hb3⟩
  have HB3 := Lib.hid (HB2.out.trans (hb3.mono (Nat.le_of_lt (heap_lt HPK2.out))))
  have HPK3 := Lib.hid (below_heap hb3 HPK2.out (heap_lt HPK2.out))
  clear hb3 HB2 HPK2
  go_wp2_with fail
  have ez4 : (w3.alloc (pkObj pk0)).heap.size = w3.heap.size + 1 := World.size_alloc _ _
  have z3 := heap_lt HPK3.out
  have HB4 : Hid (Below w.heap.size w (w3.alloc (pkObj pk0))) := HB3.out.alloc (Nat.le_of_lt z3) _
  have HPK4 := Lib.hid (heap_alloc_same HPK3.out (pkObj pk0))
  have HZR4 := Lib.hid (heap_alloc_new w3 (pkObj pk0))
  rw [show w3.alloc (.cells #[.int .i64 0, .int .i64 0, .int .i64 0, .int .i64 0, .int .i64 0, .string ByteArray.empty] 23) = w3.alloc (pkObj pk0) from rfl]
  have HZ3 := Lib.hid z3
  obtain ⟨zr, hzr⟩ : ∃ zr, zr = w3.heap.size := ⟨_, rfl⟩
  rw [← hzr] at HZR4 ez4 HZ3
  have hz3 : w.heap.size < zr := HZ3.out
  rw [← hzr]
  clear HB3 HPK3 z3 HZ3 hzr
  generalize w3.alloc (pkObj pk0) = w4 at *
  refine (wireNew_any w4).mono ?_
  rintro e w5 ⟨rfl, rfl⟩
  have HU5 := Lib.hid (wire_new w4)
  have ez5 : (w4.alloc (.cells #[.slice none 0 0] 85)).heap.size = zr + 2 := by rw [World.size_alloc, ez4]
  have HB5 : Hid (Below w.heap.size w (w4.alloc (.cells #[.slice none 0 0] 85))) := HB4.out.alloc (by omega) _
  have HPK5 := Lib.hid (heap_alloc_same HPK4.out (.cells #[.slice none 0 0] 85))
  have HZR5 := Lib.hid (heap_alloc_same HZR4.out (.cells #[.slice none 0 0] 85))
  rw [ez4] at HU5 ⊢
  clear HB4 HPK4 HZR4 ez4
  generalize w4.alloc (.cells #[.slice none 0 0] 85) = w5 at *
  have q0 : w5.cell? ⟨w.heap.size, 0, none⟩ = some (.int .i64 p.ch) := cell_at HPK5.out rfl
  have q1 : w5.cell? ⟨w.heap.size, 1, none⟩ = some (.int .i64 p.back) := cell_at HPK5.out rfl
  have q2 : w5.cell? ⟨w.heap.size, 2, none⟩ = some (.int .i64 p.inc) := cell_at HPK5.out rfl
  have q3 : w5.cell? ⟨w.heap.size, 3, none⟩ = some (.int .i64 p.seq) := cell_at HPK5.out rfl
  have q4 : w5.cell? ⟨w.heap.size, 4, none⟩ = some (.int .i64 p.ack) := cell_at HPK5.out rfl
  have q5 : w5.cell? ⟨w.heap.size, 5, none⟩ = some (.string p.load) := cell_at HPK5.out rfl
  have hn5 := news_built w5 [p] (pkCells p).toArray (by simp [pksCells]) 1 rfl
  rw [ez5] at hn5
  have HS := Lib.hid (wireSend_any (zr + 1) [] [p] (fun k => k = zr + 1) (w5.alloc (pkObj p)) (HU5.out.chg ((Chg.refl w5 (fun _ => False)).alloc _) (fun _ _ h => h)) _ hn5 (by simp))
  clear hn5
  go_wp2_with fail
  refine HS.out.mono ?_
  rintro e w6 ⟨rfl, h6, hc6⟩
  rw [show cutPks ([] ++ [p]) = [p] from rfl] at h6
  have hc6' := ((Chg.refl w5 (fun k => k = zr + 1)).alloc (pkObj p)).trans hc6 (fun _ _ x => x)
  have HB6 : Hid (Below w.heap.size w w6) := HB5.out.trans (hc6'.below (by omega) (fun j hj x => by have : j = zr + 1 := x; omega))
  have HPK6 := Lib.hid (hc6'.heap HPK5.out (by omega))
  have HZR6 := Lib.hid (hc6'.heap HZR5.out (by omega))
  have hz6 := hc6'.size
  have HU6 := Lib.hid (h6.mono (G := fun k => zr < k ∧ k < w6.heap.size) (fun k hk x => by
    rcases x with ⟨x, _⟩ | x
    · exact ⟨by omega, hk⟩
    · rw [World.size_alloc] at x; exact ⟨by omega, hk⟩))
  clear h6 hc6 hc6' HB5 HPK5 HZR5 HU5 q0 q1 q2 q3 q4 q5
  go_wp2_with fail
  refine (wireAll_any (zr + 1) [p] _ w6 HU6.out (by simp)).mono ?_
  rintro e w7 ⟨v, rfl, hv, hc7⟩
  have HB7 : Hid (Below w.heap.size w w7) := HB6.out.trans (hc7.below (by omega) (fun _ _ x => x))
  have HPK7 := Lib.hid (hc7.heap HPK6.out (fun x => x))
  have HZR7 := Lib.hid (hc7.heap HZR6.out (fun x => x))
  have HU7 := Lib.hid (HU6.out.chg hc7 (fun _ _ h => h))
  have hz7 := hc7.size
  obtain ⟨b, off, cap, rfl, hb, hbl, hcells⟩ : ∃ b off cap, v = .slice (some ⟨b, off, none⟩) 1 cap ∧ w6.heap.size ≤ b ∧ b < w7.heap.size ∧ ∀ j u, (pkCells p)[j]? = some u → w7.cell? ⟨b, off + j, none⟩ = some u ∧ w7.frozen? ⟨b, off + j, none⟩ = false := by
    obtain ⟨b, off, cap, e1, e2, e3, _, _, e4⟩ := hv.at (by simp)
    exact ⟨b, off, cap, e1, e2, e3, fun j u hj => e4 j u (by simpa [pksCells] using hj)⟩
  have y3 : w7.cell? ⟨b, off + 3, none⟩ = some (.int .i64 p.seq) := (hcells 3 _ rfl).1
  have f3 : w7.frozen? ⟨b, off + 3, none⟩ = false := (hcells 3 _ rfl).2
  clear hcells hv hc7 HB6 HPK6 HZR6 HU6
  go_wp2_with fail
  have hz8 : b ≠ w.heap.size := by omega
  have hz8' : b ≠ zr := by omega
  have HB8 : Hid (Below w.heap.size w (w7.setCell ⟨b, off + 3, none⟩ (.int .i64 (wrap64 (p.seq + 1))))) := HB7.out.setCell (show w.heap.size ≤ b by omega) _
  have HPK8 := Lib.hid (heap_setCell_other (p := ⟨b, off + 3, none⟩) HPK7.out hz8.symm (.int .i64 (wrap64 (p.seq + 1))))
  have HZR8 := Lib.hid (heap_setCell_other (p := ⟨b, off + 3, none⟩) HZR7.out hz8'.symm (.int .i64 (wrap64 (p.seq + 1))))
  have HU8 := Lib.hid (HU7.out.chg ((Chg.refl w7 (fun k => k = b)).setCell (p := ⟨b, off + 3, none⟩) (fun _ => rfl) (.int .i64 (wrap64 (p.seq + 1)))) (fun k hk x => by omega))
  have hz9 : zr + 2 < (w7.setCell ⟨b, off + 3, none⟩ (.int .i64 (wrap64 (p.seq + 1)))).heap.size := by rw [World.size_setCell]; omega
  clear HB7 HPK7 HZR7 HU7 y3 f3
  generalize w7.setCell ⟨b, off + 3, none⟩ (.int .i64 (wrap64 (p.seq + 1))) = w8 at *
  have k0 : w8.cell? ⟨zr, 0, none⟩ = some (.int .i64 0) := cell_at HZR8.out rfl
  have k1 : w8.cell? ⟨zr, 1, none⟩ = some (.int .i64 0) := cell_at HZR8.out rfl
  have k2 : w8.cell? ⟨zr, 2, none⟩ = some (.int .i64 0) := cell_at HZR8.out rfl
  have k3 : w8.cell? ⟨zr, 3, none⟩ = some (.int .i64 0) := cell_at HZR8.out rfl
  have k4 : w8.cell? ⟨zr, 4, none⟩ = some (.int .i64 0) := cell_at HZR8.out rfl
  have k5 : w8.cell? ⟨zr, 5, none⟩ = some (.string ByteArray.empty) := cell_at HZR8.out rfl
  have hz7' : w.heap.size < w8.heap.size := by omega
  have hmk : ∀ w' : World, w'.heap[zr]? = some (pkObj pk0) → w'.heap[w.heap.size]? = some (pkObj p) → (w'.cell? ⟨zr, 0, none⟩ = some (.int .i64 0) ∧ w'.cell? ⟨zr, 1, none⟩ = some (.int .i64 0) ∧ w'.cell? ⟨zr, 2, none⟩ = some (.int .i64 0) ∧ w'.cell? ⟨zr, 3, none⟩ = some (.int .i64 0) ∧ w'.cell? ⟨zr, 4, none⟩ = some (.int .i64 0) ∧ w'.cell? ⟨zr, 5, none⟩ = some (.string ByteArray.empty) ∧
      w'.cell? ⟨w.heap.size, 0, none⟩ = some (.int .i64 p.ch) ∧ w'.cell? ⟨w.heap.size, 1, none⟩ = some (.int .i64 p.back) ∧ w'.cell? ⟨w.heap.size, 2, none⟩ = some (.int .i64 p.inc) ∧ w'.cell? ⟨w.heap.size, 3, none⟩ = some (.int .i64 p.seq) ∧ w'.cell? ⟨w.heap.size, 4, none⟩ = some (.int .i64 p.ack) ∧ w'.cell? ⟨w.heap.size, 5, none⟩ = some (.string p.load)) :=
    fun w' a b => ⟨cell_at a rfl, cell_at a rfl, cell_at a rfl, cell_at a rfl, cell_at a rfl, cell_at a rfl, cell_at b rfl, cell_at b rfl, cell_at b rfl, cell_at b rfl, cell_at b rfl, cell_at b rfl⟩
  have HMK := Lib.hid hmk
  have HB8d : Hid (Below w.heap.size w w8.drew) := HB8.out.drew
  have HU8d := Lib.hid (HU8.out.chg ((Chg.refl w8 (fun _ => False)).drew) (fun _ _ x => x))
  clear k0 k1 k2 k3 k4 k5 hmk
  obtain ⟨k0, k1, k2, k3, k4, k5, _⟩ := HMK.out w8 HZR8.out HPK8.out
  go_region_with (first
    | (go_at_call 31; (refine (wloseNil i _).mono ?_; rintro e wa ⟨rfl, ha⟩; have HBa := Lib.hid (HB8d.out.trans (ha.mono (Nat.le_of_lt hz7'))); have HZa := Lib.hid (below_heap ha HZR8.out (heap_lt HZR8.out)); have HPa := Lib.hid (below_heap ha HPK8.out (heap_lt HPK8.out)); have HUa := Lib.hid (HU8d.out.chg (Chg.of_below ha (fun _ => False) (fun x h1 h2 => absurd h1 (Nat.not_lt.2 h2))) (fun _ _ x => x)); have hza := Nat.lt_of_lt_of_le hz7' ha.size; clear ha k0 k1 k2 k3 k4 k5))
    | (go_at_call 27; refine (wtwiceNil i _).mono ?_; rintro e wb ⟨rfl, rfl⟩)
    | (go_at_call 24; refine (wturnNil i i _).mono ?_; rintro e wc ⟨rfl, hc⟩; have HBc := Lib.hid (HBa.out.trans (hc.mono (Nat.le_of_lt hza))); have HZc := Lib.hid (below_heap hc HZa.out (heap_lt HZa.out)); have HPc := Lib.hid (below_heap hc HPa.out (heap_lt HPa.out)); have HUc := Lib.hid (HUa.out.chg (Chg.of_below hc (fun _ => False) (fun x h1 h2 => absurd h1 (Nat.not_lt.2 h2))) (fun _ _ x => x)); have hzc := Nat.lt_of_lt_of_le hza hc.size; obtain ⟨_, _, _, _, _, _, c0, c1, c2, c3, c4, c5⟩ := HMK.out _ HZc.out HPc.out; clear hc)
    | (go_at_call 26; refine (wlenNil _).mono ?_; rintro e wd ⟨rfl, rfl⟩)
    | (go_at_call_of 34 (Value.pointer none); refine (wallNil _).mono ?_; rintro e we ⟨rfl, rfl⟩)
    | (go_at_call 34; refine (wireAll_any (zr + 1) [p] _ _ HUc.out (by simp)).mono ?_; rintro e wf ⟨vf, rfl, hvf, hcf⟩; have HBf := Lib.hid (HBc.out.trans (hcf.below (Nat.le_of_lt hzc) (fun _ _ x => x))); have HZf := Lib.hid (hcf.heap HZc.out (fun x => x)); have HPf := Lib.hid (hcf.heap HPc.out (fun x => x)); obtain ⟨bf, offf, capf, rfl, _, _, hcl⟩ := all_one hvf; obtain ⟨y0, y1, y2, y3, y4, y5⟩ := hcl; obtain ⟨_, _, _, _, _, _, x0, x1, x2, x3, x4, x5⟩ := HMK.out _ HZf.out HPf.out; clear hcf hvf c0 c1 c2 c3 c4 c5))
  all_goals
    go_wp2_with fail
    go_ret
    exact ⟨rfl, HBf.out⟩

set_option maxRecDepth 100000 in
theorem wireNone_lawful : Lawful 7 Try.f7 := by
  intro H enc W base args ds p hval hA hlt hsz
  rw [Try.params7] at hA hval hsz
  obtain ⟨v0, v1, d0, d1, p0, p1, rfl, rfl, rfl, h0, h1⟩ := trodAll_two hA
  obtain ⟨pk, rfl, _⟩ := pkArg (hval 0 23 v0 rfl rfl) h0 (weights_in (j := 0) hsz rfl rfl)
  obtain ⟨i, rfl, rfl, rfl, _⟩ := open_int under_int (hval 1 3 v1 rfl rfl) h1
  exact wireNone_law pk i W

theorem wireNone_holds : Rows.WireNoneSaid :=
  OpenClaim.holds_of_wide 7 Try.f7 rfl rfl rfl rfl rfl rfl rfl ⟨rfl, rfl, rfl, rfl, rfl⟩ rfl rfl rfl rfl rfl (by kernel_rfl) Try.func7 (by kernel_rfl)
    (of_decide_eq_true (by kernel_rfl)) (by unfold Func.isWrapper; rw [if_neg (of_decide_eq_false (by kernel_rfl))]; exact ⟨rfl, rfl⟩)
    (fun os started H enc _ => law_lift (s := Rows.wireNoneSpec) Try.func7 (by kernel_rfl) rfl rfl rfl (by rw [Try.params7]; intro t ht; simp at ht; rcases ht with rfl | rfl <;> exact ⟨by kernel_rfl, of_decide_eq_true (by kernel_rfl)⟩)
      (by rw [Try.params7]; intro H ds hds; match ds, hds with | [d1, d2], _ => exact ⟨rfl, rfl, rfl⟩) wireNone_lawful os started H enc
      (ChangeSpec.witness6 (enc := enc) (C := Try.checked) false ⟨#[], #[.agg #[.int .i64 0, .int .i64 0, .int .i64 0, .int .i64 0, .int .i64 0, .string ByteArray.empty], .int .i64 0], []⟩ 8 (by kernel_rfl) (by kernel_rfl) (by kernel_rfl) (by kernel_rfl)))
end Go.Proofs.Ytecpgkcoehnpbaa
