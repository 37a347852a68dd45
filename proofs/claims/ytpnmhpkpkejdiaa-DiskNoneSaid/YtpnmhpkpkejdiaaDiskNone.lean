/- A disk that isn't there is down, and holds nothing: the law DiskNone answers true at every input. No condition. -/
import Derived.Test.YtpnmhpkpkejdiaaDiskG
namespace Go.Proofs.Ytpnmhpkpkejdiaa
open Go.ChangeShapes Go.WideShapes Go.ChangeAt Go.RowKit

set_option maxRecDepth 100000 in
set_option maxHeartbeats 400000 in
theorem wrongNil (w : World) : Calls Try.prog 58 #[.pointer none] w fun e w' => e = .returned (.int .i64 1) ∧ w = w' := by
  go_enter Try.func58, Try.ntmps58
  go_wp2_with fail
  go_ret
  exact ⟨rfl, rfl⟩
set_option maxRecDepth 100000 in
set_option maxHeartbeats 400000 in
theorem downNil (w : World) : Calls Try.prog 34 #[.pointer none] w fun e w' => e = .returned (.bool true) ∧ w = w' := by
  go_enter Try.func34, Try.ntmps34
  go_wp2_with fail
  go_ret
  exact ⟨rfl, rfl⟩
set_option maxRecDepth 100000 in
set_option maxHeartbeats 400000 in
theorem lenNil14 (w : World) : Calls Try.prog 28 #[.pointer none] w fun e w' => e = .returned (.int .i64 0) ∧ w = w' := by
  go_enter Try.func28, Try.ntmps28
  go_wp2_with fail
  go_ret
  exact ⟨rfl, rfl⟩
set_option maxRecDepth 100000 in
set_option maxHeartbeats 400000 in
theorem lastsNil (w : World) : Calls Try.prog 29 #[.pointer none] w fun e w' => e = .returned (.int .i64 0) ∧ w = w' := by
  go_enter Try.func29, Try.ntmps29
  go_wp2_with fail
  go_ret
  exact ⟨rfl, rfl⟩
set_option maxRecDepth 100000 in
set_option maxHeartbeats 400000 in
theorem roomNil (w : World) : Calls Try.prog 25 #[.pointer none] w fun e w' => e = .returned (.int .i64 0) ∧ w = w' := by
  go_enter Try.func25, Try.ntmps25
  go_wp2_with fail
  go_ret
  exact ⟨rfl, rfl⟩
set_option maxRecDepth 100000 in
set_option maxHeartbeats 400000 in
theorem readNil (w : World) : Calls Try.prog 27 #[.pointer none] w fun e w' => e = .returned (.tuple #[.string ByteArray.empty, .int .i64 1]) ∧ w = w' := by
  go_enter Try.func27, Try.ntmps27
  go_wp2_with fail
  refine (wrongNil w).mono ?_
  rintro e w1 ⟨rfl, rfl⟩
  go_wp2_with fail
  go_ret2
  exact ⟨rfl, rfl⟩
set_option maxRecDepth 100000 in
set_option maxHeartbeats 400000 in
theorem syncNil (w : World) : Calls Try.prog 31 #[.pointer none] w fun e w' => e = .returned (.int .i64 1) ∧ w = w' := by
  go_enter Try.func31, Try.ntmps31
  go_wp2_with fail
  refine (wrongNil w).mono ?_
  rintro e w1 ⟨rfl, rfl⟩
  go_wp2_with fail
  go_ret
  exact ⟨rfl, rfl⟩
set_option maxRecDepth 100000 in
set_option maxHeartbeats 400000 in
theorem appendNil (x : ByteArray) (w : World) : Calls Try.prog 26 #[.pointer none, .string x] w fun e w' => e = .returned (.int .i64 1) ∧ w = w' := by
  go_enter Try.func26, Try.ntmps26
  go_wp2_with fail
  refine (wrongNil w).mono ?_
  rintro e w1 ⟨rfl, rfl⟩
  go_wp2_with fail
  go_ret
  exact ⟨rfl, rfl⟩
set_option maxRecDepth 100000 in
set_option maxHeartbeats 400000 in
theorem truncNil (n : Int) (w : World) : Calls Try.prog 35 #[.pointer none, .int .i64 n] w fun e w' => e = .returned (.int .i64 1) ∧ w = w' := by
  go_enter Try.func35, Try.ntmps35
  go_wp2_with fail
  refine (wrongNil w).mono ?_
  rintro e w1 ⟨rfl, rfl⟩
  go_wp2_with fail
  go_ret
  exact ⟨rfl, rfl⟩
set_option maxRecDepth 100000 in
set_option maxHeartbeats 400000 in
theorem fuseNil (n : Int) (w : World) : Calls Try.prog 32 #[.pointer none, .int .i64 n] w fun e w' => e = .returned (.tuple #[]) ∧ w = w' := by
  go_enter Try.func32, Try.ntmps32
  go_wp2_with fail
  go_end0
  exact ⟨rfl, rfl⟩
set_option maxRecDepth 100000 in
set_option maxHeartbeats 400000 in
theorem crashNil (v : Value) (cut : Int) (w : World) : Calls Try.prog 33 #[.pointer none, .agg #[v, .int .i64 cut]] w fun e w' => e = .returned (.tuple #[]) ∧ Below w.heap.size w w' := by
  go_enter Try.func33, Try.ntmps33
  go_wp2_with fail
  exact bodyPost_ret (results_none rfl _ _ _) rfl ⟨rfl, (Below.refl _ _).alloc (Nat.le_refl _) _⟩

set_option maxRecDepth 100000 in
set_option maxHeartbeats 1600000 in
theorem diskNone_law (o : DOp) (w : World) (hok : DOpOk w o) : Calls Try.prog 11 #[.agg #[.int .i64 o.k, .int .i64 o.n, .string o.s, .slice o.ko o.keep.length o.kcap, .int .i64 o.cut]] w fun e w' => e = .returned (.bool true) ∧ Below w.heap.size w w' := by
  have hbx := heap_alloc_new w (.cells #[.int .i64 o.k, .int .i64 o.n, .string o.s, .slice o.ko o.keep.length o.kcap, .int .i64 o.cut] 50)
  have hb0 : Below w.heap.size w (w.alloc (.cells #[.int .i64 o.k, .int .i64 o.n, .string o.s, .slice o.ko o.keep.length o.kcap, .int .i64 o.cut] 50)) := (Below.refl _ _).alloc (Nat.le_refl _) _
  have hz0 : w.heap.size < (w.alloc (.cells #[.int .i64 o.k, .int .i64 o.n, .string o.s, .slice o.ko o.keep.length o.kcap, .int .i64 o.cut] 50)).heap.size := by rw [World.size_alloc]; omega
  have HBX := Lib.hid hbx
  have HB0 := Lib.hid hb0
  have HZ0 := Lib.hid hz0
  obtain ⟨hk1, hk2, hk3, _⟩ := hok
  clear hbx hb0 hz0 hk3
  go_enter Try.func11, Try.ntmps11
  go_wp2_with fail
  generalize w.alloc (.cells #[.int .i64 o.k, .int .i64 o.n, .string o.s, .slice o.ko o.keep.length o.kcap, .int .i64 o.cut] 50) = w0 at *
  refine (diskAwake w0).mono ?_
  rintro e w1 ⟨rfl, hb1⟩
  have HB1 : Hid (Below w.heap.size w w1) := HB0.out.trans (hb1.mono HB0.out.size)
  have HX1 := Lib.hid (below_heap hb1 HBX.out HZ0.out)
  clear hb1
  have q0 : w1.cell? ⟨w.heap.size, 0, none⟩ = some (.int .i64 o.k) := cell_at HX1.out rfl
  have q1 : w1.cell? ⟨w.heap.size, 1, none⟩ = some (.int .i64 o.n) := cell_at HX1.out rfl
  have q2 : w1.cell? ⟨w.heap.size, 2, none⟩ = some (.string o.s) := cell_at HX1.out rfl
  have q3 : w1.cell? ⟨w.heap.size, 3, none⟩ = some (.slice o.ko o.keep.length o.kcap) := cell_at HX1.out rfl
  have q4 : w1.cell? ⟨w.heap.size, 4, none⟩ = some (.int .i64 o.cut) := cell_at HX1.out rfl
  have hz1 := HB1.out.size
  obtain ⟨w2, hw2⟩ : ∃ w2, w1.alloc (.cells #[.int .i64 o.k, .int .i64 o.n, .string o.s, .slice o.ko o.keep.length o.kcap, .int .i64 o.cut] 50) = w2 := ⟨_, rfl⟩
  have hx2 : w2.heap[w1.heap.size]? = some (.cells #[.int .i64 o.k, .int .i64 o.n, .string o.s, .slice o.ko o.keep.length o.kcap, .int .i64 o.cut] 50) := by rw [← hw2]; exact heap_alloc_new w1 _
  have HX2 : Hid (w2.heap[w.heap.size]? = some (.cells #[.int .i64 o.k, .int .i64 o.n, .string o.s, .slice o.ko o.keep.length o.kcap, .int .i64 o.cut] 50)) := by rw [← hw2]; exact heap_alloc_same HX1.out _
  have HB2 : Hid (Below w.heap.size w w2) := by rw [← hw2]; exact HB1.out.alloc hz1 _
  have hgr : ∀ big : Bool, (Big14 [o] ↔ big = true) → Calls Try.prog 30 #[.slice (some ⟨w1.heap.size, 0, none⟩) 1 1] w2 fun e w'' => e = .returned (.bool big) ∧ Below w2.heap.size w2 w'' := fun big hbig =>
    great14_any _ w1.heap.size 0 1 1 [o] w2 (by unfold maxLen; omega) rfl (fun _ => rfl) (fun _ => heap_lt hx2) (fun o' ho => by rw [List.mem_singleton.1 ho]; exact ⟨hk1, hk2⟩) (fun i o' hi j u hj => by
      have h0 : i = 0 := by have := (List.getElem?_eq_some_iff.1 hi).1; simp at this; omega
      subst h0
      simp at hi
      subst hi
      simp only [Nat.zero_mul, Nat.zero_add]
      exact cell_at hx2 (by simpa [dopCells] using hj)) big hbig
  have HGR := Lib.hid hgr
  clear hgr hx2
  by_cases hbig : Big14 [o]
  · have HG := Lib.hid (HGR.out true (by simp [hbig]))
    clear HGR hbig
    go_wp2_with fail
    try rw [hw2]
    refine HG.out.mono ?_
    rintro e w3 ⟨rfl, hb3⟩
    have HB3 := Lib.hid (HB2.out.trans (hb3.mono HB2.out.size))
    clear hb3
    go_wp2_with fail
    go_ret
    exact ⟨rfl, HB3.out⟩
  · have HG := Lib.hid (HGR.out false (by simp [hbig]))
    clear HGR hbig
    go_wp2_with fail
    try rw [hw2]
    refine HG.out.mono ?_
    rintro e w3 ⟨rfl, hb3⟩
    have HB3 := Lib.hid (HB2.out.trans (hb3.mono HB2.out.size))
    have HX3 := Lib.hid (below_heap hb3 HX2.out (heap_lt HX2.out))
    clear hb3 hw2 q0 q1 q2 q3 q4
    have r1 : w3.cell? ⟨w.heap.size, 1, none⟩ = some (.int .i64 o.n) := cell_at HX3.out rfl
    have r3 : w3.cell? ⟨w.heap.size, 3, none⟩ = some (.slice o.ko o.keep.length o.kcap) := cell_at HX3.out rfl
    have r4 : w3.cell? ⟨w.heap.size, 4, none⟩ = some (.int .i64 o.cut) := cell_at HX3.out rfl
    go_wp2_with fail
    refine (fuseNil _ w3).mono ?_
    rintro e w4 ⟨rfl, rfl⟩
    go_wp2_with fail
    refine (crashNil _ _ w3).mono ?_
    rintro e w4 ⟨rfl, hb4⟩
    have HB4 := Lib.hid (HB3.out.trans (hb4.mono HB3.out.size))
    have HX4 := Lib.hid (below_heap hb4 HX3.out (heap_lt HX3.out))
    clear hb4 r1 r3 r4
    have r1 : w4.cell? ⟨w.heap.size, 1, none⟩ = some (.int .i64 o.n) := cell_at HX4.out rfl
    have r2 : w4.cell? ⟨w.heap.size, 2, none⟩ = some (.string o.s) := cell_at HX4.out rfl
    go_wp2_with fail
    refine (readNil w4).mono ?_
    rintro e w5 ⟨rfl, rfl⟩
    go_wp2_with fail
    refine (appendNil _ w4).mono ?_
    rintro e w5 ⟨rfl, rfl⟩
    go_wp2_with fail
    refine (syncNil w4).mono ?_
    rintro e w5 ⟨rfl, rfl⟩
    go_wp2_with fail
    refine (truncNil _ w4).mono ?_
    rintro e w5 ⟨rfl, rfl⟩
    go_wp2_with fail
    refine (downNil w4).mono ?_
    rintro e w5 ⟨rfl, rfl⟩
    go_wp2_with fail
    refine (lenNil14 w4).mono ?_
    rintro e w5 ⟨rfl, rfl⟩
    go_wp2_with fail
    refine (lastsNil w4).mono ?_
    rintro e w5 ⟨rfl, rfl⟩
    go_wp2_with fail
    refine (roomNil w4).mono ?_
    rintro e w5 ⟨rfl, rfl⟩
    go_wp2_with fail
    go_ret
    exact ⟨rfl, HB4.out⟩

set_option maxRecDepth 100000 in
theorem diskNone_lawful : Lawful 11 Try.f11 := by
  intro H enc W base args ds p hval hA hlt hsz
  rw [Try.params11] at hA hval hsz
  obtain ⟨v0, d0, rfl, rfl, h0⟩ := trodAll_one hA
  have hok0 := hval 0 50 v0 rfl rfl
  obtain ⟨cs, rfl, _⟩ := okWide_struct Try.underlying50 hok0
  obtain ⟨fuel, hf⟩ := h0
  obtain ⟨o, h1, h2⟩ := rdDOp fuel _ _ hf (weights_in (j := 0) hsz rfl rfl) hlt
  have h3 : cs.toList = dopCells o := h1
  have h4 : cs = (dopCells o).toArray := by rw [← h3]
  rw [h4]
  exact diskNone_law o W h2

theorem diskNone_holds : Rows.DiskNoneSaid :=
  OpenClaim.holds_of_wide 11 Try.f11 rfl rfl rfl rfl rfl rfl rfl ⟨rfl, rfl, rfl, rfl, rfl⟩ rfl rfl rfl rfl rfl (by kernel_rfl) Try.func11 (by kernel_rfl)
    (of_decide_eq_true (by kernel_rfl)) (by unfold Func.isWrapper; rw [if_neg (of_decide_eq_false (by kernel_rfl))]; exact ⟨rfl, rfl⟩)
    (fun os started H enc _ => law_lift (s := Rows.diskNoneSpec) Try.func11 (by kernel_rfl) rfl rfl rfl (by rw [Try.params11]; intro t ht; simp at ht; exact ht ▸ ⟨by kernel_rfl, of_decide_eq_true (by kernel_rfl)⟩)
      (by rw [Try.params11]; intro H ds hds; match ds, hds with | [d], _ => exact ⟨rfl, rfl, rfl⟩) diskNone_lawful os started H enc
      (ChangeSpec.witness6 (enc := enc) (C := Try.checked) false ⟨#[], #[.agg #[.int .i64 0, .int .i64 0, .string ByteArray.empty, .slice none 0 0, .int .i64 0]], []⟩ 8 (by kernel_rfl) (by kernel_rfl) (by kernel_rfl) (by kernel_rfl)))
end Go.Proofs.Ytpnmhpkpkejdiaa
