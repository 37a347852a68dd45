/- Layer 17: the walk of Out.Ack at a packet of its own. -/
import Derived.Test.YtecpgkcoehnpbaaLinkD
namespace Go.Proofs.Ytecpgkcoehnpbaa
open Go.RowKit

theorem below_heap {w w' : World} {B g : Nat} {o : Obj} (h : Below B w w') (hg : w.heap[g]? = some o) (hl : g < B) : w'.heap[g]? = some o := by rw [h.block g hl]; exact hg
theorem sl_below {w w' : World} {F : Nat → Prop} {e : TypeId} {size n B : Nat} {v : Value} {xs : List Value} (h : Sl w F e size v n xs) (hb : Below B w w') (hB : w.heap.size ≤ B) : Sl w' F e size v n xs :=
  h.keep fun k _ hk => hb.block k (Nat.lt_of_lt_of_le hk hB)

/-- a cell, in every world that a quiet region may come to -/
theorem rcell {w : World} {g i : Nat} {C : Array Value} {t : TypeId} {fr : Nat × Nat} (v : Value) (hg : w.heap[g]? = some (.cells C t fr)) (hv : C[i]? = some v) : ∀ d os, (Go.Sort.grow (redrawn w d) os).cell? ⟨g, i, none⟩ = some v :=
  cell_regrown (cell_at hg hv)

set_option maxRecDepth 100000 in
set_option maxHeartbeats 3200000 in
theorem ack_own (g : Nat) (s : OutSt) (F : Nat → Prop) (w : World) (h : OutAt w F g s) (p : Pk) (hp1 : p.ch = s.ch) (hp2 : p.inc = s.inc) (hp3 : p.back = 1) (ha : 0 ≤ p.ack) (hal : p.ack ≤ s.last) (hb2 : s.last ≤ 100000) (hw : s.waits.length ≤ 1000) :
    Calls Try.prog 12 #[.pointer (some ⟨g, 0, none⟩), .agg #[.int .i64 p.ch, .int .i64 p.back, .int .i64 p.inc, .int .i64 p.seq, .int .i64 p.ack, .string p.load]] w fun e w' => e = .returned (.tuple #[]) ∧
      OutAt w' F g ⟨s.ch, s.inc, s.waits.drop (p.ack - (s.last - s.waits.length)).toNat, s.last, s.ticks⟩ ∧ Chg w w' F := by
  have hF := h.1
  obtain ⟨ao, cap, h4, h5, h2, h3⟩ := h.cells
  have hg : g < w.heap.size := heap_lt h2
  obtain ⟨sc, si, sw, sl, st⟩ := s
  obtain ⟨pc, pb, pi, ps, pa, pl⟩ := p
  simp only at *
  subst hp1 hp2 hp3
  have h2' := heap_alloc_same h2 (pkObj ⟨pc, 1, pi, ps, pa, pl⟩)
  have hpk := heap_alloc_new w (pkObj ⟨pc, 1, pi, ps, pa, pl⟩)
  obtain ⟨w0, hw0⟩ : ∃ w0, w0 = w.alloc (pkObj ⟨pc, 1, pi, ps, pa, pl⟩) := ⟨_, rfl⟩
  rw [← hw0] at h2' hpk
  have c0 := rcell (i := 0) (.int .i64 pc) h2' rfl
  have c1 := rcell (i := 1) (.int .i64 pi) h2' rfl
  have c3 := rcell (i := 3) (.int .i64 sl) h2' rfl
  have p0 := rcell (i := 0) (.int .i64 pc) hpk rfl
  have p1 := rcell (i := 1) (.int .i64 1) hpk rfl
  have p2 := rcell (i := 2) (.int .i64 pi) hpk rfl
  have p3 := rcell (i := 3) (.int .i64 ps) hpk rfl
  have p4 := rcell (i := 4) (.int .i64 pa) hpk rfl
  have p5 := rcell (i := 5) (.string pl) hpk rfl
  have cI : ∀ d os, Calls Try.prog 43 #[.agg #[.int .i64 pc, .int .i64 pi], .agg #[.int .i64 pc, .int .i64 1, .int .i64 pi, .int .i64 ps, .int .i64 pa, .string pl], .int .i64 1] (Go.Sort.grow (redrawn w0 d) os) fun e w'' => e = .returned (.bool true) ∧ ∃ p : Regrown, w'' = Go.Sort.grow (redrawn w0 p.d) p.os :=
    fun d os => Calls.regrown_of (is_yesB pc pi ⟨pc, 1, pi, ps, pa, pl⟩ 1 _ rfl rfl rfl)
  have HI := Lib.hid cI
  have hlt : w.heap.size < w0.heap.size := by rw [hw0]; simp
  have HB0 : Hid (Below w.heap.size w w0) := by rw [hw0]; exact (Below.refl _ _).alloc (Nat.le_refl _) _
  have HPK := Lib.hid hpk
  have H2 := Lib.hid h2'
  have H3 := Lib.hid (sl_below h3 HB0.out (Nat.le_refl _))
  have HF := Lib.hid hF
  have hal' : decide (sl < pa) = false := by simp; omega
  clear h h2 h3 h4 h5 cI h2' hpk hF
  go_enter Try.func12, Try.ntmps12
  go_wp2_with fail
  rw [show w.alloc (.cells #[.int .i64 pc, .int .i64 1, .int .i64 pi, .int .i64 ps, .int .i64 pa, .string pl] 23) = w0 from hw0.symm]
  clear hw0
  refine wp_region_quiet_below (by kernel_rfl) (by kernel_rfl) ?_
  repeat (go_big_quiet_step (exact HI.out _ _))
  refine wpQuiet_nil ?_
  intro _ hw'
  obtain ⟨⟨dq, osq⟩, rfl⟩ := hw'
  have HB := Lib.hid (below_regrown w0 dq osq)
  clear c0 c1 c3 p0 p1 p2 p3 p4 p5 HI
  generalize Go.Sort.grow (redrawn w0 dq) osq = w2 at *
  have h2 := below_heap HB.out H2.out (heap_lt H2.out)
  have k2 : w2.cell? ⟨g, 2, none⟩ = some (.slice ao sw.length cap) := cell_at h2 rfl
  have k3 : w2.cell? ⟨g, 3, none⟩ = some (.int .i64 sl) := cell_at h2 rfl
  have q4 : w2.cell? ⟨w.heap.size, 4, none⟩ = some (.int .i64 pa) := cell_at (below_heap HB.out HPK.out hlt) rfl
  have H2b := Lib.hid h2
  have H3b := Lib.hid (sl_below H3.out HB.out (Nat.le_refl _))
  have HCW2 : Hid (Chg w w2 F) := by
    have := HB0.out.trans (HB.out.mono (by omega))
    exact Chg.of_below this _ (fun i h h' => absurd h (by omega))
  have a1 : IntKind.i64.wrap (sl - (sw.length : Int)) = sl - sw.length := IntWalk.i64_in _ (by omega)
  have a2 : IntKind.i64.wrap (pa - (sl - (sw.length : Int))) = pa - (sl - sw.length) := IntWalk.i64_in _ (by omega)
  clear h2 HB0 HB H2 H3 HPK hal'
  go_wp2_with fail
  go_quiet (fail)
  clear k2 k3 q4
  have HW3 : Hid (Chg w (w2.drewN nq) F) := HCW2.out.drewN nq
  have H2c : Hid ((w2.drewN nq).heap[g]? = some (.cells (outCells ⟨pc, pi, sw, sl, st⟩ (.slice ao sw.length cap)) 80 (0, 0))) := H2b.out
  have H3c : Hid (Sl (w2.drewN nq) (fun k => F k ∧ k ≠ g) 9 1 (.slice ao sw.length cap) sw.length (strCells sw)) := H3b.out.keep fun _ _ _ => rfl
  clear H2b H3b HCW2
  generalize w2.drewN nq = w3 at *
  by_cases hn : 0 < pa - (sl - (sw.length : Int))
  · have hcut := run_dropS (P := Try.prog) (size := 1) w3 69 under_strs' sizeStr H3c.out (k := (pa - (sl - (sw.length : Int))).toNat) (by omega)
    rw [Int.toNat_of_nonneg (by omega)] at hcut
    have s1 := H3c.out.dropped (k := (pa - (sl - (sw.length : Int))).toNat) (by omega)
    obtain ⟨ao1, cap1, hd1, _, _⟩ := s1.shape
    rw [hd1] at hcut s1
    have HCUT := Lib.hid hcut
    have HS1 := Lib.hid s1
    have k2 : w3.cell? ⟨g, 2, none⟩ = some (.slice ao sw.length cap) := cell_at H2c.out rfl
    have f2 := free_at H2c.out 2
    clear hcut s1 hd1
    go_wp2_with (refine wpList_cut_run rfl rfl rfl rfl under_strs' HCUT.out ?_)
    go_end0
    refine ⟨rfl, ?_, ?_⟩
    · refine ⟨HF.out, _, heap_setCell_same (i := 2) H2c.out _, ?_⟩
      have e1 : strCells (sw.drop (pa - (sl - (sw.length : Int))).toNat) = (strCells sw).drop ((pa - (sl - (sw.length : Int))).toNat * 1) := by simp [strCells]
      have e2 : (sw.drop (pa - (sl - (sw.length : Int))).toNat).length = sw.length - (pa - (sl - (sw.length : Int))).toNat := List.length_drop ..
      simp only [e1, e2]
      exact HS1.out.keep fun k hk _ => Below.heap_setCell _ _ _ _ hk.2
    · exact HW3.out.setCell (fun _ => HF.out) _
  · go_wp2_with fail
    have e0 : (pa - (sl - (sw.length : Int))).toNat = 0 := by omega
    go_end0
    refine ⟨rfl, ?_, HW3.out⟩
    rw [e0, List.drop_zero]
    exact ⟨HF.out, _, H2c.out, H3c.out⟩
end Go.Proofs.Ytecpgkcoehnpbaa
