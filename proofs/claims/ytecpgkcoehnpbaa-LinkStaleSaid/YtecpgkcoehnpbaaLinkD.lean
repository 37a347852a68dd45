/- Layer 17: the walks of Out.Send where it refuses, In.Peek, In.Pop. -/
import Derived.Test.YtecpgkcoehnpbaaLinkC
import Derived.Lib.QuietBelow
namespace Go.Proofs.Ytecpgkcoehnpbaa
open Go.RowKit

set_option maxRecDepth 100000 in
set_option maxHeartbeats 800000 in
theorem send_empty (o : Option Addr) (ld : ByteArray) (w : World) (h : o = none ∨ ld.toList = []) :
    Calls Try.prog 13 #[.pointer o, .string ld] w fun e w' => e = .returned (.tuple #[.slice none 0 0, .int .i64 1]) ∧ w = w' := by
  by_cases ho : o = none
  · subst ho
    clear h
    go_enter Try.func13, Try.ntmps13
    go_wp2_with fail
    go_ret2
    exact ⟨rfl, rfl⟩
  · obtain ⟨a, rfl⟩ := Option.ne_none_iff_exists'.1 ho
    have hle : ld.toList = [] := h.resolve_left ho
    clear h ho
    go_enter Try.func13, Try.ntmps13
    go_wp2_with fail
    go_ret2
    exact ⟨rfl, rfl⟩

set_option maxRecDepth 100000 in
set_option maxHeartbeats 800000 in
theorem send_full (g : Nat) (s : OutSt) (F : Nat → Prop) (w : World) (ld : ByteArray) (h : OutAt w F g s) (hld : ld.toList ≠ []) (h6 : s.waits.length = 6) :
    Calls Try.prog 13 #[.pointer (some ⟨g, 0, none⟩), .string ld] w fun e w' => e = .returned (.tuple #[.slice none 0 0, .int .i64 7]) ∧ w = w' := by
  have hfree := free_any g s F w h (by omega)
  rw [show ((6 : Int) - (s.waits.length : Int)) = 0 by omega] at hfree
  have HFREE := Lib.hid hfree
  have hle : ld.toList.isEmpty = false := by cases h : ld.toList with | nil => exact absurd h hld | cons a b => rfl
  clear h hfree hld h6
  go_enter Try.func13, Try.ntmps13
  go_wp2_with fail
  refine HFREE.out.mono ?_
  rintro e w' ⟨rfl, rfl⟩
  go_wp2_with fail
  go_ret2
  exact ⟨rfl, rfl⟩

set_option maxRecDepth 100000 in
set_option maxHeartbeats 800000 in
theorem peek_none (g : Nat) (s : InSt) (F : Nat → Prop) (w : World) (h : InAt w F g s) (h0 : s.loads = []) :
    Calls Try.prog 15 #[.pointer (some ⟨g, 0, none⟩)] w fun e w' => e = .returned (.tuple #[.string ByteArray.empty, .bool false]) ∧ w = w' := by
  have hlen := inLen_any g s F w h
  rw [h0] at hlen
  have HL := Lib.hid hlen
  clear hlen h h0
  go_enter Try.func15, Try.ntmps15
  go_wp2_with fail
  refine HL.out.mono ?_
  rintro e w' ⟨rfl, rfl⟩
  go_wp2_with fail
  go_ret2
  exact ⟨rfl, rfl⟩

set_option maxRecDepth 100000 in
set_option maxHeartbeats 800000 in
theorem peek_some (g : Nat) (s : InSt) (F : Nat → Prop) (w : World) (h : InAt w F g s) (x : ByteArray) (l : List ByteArray) (h0 : s.loads = x :: l) :
    Calls Try.prog 15 #[.pointer (some ⟨g, 0, none⟩)] w fun e w' => e = .returned (.tuple #[.string x, .bool true]) ∧ w = w' := by
  have hlen := inLen_any g s F w h
  obtain ⟨ao, cap, h4, h5, h2, h3⟩ := h.cells
  obtain ⟨b, off, cap', he, hF, hbl, h6, h7, hc⟩ := h3.at (by rw [h0]; simp)
  injection he with e1 e2 e3
  subst e1 e3
  have c2 : w.cell? ⟨g, 2, none⟩ = some (.slice (some ⟨b, off, none⟩) s.loads.length cap) := cell_at h2 rfl
  have c4 : w.cell? ⟨b, off, none⟩ = some (.string x) := (hc 0 _ (by rw [h0]; rfl)).1
  have hpos : 0 < s.loads.length := by rw [h0]; simp
  have hne : (((s.loads.length : Nat) : Int) == 0) = false := by rw [beq_eq_false_iff_ne]; omega
  generalize s.loads.length = n at *
  have HL := Lib.hid hlen
  have hposi : (0 : Int) < n := by omega
  clear hlen h h0 h2 h3 hc hF e2
  go_enter Try.func15, Try.ntmps15
  go_wp2_with fail
  refine HL.out.mono ?_
  rintro e w' ⟨rfl, rfl⟩
  go_wp2_with fail
  go_ret2
  exact ⟨rfl, rfl⟩

set_option maxRecDepth 100000 in
set_option maxHeartbeats 800000 in
theorem pop_none (g : Nat) (s : InSt) (F : Nat → Prop) (w : World) (h : InAt w F g s) (h0 : s.loads = []) :
    Calls Try.prog 14 #[.pointer (some ⟨g, 0, none⟩)] w fun e w' => e = .returned (.tuple #[.string ByteArray.empty, .slice none 0 0, .bool false]) ∧ w = w' := by
  have HP := Lib.hid (peek_none g s F w h h0)
  clear h h0
  go_enter Try.func14, Try.ntmps14
  go_wp2_with fail
  refine HP.out.mono ?_
  rintro e w' ⟨rfl, rfl⟩
  go_wp2_with fail
  go_ret3
  exact ⟨rfl, rfl⟩

theorem sizeStr : (Try.prog.info? (Try.prog.elem 69)).map (·.size) = some 1 := by kernel_rfl
theorem under_strs' : Try.prog.underlying 69 = some (.slice (Try.prog.elem 69)) := by kernel_rfl

set_option maxRecDepth 100000 in
set_option maxHeartbeats 1600000 in
theorem pop_some (g : Nat) (s : InSt) (F : Nat → Prop) (w : World) (h : InAt w F g s) (x : ByteArray) (l : List ByteArray) (h0 : s.loads = x :: l) (hb1 : 0 ≤ s.out) (hb2 : s.out ≤ 100000) :
    Calls Try.prog 14 #[.pointer (some ⟨g, 0, none⟩)] w fun e w' => ∃ r, e = .returned (.tuple #[.string x, .slice (some ⟨r, 0, none⟩) 1 1, .bool true]) ∧ w'.heap[r]? = some (pkObj ⟨s.ch, 1, s.inc, 0, s.out + 1, ByteArray.empty⟩) ∧ w.heap.size ≤ r ∧
      InAt w' F g ⟨s.ch, s.inc, l, s.out + 1⟩ ∧ Chg w w' F := by
  have HP := Lib.hid (peek_some g s F w h x l h0)
  have hF := h.1
  obtain ⟨ao, cap, h4, h5, h2, h3⟩ := h.cells
  have hg : g < w.heap.size := heap_lt h2
  obtain ⟨sc, si, sw, so⟩ := s
  simp only at *
  subst h0
  have c2 : w.cell? ⟨g, 2, none⟩ = some (.slice ao (x :: l).length cap) := cell_at h2 rfl
  have c3 : w.cell? ⟨g, 3, none⟩ = some (.int .i64 so) := cell_at h2 rfl
  have f2 := free_at h2 2
  have f3 := free_at h2 3
  have hcut := run_dropS (P := Try.prog) (size := 1) w 69 under_strs' sizeStr h3 (k := 1) (by simp)
  have s1 := h3.dropped (k := 1) (by simp)
  obtain ⟨ao1, cap1, hd1, _, _⟩ := s1.shape
  rw [hd1] at hcut s1
  have g1 := heap_setCell_same (i := 2) h2 (.slice ao1 ((x :: l).length - 1) cap1)
  have g2 := heap_setCell_same (i := 3) g1 (.int .i64 (so + 1))
  have I2 : InAt ((w.setCell ⟨g, 2, none⟩ (.slice ao1 ((x :: l).length - 1) cap1)).setCell ⟨g, 3, none⟩ (.int .i64 (so + 1))) F g ⟨sc, si, l, so + 1⟩ := by
    refine ⟨hF, _, g2, ?_⟩
    have : strCells l = (strCells (x :: l)).drop (1 * 1) := by simp [strCells]
    rw [this]
    simp only [List.length_cons, Nat.add_sub_cancel] at s1 ⊢
    exact (s1.keep fun k hk _ => Below.heap_setCell _ _ _ _ hk.2).keep fun k hk _ => Below.heap_setCell _ _ _ _ hk.2
  have C2 : Chg w ((w.setCell ⟨g, 2, none⟩ (.slice ao1 ((x :: l).length - 1) cap1)).setCell ⟨g, 3, none⟩ (.int .i64 (so + 1))) F := ((Chg.refl w F).setCell (fun _ => hF) _).setCell (fun _ => hF) _
  have HI2 := Lib.hid I2
  have HC2 := Lib.hid C2
  have HA := Lib.hid (ackPk_any g _ F _ I2)
  simp only [List.length_cons, Nat.add_sub_cancel] at *
  have HCUT := Lib.hid hcut
  clear h h2 h3 hd1 s1 g1 g2 I2 C2 hF hcut
  generalize l.length = n at *
  go_enter Try.func14, Try.ntmps14
  go_wp2_with fail
  refine HP.out.mono ?_
  rintro e w' ⟨rfl, rfl⟩
  go_wp2_with (refine wpList_cut_run rfl rfl rfl rfl under_strs' HCUT.out ?_)
  refine HA.out.mono ?_
  rintro e w3 ⟨rfl, hp3, hb3⟩
  have HP3 := Lib.hid hp3
  have HB3 := Lib.hid hb3
  clear hp3 hb3
  go_wp2_with fail
  go_ret3
  refine ⟨_, rfl, by have := HP3.out; simp only [World.size_setCell] at this; exact this, Nat.le_refl _, HI2.out.chg (Chg.of_below HB3.out (fun _ => False) (fun i h h' => absurd h (by omega))) (fun _ _ h => h), HC2.out.trans (Chg.of_below HB3.out (fun _ => False) (fun i h h' => absurd h (by omega))) (fun _ _ h => h.elim)⟩

theorem is_noB (c i : Int) (p : Pk) (b : Int) (w : World) (h : ¬ (p.ch = c ∧ p.inc = i ∧ p.back = b)) :
    Calls Try.prog 43 #[.agg #[.int .i64 c, .int .i64 i], .agg #[.int .i64 p.ch, .int .i64 p.back, .int .i64 p.inc, .int .i64 p.seq, .int .i64 p.ack, .string p.load], .int .i64 b] w fun e w' => e = .returned (.bool false) ∧ Below w.heap.size w w' :=
  (is_no c i p b w h).mono fun _ _ ⟨h1, h2⟩ => ⟨h1, by subst h2; exact ((Below.refl _ _).alloc (Nat.le_refl _) _).alloc (by simp) _⟩
theorem is_yesB (c i : Int) (p : Pk) (b : Int) (w : World) (h1 : p.ch = c) (h2 : p.inc = i) (h3 : p.back = b) :
    Calls Try.prog 43 #[.agg #[.int .i64 c, .int .i64 i], .agg #[.int .i64 p.ch, .int .i64 p.back, .int .i64 p.inc, .int .i64 p.seq, .int .i64 p.ack, .string p.load], .int .i64 b] w fun e w' => e = .returned (.bool true) ∧ Below w.heap.size w w' :=
  (is_yes c i p b w h1 h2 h3).mono fun _ _ ⟨h1, h2⟩ => ⟨h1, by subst h2; exact ((Below.refl _ _).alloc (Nat.le_refl _) _).alloc (by simp) _⟩

set_option maxRecDepth 100000 in
set_option maxHeartbeats 1600000 in
theorem ack_no (g : Nat) (s : OutSt) (F : Nat → Prop) (w : World) (h : OutAt w F g s) (p : Pk) (hp : ¬ (p.ch = s.ch ∧ p.inc = s.inc ∧ p.back = 1)) :
    Calls Try.prog 12 #[.pointer (some ⟨g, 0, none⟩), .agg #[.int .i64 p.ch, .int .i64 p.back, .int .i64 p.inc, .int .i64 p.seq, .int .i64 p.ack, .string p.load]] w fun e w' => e = .returned (.tuple #[]) ∧ Below w.heap.size w w' := by
  obtain ⟨ao, cap, h4, h5, h2, h3⟩ := h.cells
  obtain ⟨sc, si, sw, sl, st⟩ := s
  obtain ⟨pc, pb, pi, ps, pa, pl⟩ := p
  simp only at *
  have h2' := heap_alloc_same h2 (pkObj ⟨pc, pb, pi, ps, pa, pl⟩)
  have hpk := heap_alloc_new w (pkObj ⟨pc, pb, pi, ps, pa, pl⟩)
  obtain ⟨w0, hw0⟩ : ∃ w0, w0 = w.alloc (pkObj ⟨pc, pb, pi, ps, pa, pl⟩) := ⟨_, rfl⟩
  rw [← hw0] at h2' hpk
  have c0 := cell_regrown (cell_at h2' (i := 0) rfl)
  have c1 := cell_regrown (cell_at h2' (i := 1) rfl)
  have c3 := cell_regrown (cell_at h2' (i := 3) rfl)
  have p0 := cell_regrown (cell_at hpk (i := 0) rfl)
  have p1 := cell_regrown (cell_at hpk (i := 1) rfl)
  have p2 := cell_regrown (cell_at hpk (i := 2) rfl)
  have p3 := cell_regrown (cell_at hpk (i := 3) rfl)
  have p4 := cell_regrown (cell_at hpk (i := 4) rfl)
  have p5 := cell_regrown (cell_at hpk (i := 5) rfl)
  have cI : ∀ d os, Calls Try.prog 43 #[.agg #[.int .i64 sc, .int .i64 si], .agg #[.int .i64 pc, .int .i64 pb, .int .i64 pi, .int .i64 ps, .int .i64 pa, .string pl], .int .i64 1] (Go.Sort.grow (redrawn w0 d) os) fun e w'' => e = .returned (.bool false) ∧ ∃ p : Regrown, w'' = Go.Sort.grow (redrawn w0 p.d) p.os :=
    fun d os => Calls.regrown_of (is_noB sc si ⟨pc, pb, pi, ps, pa, pl⟩ 1 _ hp)
  have HI := Lib.hid cI
  have hlt : w.heap.size < w0.heap.size := by rw [hw0]; simp
  have HB0 : Hid (Below w.heap.size w w0) := by rw [hw0]; exact (Below.refl _ _).alloc (Nat.le_refl _) _
  clear h h2 h3 h4 h5 hp cI h2' hpk
  go_enter Try.func12, Try.ntmps12
  go_wp2_with fail
  rw [show w.alloc (.cells #[.int .i64 pc, .int .i64 pb, .int .i64 pi, .int .i64 ps, .int .i64 pa, .string pl] 23) = w0 from hw0.symm]
  clear hw0
  refine wp_region_quiet_below (by kernel_rfl) (by kernel_rfl) ?_
  repeat (go_big_quiet_step (exact HI.out _ _))
  refine wpQuiet_nil ?_
  intro _ hw'
  obtain ⟨⟨dq, osq⟩, rfl⟩ := hw'
  have HB := Lib.hid (below_regrown w0 dq osq)
  clear c0 c1 c3 p0 p1 p2 p3 p4 p5
  generalize Go.Sort.grow (redrawn w0 dq) osq = w2 at *
  go_wp2_with fail
  go_outline
  refine bodyPost_ret (results_none rfl _ _ _) rfl ⟨rfl, HB0.out.trans (HB.out.mono (by omega))⟩
end Go.Proofs.Ytecpgkcoehnpbaa
