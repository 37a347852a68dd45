/- Layer 17: the walk of In.Take. -/
import Derived.Test.YtecpgkcoehnpbaaLinkE
import Derived.Deep.RegionLaw
namespace Go.Proofs.Ytecpgkcoehnpbaa
open Go.RowKit

set_option maxRecDepth 100000 in
set_option maxHeartbeats 1600000 in
theorem take_no (g : Nat) (s : InSt) (F : Nat → Prop) (w : World) (h : InAt w F g s) (p : Pk) (hp : ¬ (p.ch = s.ch ∧ p.inc = s.inc ∧ p.back = 0)) :
    Calls Try.prog 20 #[.pointer (some ⟨g, 0, none⟩), .agg #[.int .i64 p.ch, .int .i64 p.back, .int .i64 p.inc, .int .i64 p.seq, .int .i64 p.ack, .string p.load]] w fun e w' => e = .returned (.slice none 0 0) ∧ Below w.heap.size w w' := by
  obtain ⟨ao, cap, h4, h5, h2, h3⟩ := h.cells
  have hg : g < w.heap.size := heap_lt h2
  obtain ⟨sc, si, sw, so⟩ := s
  obtain ⟨pc, pb, pi, ps, pa, pl⟩ := p
  simp only at *
  have h2' := heap_alloc_same h2 (pkObj ⟨pc, pb, pi, ps, pa, pl⟩)
  have hpk := heap_alloc_new w (pkObj ⟨pc, pb, pi, ps, pa, pl⟩)
  obtain ⟨w0, hw0⟩ : ∃ w0, w0 = w.alloc (pkObj ⟨pc, pb, pi, ps, pa, pl⟩) := ⟨_, rfl⟩
  rw [← hw0] at h2' hpk
  have c0 := rcell (i := 0) (.int .i64 sc) h2' rfl
  have c1 := rcell (i := 1) (.int .i64 si) h2' rfl
  have p0 := rcell (i := 0) (.int .i64 pc) hpk rfl
  have p1 := rcell (i := 1) (.int .i64 pb) hpk rfl
  have p2 := rcell (i := 2) (.int .i64 pi) hpk rfl
  have p3 := rcell (i := 3) (.int .i64 ps) hpk rfl
  have p4 := rcell (i := 4) (.int .i64 pa) hpk rfl
  have p5 := rcell (i := 5) (.string pl) hpk rfl
  have cI : ∀ d os, Calls Try.prog 43 #[.agg #[.int .i64 sc, .int .i64 si], .agg #[.int .i64 pc, .int .i64 pb, .int .i64 pi, .int .i64 ps, .int .i64 pa, .string pl], .int .i64 0] (Go.Sort.grow (redrawn w0 d) os) fun e w'' => e = .returned (.bool false) ∧ ∃ p : Regrown, w'' = Go.Sort.grow (redrawn w0 p.d) p.os :=
    fun d os => Calls.regrown_of (is_noB sc si ⟨pc, pb, pi, ps, pa, pl⟩ 0 _ hp)
  have HI := Lib.hid cI
  have hlt : w.heap.size < w0.heap.size := by rw [hw0]; simp
  have HB0 : Hid (Below w.heap.size w w0) := by rw [hw0]; exact (Below.refl _ _).alloc (Nat.le_refl _) _
  clear h h2 h3 h4 h5 hp cI h2' hpk
  go_enter Try.func20, Try.ntmps20
  go_wp2_with fail
  rw [show w.alloc (.cells #[.int .i64 pc, .int .i64 pb, .int .i64 pi, .int .i64 ps, .int .i64 pa, .string pl] 23) = w0 from hw0.symm]
  clear hw0
  refine wp_region_quiet_below (by kernel_rfl) (by kernel_rfl) ?_
  repeat (go_big_quiet_step (exact HI.out _ _))
  refine wpQuiet_nil ?_
  intro _ hw'
  obtain ⟨⟨dq, osq⟩, rfl⟩ := hw'
  have HB := Lib.hid (below_regrown w0 dq osq)
  clear c0 c1 p0 p1 p2 p3 p4 p5
  generalize Go.Sort.grow (redrawn w0 dq) osq = w2 at *
  go_wp2_with fail
  go_ret
  exact ⟨rfl, HB0.out.trans (HB.out.mono (by omega))⟩

/-- what a receiver does at a packet of its own -/
def TakePost (g : Nat) (s : InSt) (F : Nat → Prop) (w : World) (p : Pk) (e : Ending) (w' : World) : Prop :=
  (p.seq = s.out + s.loads.length + 1 ∧ s.loads.length = 6 ∧ e = .returned (.slice none 0 0) ∧ InAt w' F g s ∧ Chg w w' F) ∨
      (¬ (p.seq = s.out + s.loads.length + 1 ∧ s.loads.length = 6) ∧ ∃ r, e = .returned (.slice (some ⟨r, 0, none⟩) 1 1) ∧ w'.heap[r]? = some (pkObj ⟨s.ch, 1, s.inc, 0, s.out, ByteArray.empty⟩) ∧ w.heap.size ≤ r ∧
        InAt w' (fun k => (F k ∧ k < w.heap.size) ∨ (w.heap.size ≤ k ∧ k ≠ r)) g ⟨s.ch, s.inc, if p.seq = s.out + s.loads.length + 1 then s.loads ++ [p.load] else s.loads, s.out⟩ ∧ Chg w w' F)

set_option maxRecDepth 100000 in
set_option maxHeartbeats 3200000 in
theorem take_own (g : Nat) (s : InSt) (F : Nat → Prop) (w : World) (h : InAt w F g s) (p : Pk) (hp1 : p.ch = s.ch) (hp2 : p.inc = s.inc) (hp3 : p.back = 0) (hld : p.load.toList ≠ []) (hs1 : 0 ≤ p.seq) (hs2 : p.seq ≤ 100000) (ho1 : 0 ≤ s.out) (ho2 : s.out ≤ 100000) (hw : s.loads.length ≤ 6) :
    Calls Try.prog 20 #[.pointer (some ⟨g, 0, none⟩), .agg #[.int .i64 p.ch, .int .i64 p.back, .int .i64 p.inc, .int .i64 p.seq, .int .i64 p.ack, .string p.load]] w (TakePost g s F w p) := by
  have hF := h.1
  have h := h.mono (G := fun k => F k ∧ k < w.heap.size) (fun k a b => ⟨b, a⟩)
  obtain ⟨ao, cap, h4, h5, h2, h3⟩ := h.cells
  have hg : g < w.heap.size := heap_lt h2
  obtain ⟨sc, si, sw, so⟩ := s
  obtain ⟨pc, pb, pi, ps, pa, pl⟩ := p
  simp only at *
  subst hp1 hp2 hp3
  have h2' := heap_alloc_same h2 (pkObj ⟨pc, 0, pi, ps, pa, pl⟩)
  have hpk := heap_alloc_new w (pkObj ⟨pc, 0, pi, ps, pa, pl⟩)
  obtain ⟨w0, hw0⟩ : ∃ w0, w0 = w.alloc (pkObj ⟨pc, 0, pi, ps, pa, pl⟩) := ⟨_, rfl⟩
  rw [← hw0] at h2' hpk
  have c0 := rcell (i := 0) (.int .i64 pc) h2' rfl
  have c1 := rcell (i := 1) (.int .i64 pi) h2' rfl
  have p0 := rcell (i := 0) (.int .i64 pc) hpk rfl
  have p1 := rcell (i := 1) (.int .i64 0) hpk rfl
  have p2 := rcell (i := 2) (.int .i64 pi) hpk rfl
  have p3 := rcell (i := 3) (.int .i64 ps) hpk rfl
  have p4 := rcell (i := 4) (.int .i64 pa) hpk rfl
  have p5 := rcell (i := 5) (.string pl) hpk rfl
  have cI : ∀ d os, Calls Try.prog 43 #[.agg #[.int .i64 pc, .int .i64 pi], .agg #[.int .i64 pc, .int .i64 0, .int .i64 pi, .int .i64 ps, .int .i64 pa, .string pl], .int .i64 0] (Go.Sort.grow (redrawn w0 d) os) fun e w'' => e = .returned (.bool true) ∧ ∃ p : Regrown, w'' = Go.Sort.grow (redrawn w0 p.d) p.os :=
    fun d os => Calls.regrown_of (is_yesB pc pi ⟨pc, 0, pi, ps, pa, pl⟩ 0 _ rfl rfl rfl)
  have HI := Lib.hid cI
  have hlt : w.heap.size < w0.heap.size := by rw [hw0]; simp
  have HB0 : Hid (Below w.heap.size w w0) := by rw [hw0]; exact (Below.refl _ _).alloc (Nat.le_refl _) _
  have HPK := Lib.hid hpk
  have H2 := Lib.hid h2'
  have H3 := Lib.hid (sl_below h3 HB0.out (Nat.le_refl _))
  have HF := Lib.hid hF
  have hle : pl.toList.isEmpty = false := by cases h : pl.toList with | nil => exact absurd h hld | cons a b => rfl
  clear h h2 h3 h4 h5 cI h2' hpk hF hld
  go_enter Try.func20, Try.ntmps20
  go_wp2_with fail
  rw [show w.alloc (.cells #[.int .i64 pc, .int .i64 0, .int .i64 pi, .int .i64 ps, .int .i64 pa, .string pl] 23) = w0 from hw0.symm]
  clear hw0
  refine wp_region_quiet_below (by kernel_rfl) (by kernel_rfl) ?_
  repeat (go_big_quiet_step (exact HI.out _ _))
  refine wpQuiet_nil ?_
  intro _ hw'
  obtain ⟨⟨dq, osq⟩, rfl⟩ := hw'
  have HB := Lib.hid (below_regrown w0 dq osq)
  clear c0 c1 p0 p1 p2 p3 p4 p5 HI
  generalize Go.Sort.grow (redrawn w0 dq) osq = w2 at *
  have h2 := below_heap HB.out H2.out (heap_lt H2.out)
  have k2 : w2.cell? ⟨g, 2, none⟩ = some (.slice ao sw.length cap) := cell_at h2 rfl
  have k3 : w2.cell? ⟨g, 3, none⟩ = some (.int .i64 so) := cell_at h2 rfl
  have q3 : w2.cell? ⟨w.heap.size, 3, none⟩ = some (.int .i64 ps) := cell_at (below_heap HB.out HPK.out hlt) rfl
  have HPKb := Lib.hid (below_heap HB.out HPK.out hlt)
  have H2b := Lib.hid h2
  have H3b := Lib.hid (sl_below H3.out HB.out (Nat.le_refl _))
  have HB2 : Hid (Below w.heap.size w w2) := HB0.out.trans (HB.out.mono (by omega))
  have hlt2 : w.heap.size < w2.heap.size := Nat.lt_of_lt_of_le hlt HB.out.size
  have a1 : IntKind.i64.wrap (so + (sw.length : Int)) = so + sw.length := IntWalk.i64_in _ (by omega)
  have a2 : IntKind.i64.wrap (so + (sw.length : Int) + 1) = so + sw.length + 1 := IntWalk.i64_in _ (by omega)
  clear h2 HB0 HB H2 H3 HPK hlt
  go_wp2_with fail
  go_quiet (fail)
  clear k2 k3 q3
  have H2c : Hid ((w2.drewN nq).heap[g]? = some (.cells (inCells ⟨pc, pi, sw, so⟩ (.slice ao sw.length cap)) 83 (0, 0))) := H2b.out
  have H3c : Hid (Sl (w2.drewN nq) (fun k => (F k ∧ k < w.heap.size) ∧ k ≠ g) 9 1 (.slice ao sw.length cap) sw.length (strCells sw)) := H3b.out.keep fun _ _ _ => rfl
  have HPKc : Hid ((w2.drewN nq).heap[w.heap.size]? = some (pkObj ⟨pc, 0, pi, ps, pa, pl⟩)) := HPKb.out
  have HB3 : Hid (Below w.heap.size w (w2.drewN nq)) := bl_drewN HB2.out nq
  have hlt3 : w.heap.size < (w2.drewN nq).heap.size := hlt2
  clear H2b H3b HB2 HPKb hlt2
  generalize w2.drewN nq = w3 at *
  by_cases hq : ps = so + sw.length + 1
  · have hqb : (ps == so + (sw.length : Int) + 1) = true := by rw [beq_iff_eq]; exact hq
    have HQ := Lib.hid hq
    have k2 : w3.cell? ⟨g, 2, none⟩ = some (.slice ao sw.length cap) := cell_at H2c.out rfl
    clear hq
    by_cases h6 : sw.length = 6
    · have h6i : (6 : Int) ≤ (sw.length : Int) := by omega
      have H6 := Lib.hid h6
      clear h6
      go_wp2_with fail
      go_ret
      exact .inl ⟨HQ.out, H6.out, rfl, ⟨HF.out, _, H2c.out, H3c.out.mono (fun _ _ h => ⟨h.1.1, h.2⟩)⟩, Chg.of_below HB3.out _ (fun i h h' => absurd h (by omega))⟩
    · have h6i : (sw.length : Int) < 6 := by omega
      have q5 : w3.cell? ⟨w.heap.size, 5, none⟩ = some (.string pl) := cell_at HPKc.out rfl
      have s2 : Sl (w3.alloc (.cells #[.string pl] 9)).drew (fun k => (F k ∧ k < w.heap.size) ∧ k ≠ g) 9 1 (.slice ao sw.length cap) sw.length (strCells sw) := H3c.out.keep fun k _ hk => Below.heap_alloc _ _ _ hk
      obtain ⟨v', w4, hrun, s4, ch4⟩ := append_str pl s2 (r := w3.heap.size) (heap_alloc_new w3 _) (by omega)
      have g4 := ch4.heap (show (w3.alloc (.cells #[.string pl] 9)).drew.heap[g]? = _ from heap_alloc_same H2c.out _) (fun hk => (own_lt s2 hk).1.2 rfl)
      have c24 : w4.cell? ⟨g, 2, none⟩ = some (.slice ao sw.length cap) := cell_at g4 rfl
      have f24 := free_at g4 2
      have f23 := free_at H2c.out 2
      have hg3 : g < w3.heap.size := by omega
      obtain ⟨ao', cap', hv', _, _⟩ := s4.shape
      subst hv'
      have HRUN := Lib.hid hrun
      have HG4 := Lib.hid g4
      have HS4 := Lib.hid s4
      have HC4 := Lib.hid ch4
      have HS2 := Lib.hid s2
      clear hrun g4 s4 ch4 s2 h6
      go_wp2_with fail
      go_region_law (refine step_append_run rfl rfl rfl rfl HRUN.out ?_)
      all_goals
        have z4 : w3.heap.size + 1 ≤ w4.heap.size := by have := HC4.out.size; simpa using this
        have I5 : InAt (w4.setCell ⟨g, 2, none⟩ (.slice ao' (sw.length + 1) cap')) (fun k => (F k ∧ k < w.heap.size) ∨ (w.heap.size ≤ k ∧ k < w4.heap.size)) g ⟨pc, pi, sw ++ [pl], so⟩ := by
          refine ⟨.inl ⟨HF.out, hg⟩, _, heap_setCell_same (i := 2) HG4.out _, ?_⟩
          refine (show Sl w4 _ 9 1 _ (sw ++ [pl]).length _ from ?_).keep fun k hk _ => Below.heap_setCell _ _ _ _ hk.2
          rw [List.length_append]
          refine HS4.out.mono ?_
          intro k hk hh
          rcases hh with ⟨⟨⟨a, b⟩, c⟩, _⟩ | c
          · exact ⟨.inl ⟨a, b⟩, c⟩
          · have e1 : k = w3.heap.size + 1 := by rw [c]; show (w3.alloc _).heap.size = _; simp
            exact ⟨.inr ⟨by omega, hk⟩, by omega⟩
        have C5 : Chg w (w4.setCell ⟨g, 2, none⟩ (.slice ao' (sw.length + 1) cap')) F := by
          refine Chg.setCell ?_ (fun _ => HF.out) _
          refine ((Chg.of_below HB3.out F (fun i h h' => absurd h (by omega))).alloc _).drew.trans HC4.out ?_
          intro k _ hk
          exact (own_lt HS2.out hk).1.1.1
        have HI5 := Lib.hid I5
        have HC5 := Lib.hid C5
        have HA := Lib.hid (ackPk_any g _ _ _ I5)
        have HZ4 := Lib.hid z4
        have HQP : Hid (¬ (ps = so + (sw.length : Int) + 1 ∧ sw.length = 6)) := by intro hh; omega
        clear I5 C5 z4 c24 f24 f23 q5 k2 h6i
        go_wp2_with fail
        refine HA.out.mono ?_
        rintro e w6 ⟨rfl, hp6, hb6⟩
        have HP6 := Lib.hid hp6
        have HB6 := Lib.hid hb6
        clear hp6 hb6
        go_wp2_with fail
        go_ret
        have z6 := HB6.out.size
        simp only [World.size_setCell] at z6
        have hz4 := HZ4.out
        refine .inr ⟨HQP.out, w4.heap.size, by simp, by have := HP6.out; simp only [World.size_setCell] at this; exact this, by omega, ?_, ?_⟩
        · simp only
          rw [if_pos HQ.out]
          refine (HI5.out.chg (Chg.of_below HB6.out (fun k => w4.heap.size ≤ k) (fun i _ h => by simpa using h)) ?_).mono ?_
          · intro k hk
            rcases hk with ⟨_, hk⟩ | ⟨_, hk⟩ <;> omega
          · intro k _ hh
            rcases hh with hh | hh
            · exact .inl hh
            · exact .inr ⟨hh.1, by omega⟩
        · exact HC5.out.trans (Chg.of_below HB6.out (fun _ => False) (fun i h h' => absurd h (by omega))) (fun _ _ h => h.elim)
  · have hqb : (ps == so + (sw.length : Int) + 1) = false := by rw [beq_eq_false_iff_ne]; exact hq
    have I3 : InAt w3 F g ⟨pc, pi, sw, so⟩ := ⟨HF.out, _, H2c.out, H3c.out.mono (fun _ _ h => ⟨h.1.1, h.2⟩)⟩
    have HA := Lib.hid (ackPk_any g _ _ _ I3)
    have I3' : InAt w3 (fun k => (F k ∧ k < w.heap.size) ∨ (w.heap.size ≤ k ∧ k < w3.heap.size)) g ⟨pc, pi, sw, so⟩ := ⟨.inl ⟨HF.out, hg⟩, _, H2c.out, H3c.out.mono (fun _ _ h => ⟨.inl h.1, h.2⟩)⟩
    have HI3 := Lib.hid I3'
    have HQ := Lib.hid hq
    clear hq I3 I3'
    go_wp2_with fail
    refine HA.out.mono ?_
    rintro e w6 ⟨rfl, hp6, hb6⟩
    have HP6 := Lib.hid hp6
    have HB6 := Lib.hid hb6
    clear hp6 hb6
    go_wp2_with fail
    go_ret
    have z6 := HB6.out.size
    refine .inr ⟨fun h => HQ.out h.1, w3.heap.size, rfl, HP6.out, by omega, ?_, ?_⟩
    · simp only
      rw [if_neg HQ.out]
      refine (HI3.out.chg (Chg.of_below HB6.out (fun k => w3.heap.size ≤ k) (fun i _ h => h)) ?_).mono ?_
      · intro k hk
        rcases hk with ⟨_, hk⟩ | ⟨_, hk⟩ <;> omega
      · intro k _ hh
        rcases hh with hh | hh
        · exact .inl hh
        · exact .inr ⟨hh.1, by omega⟩
    · exact (Chg.of_below HB3.out F (fun i h h' => absurd h (by omega))).trans (Chg.of_below HB6.out (fun _ => False) (fun i h h' => absurd h (by omega))) (fun _ _ h => h.elim)
end Go.Proofs.Ytecpgkcoehnpbaa
