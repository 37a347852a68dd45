/- Layer 17: the walk of Out.Tick. -/
import Derived.Test.YtecpgkcoehnpbaaLinkF
namespace Go.Proofs.Ytecpgkcoehnpbaa
open Go.RowKit

theorem under_pks : Try.prog.underlying 28 = some (.slice 23) := by kernel_rfl
theorem Try.infoPk : (Try.prog.info? 23).map (fun i => (i.zero, i.size, i.bytes)) = some (some (.agg #[.int .i64 0, .int .i64 0, .int .i64 0, .int .i64 0, .int .i64 0, .string ByteArray.empty]), 6, 56) := by kernel_rfl

def pksCells (l : List Pk) : List Value := l.flatMap pkCells
theorem pksCells_append (a b : List Pk) : pksCells (a ++ b) = pksCells a ++ pksCells b := by simp [pksCells]
theorem pksCells_length (l : List Pk) : (pksCells l).length = l.length * 6 := by
  induction l with
  | nil => rfl
  | cons p l ih => simp only [pksCells, List.flatMap_cons, List.length_append] at *; rw [ih]; simp [pkCells]; omega
theorem pks_one (l : List Pk) : ∀ u ∈ pksCells l, u.oneCell' = true := by
  intro u hu
  obtain ⟨p, _, h⟩ := List.mem_flatMap.1 hu
  simp only [pkCells, List.mem_cons, List.not_mem_nil, or_false] at h
  rcases h with h | h | h | h | h | h <;> subst h <;> rfl

/-- append(v, x): packets of the call's own, some more handed in -/
theorem append_pks {w : World} {F : Nat → Prop} {v x : Value} {l l2 : List Pk} (h : Sl w F 23 6 v l.length (pksCells l)) (hx : News w 6 x l2.length (pksCells l2)) (hl : l.length + l2.length ≤ 1000000) :
    ∃ v' w', Sem.run Try.prog (Builtin.append_ #[28, 28] 28 #[v, x]) w = .ok v' w' ∧
      Sl w' (fun k => (F k ∧ k < w.heap.size) ∨ k = w.heap.size) 23 6 v' (l ++ l2).length (pksCells (l ++ l2)) ∧ Chg w w' (fun k => v.ownBlock = some k) := by
  obtain ⟨i0, hi, hz0, hz1, hz2⟩ := info_parts Try.infoPk
  have := run_append_sl (P := Try.prog) 28 28 23 i0 _ 6 56 under_pks hi hz0 hz1 hz2 rfl h hx (by unfold maxLen; omega) (by omega)
  rw [pksCells_append, List.length_append]
  exact this
theorem News.pk {w : World} {r : Nat} {c : Nat} (p : Pk) (hr : w.heap[r]? = some (pkObj p)) : News w 6 (.slice (some ⟨r, 0, none⟩) 1 c) 1 (pksCells [p]) := by
  have := News.laid (size := 6) (m := 1) (c := c) hr rfl (by intro u hu; exact pks_one [p] u (by simpa [pksCells, pkCells] using hu))
  simpa [pksCells, pkCells] using this

/-- the packet of the i-th load that waits -/
def outPk (s : OutSt) (i : Nat) : Pk := ⟨s.ch, 0, s.inc, s.last - s.waits.length + 1 + i, 0, s.waits.getD i ByteArray.empty⟩
def outPks (s : OutSt) (n : Nat) : List Pk := (List.range n).map (outPk s)
theorem outPks_succ (s : OutSt) (n : Nat) : outPks s (n + 1) = outPks s n ++ [outPk s n] := by simp [outPks, List.range_succ]
theorem outPks_length (s : OutSt) (n : Nat) : (outPks s n).length = n := by simp [outPks]

set_option maxRecDepth 100000 in
set_option maxHeartbeats 800000 in
theorem tick_none (g : Nat) (s : OutSt) (F : Nat → Prop) (w : World) (h : OutAt w F g s) (h0 : s.waits = []) :
    Calls Try.prog 16 #[.pointer (some ⟨g, 0, none⟩)] w fun e w' => e = .returned (.slice none 0 0) ∧ w = w' := by
  obtain ⟨ao, cap, h4, h5, h2, h3⟩ := h.cells
  obtain ⟨sc, si, sw, sl, st⟩ := s
  simp only at *
  subst h0
  have c2 : w.cell? ⟨g, 2, none⟩ = some (.slice ao 0 cap) := cell_at h2 rfl
  clear h h2 h3
  go_enter Try.func16, Try.ntmps16
  go_wp2_with fail
  go_ret
  exact ⟨rfl, rfl⟩

theorem tick_store {w : World} {F : Nat → Prop} {g : Nat} {sc si sl st : Int} {sw : List ByteArray} (h : OutAt w F g ⟨sc, si, sw, sl, st⟩) :
    OutAt (w.setCell ⟨g, 4, none⟩ (.int .i64 (st + 1))) F g ⟨sc, si, sw, sl, st + 1⟩ ∧ Chg w (w.setCell ⟨g, 4, none⟩ (.int .i64 (st + 1))) F := by
  obtain ⟨hF, v, h2, h3⟩ := h
  exact ⟨⟨hF, v, heap_setCell_same (i := 4) h2 _, h3.keep fun k hk _ => Below.heap_setCell _ _ _ _ hk.2⟩, (Chg.refl w F).setCell (fun _ => hF) _⟩

set_option maxRecDepth 100000 in
set_option maxHeartbeats 800000 in
theorem tick_wait (g : Nat) (s : OutSt) (F : Nat → Prop) (w : World) (h : OutAt w F g s) (h0 : 0 < s.waits.length) (ht1 : 0 ≤ s.ticks) (ht2 : s.ticks ≤ 100000) (h4 : (s.ticks + 1) % 4 ≠ 0) :
    Calls Try.prog 16 #[.pointer (some ⟨g, 0, none⟩)] w fun e w' => e = .returned (.slice none 0 0) ∧ OutAt w' F g ⟨s.ch, s.inc, s.waits, s.last, s.ticks + 1⟩ ∧ Chg w w' F := by
  obtain ⟨ao, cap, _, _, h2, h3⟩ := h.cells
  obtain ⟨sc, si, sw, sl, st⟩ := s
  simp only at *
  have HT := Lib.hid (tick_store h)
  have c2 : w.cell? ⟨g, 2, none⟩ = some (.slice ao sw.length cap) := cell_at h2 rfl
  have c4 : w.cell? ⟨g, 4, none⟩ = some (.int .i64 st) := cell_at h2 rfl
  have f4 := free_at h2 4
  have hne : (((sw.length : Nat) : Int) == 0) = false := by rw [beq_eq_false_iff_ne]; omega
  have h4b : ((st + 1) % 4 != 0) = true := by rw [bne_iff_ne]; exact h4
  clear h h2 h3 h4
  generalize sw.length = n at *
  go_enter Try.func16, Try.ntmps16
  go_wp2_with fail
  go_ret
  exact ⟨rfl, HT.out.1, HT.out.2⟩

set_option maxRecDepth 100000 in
set_option maxHeartbeats 3200000 in
theorem tick_tell (g : Nat) (s : OutSt) (F : Nat → Prop) (w : World) (h : OutAt w F g s) (h0 : 0 < s.waits.length) (hn : s.waits.length ≤ 1000) (ht1 : 0 ≤ s.ticks) (ht2 : s.ticks ≤ 100000) (hl1 : 0 ≤ s.last) (hl2 : s.last ≤ 100000) (h4 : (s.ticks + 1) % 4 = 0) :
    Calls Try.prog 16 #[.pointer (some ⟨g, 0, none⟩)] w fun e w' => ∃ v, e = .returned v ∧ Sl w' (fun k => w.heap.size ≤ k) 23 6 v s.waits.length (pksCells (outPks s s.waits.length)) ∧
      OutAt w' (fun k => F k ∧ k < w.heap.size) g ⟨s.ch, s.inc, s.waits, s.last, s.ticks + 1⟩ ∧ Chg w w' F := by
  have h := h.mono (G := fun k => F k ∧ k < w.heap.size) (fun k a b => ⟨b, a⟩)
  obtain ⟨ao, cap, _, hcm, h2, h3⟩ := h.cells
  obtain ⟨sc, si, sw, sl, st⟩ := s
  simp only at *
  have hg : g < w.heap.size := heap_lt h2
  have ht := tick_store h
  have c2 : w.cell? ⟨g, 2, none⟩ = some (.slice ao sw.length cap) := cell_at h2 rfl
  have c4 : w.cell? ⟨g, 4, none⟩ = some (.int .i64 st) := cell_at h2 rfl
  have f4 := free_at h2 4
  have hne : (((sw.length : Nat) : Int) == 0) = false := by rw [beq_eq_false_iff_ne]; omega
  have h4b : ((st + 1) % 4 != 0) = false := by rw [bne_eq_false_iff_eq]; exact h4
  have HPS : Hid (∀ i, outPk ⟨sc, si, sw, sl, st + 1⟩ i = outPk ⟨sc, si, sw, sl, st⟩ i) := fun i => rfl
  have HT := Lib.hid ht
  have hz : (w.setCell ⟨g, 4, none⟩ (.int .i64 (st + 1))).heap.size = w.heap.size := by simp
  have HZ := Lib.hid hz
  have hcc : sw.length ≤ cap := by assumption
  clear h h2 h3 h4 ht hz
  go_enter Try.func16, Try.ntmps16
  go_wp2_with fail
  go_loopw [3, 33] (fun v i wr => ∃ j : Nat, j ≤ sw.length ∧ i = .int .i64 j ∧ Hid (Sl wr (fun k => w.heap.size ≤ k) 23 6 v j (pksCells (outPks ⟨sc, si, sw, sl, st⟩ j))) ∧ Hid (Below w.heap.size (w.setCell ⟨g, 4, none⟩ (.int .i64 (st + 1))) wr)) (fun _ i _ => sw.length - (intOf i).toNat)
  case atStart => exact ⟨0, by omega, rfl, Sl.nil _ _ _ _, Below.refl _ _⟩
  case round =>
    obtain ⟨j, hj, rfl, HS, HB⟩ := hrel
    have O1 : OutAt wr (fun k => F k ∧ k < w.heap.size) g ⟨sc, si, sw, sl, st + 1⟩ := HT.out.1.chg (Chg.of_below HB.out (fun k => w.heap.size ≤ k) (fun i _ h => h)) (fun k hk => by omega)
    have HO1 := Lib.hid O1
    have zr : w.heap.size ≤ wr.heap.size := by have := HB.out.size; rw [HZ.out] at this; exact this
    by_cases hlt : j < sw.length
    · have hpk := packet_any g ⟨sc, si, sw, sl, st + 1⟩ _ wr j O1 hlt (by simp; omega) (by simp; omega) (by simp; omega)
      obtain ⟨ld, hld⟩ : ∃ ld, ld = sw.getD j ByteArray.empty := ⟨_, rfl⟩
      simp only [← hld] at hpk
      have HPK := Lib.hid hpk
      have HLD := Lib.hid hld
      clear O1 hpk hld
      go_wp2_with fail
      refine HPK.out.mono ?_
      rintro e w5 ⟨rfl, hb5⟩
      have z5 : w.heap.size ≤ w5.heap.size := Nat.le_trans zr hb5.size
      have HB5 := Lib.hid hb5
      have s5 : Sl (w5.alloc (pkObj (outPk ⟨sc, si, sw, sl, st⟩ j))) (fun k => w.heap.size ≤ k) 23 6 u3 (outPks ⟨sc, si, sw, sl, st⟩ j).length (pksCells (outPks ⟨sc, si, sw, sl, st⟩ j)) := by
        rw [outPks_length]
        exact (HS.out.keep fun k _ hk => hb5.block k hk).keep fun k _ hk => Below.heap_alloc _ _ _ hk
      obtain ⟨v', w6, hrun, s6, ch6⟩ := append_pks s5 (News.pk (c := 1) (outPk ⟨sc, si, sw, sl, st⟩ j) (heap_alloc_new w5 _)) (by rw [outPks_length]; simp; omega)
      rw [← outPks_succ, outPks_length] at s6
      have HRUN : Hid (Sem.run Try.prog (Builtin.append_ #[28, 28] 28 #[u3, .slice (some { block := w5.heap.size, off := 0 }) 1 1]) (w5.alloc (.cells #[.int .i64 sc, .int .i64 0, .int .i64 si, .int .i64 (sl - (sw.length : Int) + 1 + j), .int .i64 0, .string ld] 23)) = .ok v' w6) := by rw [HLD.out]; exact hrun
      have HS6 : Hid (Sl w6 (fun k => w.heap.size ≤ k) 23 6 v' (j + 1) (pksCells (outPks ⟨sc, si, sw, sl, st⟩ (j + 1)))) := by
        refine s6.mono ?_
        intro k _ hh
        rcases hh with hh | hh
        · exact hh.1
        · rw [hh]; simp; omega
      have HB6 : Hid (Below w.heap.size (w.setCell ⟨g, 4, none⟩ (.int .i64 (st + 1))) w6) := by
        have z1 := HZ.out
        refine HB.out.trans ((hb5.mono zr).trans ?_)
        have c1 := ((Chg.refl w5 (fun k => w.heap.size ≤ k)).alloc (pkObj (outPk ⟨sc, si, sw, sl, st⟩ j))).trans ch6 (fun k _ hk => (own_lt s5 hk).1)
        exact c1.below z5 (fun i hi => by omega)
      clear hrun s5 s6 ch6 hb5
      go_wp2_with (at_builtin; refine wpList_append_run rfl rfl rfl rfl HRUN.out ?_)
      go_roundw
      case rel => exact ⟨j + 1, by omega, by go_num, HS6.out, HB6.out⟩
      case measure => simp [intOf]; omega
    · obtain rfl : j = sw.length := by omega
      clear O1
      go_wp2_with fail
      go_ret
      refine ⟨_, rfl, HS.out, HO1.out, ?_⟩
      exact (HT.out.2.mono (fun k _ h => h.1)).trans (Chg.of_below HB.out F (fun i h h' => by rw [HZ.out] at h; omega)) (fun _ _ h => h)
end Go.Proofs.Ytecpgkcoehnpbaa
