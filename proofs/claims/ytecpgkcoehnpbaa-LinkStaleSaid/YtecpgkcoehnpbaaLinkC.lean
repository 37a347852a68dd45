/- Layer 17: the walk of Out.Send. -/
import Derived.Test.YtecpgkcoehnpbaaLinkB
namespace Go.Proofs.Ytecpgkcoehnpbaa
open Go.RowKit

theorem under_str : Try.prog.underlying 9 = some .string := by kernel_rfl
theorem under_strs : Try.prog.underlying 69 = some (.slice 9) := by kernel_rfl
theorem Try.infoStr : (Try.prog.info? 9).map (fun i => (i.zero, i.size, i.bytes)) = some (some (.string ByteArray.empty), 1, 16) := by kernel_rfl

theorem strCells_append (l : List ByteArray) (x : ByteArray) : strCells (l ++ [x]) = strCells l ++ [.string x] := by simp [strCells]
theorem strCells_length (l : List ByteArray) : (strCells l).length = l.length := by simp [strCells]

/-- append(v, x), v a list of texts of the call's own, x just laid -/
theorem append_str {w : World} {F : Nat → Prop} {v : Value} {l : List ByteArray} (x : ByteArray) {r : Nat} (h : Sl w F 9 1 v l.length (strCells l)) (hr : w.heap[r]? = some (.cells #[.string x] 9)) (hl : l.length ≤ 1000000) :
    ∃ v' w', Sem.run Try.prog (Builtin.append_ #[69, 69] 69 #[v, .slice (some { block := r, off := 0 }) 1 1]) w = .ok v' w' ∧
      Sl w' (fun k => (F k ∧ k < w.heap.size) ∨ k = w.heap.size) 9 1 v' (l.length + 1) (strCells (l ++ [x])) ∧ Chg w w' (fun k => v.ownBlock = some k) := by
  obtain ⟨i0, hi, hz0, hz1, hz2⟩ := info_parts Try.infoStr
  have := run_append_sl (P := Try.prog) 69 69 9 i0 (.string ByteArray.empty) 1 16 under_strs hi hz0 hz1 hz2 rfl h (News.laid (m := 1) (c := 1) hr rfl (by intro u hu; simp at hu; subst hu; rfl)) (by unfold maxLen; omega) (by omega)
  rw [strCells_append]
  exact this

theorem own_lt {w : World} {F : Nat → Prop} {e : TypeId} {size n : Nat} {v : Value} {xs : List Value} (h : Sl w F e size v n xs) {k : Nat} (hk : v.ownBlock = some k) : F k ∧ k < w.heap.size := by
  rcases h.2 with ⟨rfl, _⟩ | ⟨g, off, cap, cur, rfl, h2, h3, _⟩
  · simp [Value.ownBlock] at hk
  · simp [Value.ownBlock] at hk
    subst hk
    exact ⟨h2, heap_lt h3⟩

set_option maxRecDepth 100000 in
set_option maxHeartbeats 1600000 in
theorem send_ok (g : Nat) (s : OutSt) (F : Nat → Prop) (w : World) (ld : ByteArray) (h : OutAt w F g s) (hld : ld.toList ≠ []) (h6 : s.waits.length < 6) (hb1 : 0 ≤ s.last) (hb2 : s.last ≤ 100000) :
    Calls Try.prog 13 #[.pointer (some ⟨g, 0, none⟩), .string ld] w fun e w' => ∃ r, e = .returned (.tuple #[.slice (some ⟨r, 0, none⟩) 1 1, .int .i64 0]) ∧ w'.heap[r]? = some (pkObj ⟨s.ch, 0, s.inc, s.last + 1, 0, ld⟩) ∧ w.heap.size ≤ r ∧
      OutAt w' (fun k => (F k ∧ k < w.heap.size) ∨ (w.heap.size ≤ k ∧ k ≠ r)) g ⟨s.ch, s.inc, s.waits ++ [ld], s.last + 1, s.ticks⟩ ∧ Chg w w' F := by
  have hF := h.1
  have hfree := free_any g s F w h (by omega)
  have h' := h.mono (G := fun k => F k ∧ k < w.heap.size) (fun k a b => ⟨b, a⟩)
  obtain ⟨ao, cap, h4, h5, h2, h3⟩ := h'.cells
  have hg : g < w.heap.size := heap_lt h2
  obtain ⟨sc, si, sw, sl, st⟩ := s
  simp only at *
  have c2 : w.cell? ⟨g, 2, none⟩ = some (.slice ao sw.length cap) := cell_at h2 rfl
  have c3 : w.cell? ⟨g, 3, none⟩ = some (.int .i64 sl) := cell_at h2 rfl
  have f2 := free_at h2 2
  have f3 := free_at h2 3
  -- the worlds on the way
  have g1 := heap_setCell_same (i := 3) h2 (.int .i64 (sl + 1))
  have s1 : Sl (w.setCell ⟨g, 3, none⟩ (.int .i64 (sl + 1))) (fun k => (F k ∧ k < w.heap.size) ∧ k ≠ g) 9 1 (.slice ao sw.length cap) sw.length (strCells sw) := h3.keep fun k hk _ => Below.heap_setCell _ _ _ _ hk.2
  have z1 : (w.setCell ⟨g, 3, none⟩ (.int .i64 (sl + 1))).heap.size = w.heap.size := by simp
  obtain ⟨w1, hw1⟩ : ∃ w1, w1 = w.setCell ⟨g, 3, none⟩ (.int .i64 (sl + 1)) := ⟨_, rfl⟩
  rw [← hw1] at g1 s1 z1
  have C1 : Chg w w1 F := by rw [hw1]; exact (Chg.refl w F).setCell (fun _ => hF) _
  have s2 : Sl (w1.alloc (.cells #[.string ld] 9)) (fun k => (F k ∧ k < w.heap.size) ∧ k ≠ g) 9 1 (.slice ao sw.length cap) sw.length (strCells sw) := s1.keep fun k _ hk => Below.heap_alloc _ _ _ hk
  obtain ⟨v', w3, hrun, s3, ch3⟩ := append_str ld s2 (heap_alloc_new w1 _) (by omega)
  have z2 : (w1.alloc (.cells #[.string ld] 9)).heap.size = w.heap.size + 1 := by simp [z1]
  have z3 : w.heap.size + 1 ≤ w3.heap.size := by rw [← z2]; exact ch3.size
  have g3 := ch3.heap (heap_alloc_same g1 _) (fun hk => (own_lt s2 hk).1.2 rfl)
  have c23 : w3.cell? ⟨g, 2, none⟩ = some (.slice ao sw.length cap) := cell_at g3 rfl
  have f23 := free_at g3 2
  have g4 := heap_setCell_same (i := 2) g3 v'
  have s4 : Sl (w3.setCell ⟨g, 2, none⟩ v') (fun k => ((F k ∧ k < w.heap.size) ∨ k = w.heap.size + 1) ∧ k ≠ g) 9 1 v' (sw.length + 1) (strCells (sw ++ [ld])) := by
    refine (s3.mono (G := fun k => ((F k ∧ k < w.heap.size) ∨ k = w.heap.size + 1) ∧ k ≠ g) ?_).keep fun k hk _ => Below.heap_setCell _ _ _ _ hk.2
    intro k hk hh
    rw [z2] at hh
    rcases hh with ⟨⟨⟨a, b⟩, c⟩, _⟩ | c
    · exact ⟨.inl ⟨a, b⟩, c⟩
    · exact ⟨.inr c, by omega⟩
  have C4 : Chg w (w3.setCell ⟨g, 2, none⟩ v') F := by
    refine ((C1.alloc _).trans ch3 ?_).setCell (fun _ => hF) _
    intro k _ hk
    exact (own_lt s2 hk).1.1.1
  have O4 : OutAt (w3.setCell ⟨g, 2, none⟩ v') (fun k => (F k ∧ k < w.heap.size) ∨ k = w.heap.size + 1) g ⟨sc, si, sw ++ [ld], sl + 1, st⟩ :=
    ⟨.inl ⟨hF, hg⟩, v', g4, by simpa using s4⟩
  have z4 : w.heap.size + 1 ≤ (w3.setCell ⟨g, 2, none⟩ v').heap.size := by simpa using z3
  have hlen : sw.length ≤ 5 := by omega
  have hpk := packet_any g ⟨sc, si, sw ++ [ld], sl + 1, st⟩ _ _ sw.length O4 (by simp) (by simp; omega) (by simp; omega) (by simp; omega)
  have e1 : sl + 1 - ((sw ++ [ld]).length : Int) + 1 + (sw.length : Int) = sl + 1 := by simp; omega
  have e2 : (sw ++ [ld]).getD sw.length ByteArray.empty = ld := by simp [List.getD]
  simp only [e1, e2] at hpk
  have HPK := Lib.hid hpk
  have HFREE := Lib.hid hfree
  have O4' := O4.mono (G := fun k => (F k ∧ k < w.heap.size) ∨ (w.heap.size ≤ k ∧ k < (w3.setCell ⟨g, 2, none⟩ v').heap.size)) (fun k hk hh => by rcases hh with hh | hh; exact .inl hh; exact .inr ⟨by omega, hk⟩)
  have HO4 := Lib.hid O4'
  have HC4 := Lib.hid C4
  have hv : ∃ ao' cap', v' = .slice ao' (sw.length + 1) cap' := by obtain ⟨a, b, c, _⟩ := s4.shape; exact ⟨a, b, c⟩
  obtain ⟨ao', cap', rfl⟩ := hv
  have c24 : (w3.setCell ⟨g, 2, none⟩ (.slice ao' (sw.length + 1) cap')).cell? ⟨g, 2, none⟩ = some (.slice ao' (sw.length + 1) cap') := cell_at g4 (by simp [outCells])
  have hle : ld.toList.isEmpty = false := by cases h : ld.toList with | nil => exact absurd h hld | cons a b => rfl
  rw [z1, hw1] at hrun
  have HRUN := Lib.hid hrun
  clear hrun
  have Z4 := Lib.hid z4
  clear hw1 h h' h2 h3 g1 s1 z1 s2 s3 ch3 z2 z3 g3 g4 s4 C1 C4 O4 O4' z4 hpk hfree e1 e2 h4 h5 hF hg hld
  go_enter Try.func13, Try.ntmps13
  go_wp2_with fail
  refine HFREE.out.mono ?_
  rintro e w' ⟨rfl, rfl⟩
  have h60 : ((6 : Int) - sw.length == 0) = false := by rw [beq_eq_false_iff_ne]; omega
  go_wp2_with (at_builtin; refine wpList_append_run rfl rfl rfl rfl HRUN.out ?_)
  refine HPK.out.mono ?_
  rintro e w5 ⟨rfl, hb5⟩
  have HB5 := Lib.hid hb5
  clear hb5
  go_wp2_with fail
  go_ret2
  have z5 := HB5.out.size
  have z4 := Z4.out
  refine ⟨w5.heap.size, rfl, heap_alloc_new w5 _, by omega, ?_, ?_⟩
  · have hs5 := HO4.out.chg (Chg.of_below HB5.out (fun k => (w3.setCell { block := g, off := 2 } (Value.slice ao' (sw.length + 1) cap')).heap.size ≤ k) (fun i _ h => h)) (S := fun k => (w3.setCell { block := g, off := 2 } (Value.slice ao' (sw.length + 1) cap')).heap.size ≤ k) ?_
    · refine (hs5.chg ((Chg.refl w5 (fun _ => False)).alloc _) (fun _ _ h => h)).mono ?_
      intro k hk hh
      rcases hh with hh | hh
      · exact .inl hh
      · exact .inr ⟨by omega, by omega⟩
    · intro k hk
      rcases hk with ⟨_, hk⟩ | ⟨_, hk⟩ <;> omega
  · refine (HC4.out.trans (Chg.of_below HB5.out (fun _ => False) (fun i h h' => absurd h (by omega))) (fun _ _ h => h.elim)).alloc _
end Go.Proofs.Ytecpgkcoehnpbaa
