/- Layer 14: the walks of a disk's small functions. -/
import Derived.Test.YtpnmhpkpkejdiaaDiskA
import Derived.Laws.Concat
namespace Go.Proofs.Ytpnmhpkpkejdiaa
open Go.RowKit

theorem ret_str {a b : ByteArray} (h : a = b) : Ending.returned (.string a) = .returned (.string b) := by rw [h]

set_option maxRecDepth 100000 in
set_option maxHeartbeats 1600000 in
theorem all_any (g : Nat) (s : DSt) (F : Nat → Prop) (w : World) (h : DiskAt w F g s) (hl : s.all.length ≤ 140737488355328) (hp : s.pieces.length ≤ 1000000) :
    Calls Try.prog 60 #[.pointer (some ⟨g, 0, none⟩)] w fun e w' => e = .returned (.string ⟨s.all.toArray⟩) ∧ Below w.heap.size w w' := by
  obtain ⟨ao, cap, h2, hj⟩ := disk_join g s F w h hl hp
  have c2 := rcell (i := 2) (.string s.lasts) h2 rfl
  have c3 := rcell (i := 3) (.slice ao s.pieces.length cap) h2 rfl
  have cJ : ∀ d os, Calls Try.prog 65 #[.slice ao s.pieces.length cap, .string ByteArray.empty] (Go.Sort.grow (redrawn w d) os) fun e w'' => e = .returned (.string ⟨s.tail.toArray⟩) ∧ ∃ p : Regrown, w'' = Go.Sort.grow (redrawn w p.d) p.os :=
    fun d os => Calls.regrown_of (hj _ (below_regrown w d os))
  have HJ := Lib.hid cJ
  have hall : (s.lasts ++ ⟨s.tail.toArray⟩ : ByteArray) = ⟨s.all.toArray⟩ := by
    apply ByteArray.ext
    simp [DSt.all]
  have hadd : ∀ w0 : World, Sem.run Try.prog (Op.stringOp .add s.lasts ⟨s.tail.toArray⟩) w0 = .ok (.string ⟨s.all.toArray⟩) w0 := fun w0 => by
    have e : s.all.length = s.lasts.data.toList.length + s.tail.length := List.length_append
    have e1 : s.lasts.size = s.lasts.data.toList.length := Array.length_toList.symm
    have e2 : (⟨s.tail.toArray⟩ : ByteArray).size = s.tail.length := List.size_toArray
    have := run_string_add_sum (P := Try.prog) w0 s.lasts ⟨s.tail.toArray⟩ (by omega)
    rw [hall] at this
    exact this
  clear h h2 hj cJ hl hall
  go_enter Try.func60, Try.ntmps60
  go_wp2_with fail
  refine wp_region_quiet_below (by kernel_rfl) (by kernel_rfl) ?_
  repeat (go_big_quiet_step (exact HJ.out _ _))
  refine wpQuiet_nil ?_
  intro _ hw'
  obtain ⟨⟨dq, osq⟩, rfl⟩ := hw'
  have HB := Lib.hid (below_regrown w dq osq)
  clear c2 c3 HJ
  generalize Go.Sort.grow (redrawn w dq) osq = w2 at *
  go_wp2_with fail
  go_ret
  exact ⟨rfl, HB.out⟩

theorem size_all (s : DSt) : (⟨s.all.toArray⟩ : ByteArray).size = s.all.length := List.size_toArray
set_option maxRecDepth 100000 in
set_option maxHeartbeats 800000 in
theorem len_any (g : Nat) (s : DSt) (F : Nat → Prop) (w : World) (h : DiskAt w F g s) (hl : s.all.length ≤ 100000000) (hp : s.pieces.length ≤ 1000000) :
    Calls Try.prog 28 #[.pointer (some ⟨g, 0, none⟩)] w fun e w' => e = .returned (.int .i64 (s.all.length : Nat)) ∧ Below w.heap.size w w' := by
  have HA := Lib.hid (all_any g s F w h (by omega) hp)
  have hs := size_all s
  clear h
  generalize (⟨s.all.toArray⟩ : ByteArray) = x at *
  generalize s.all.length = n at *
  have HS := Lib.hid hs
  have hx : x.size ≤ 100000000 := by omega
  clear hs
  go_enter Try.func28, Try.ntmps28
  go_wp2_with fail
  refine HA.out.mono ?_
  rintro e w1 ⟨rfl, hb⟩
  have HB := Lib.hid hb
  clear hb
  go_wp2_with fail
  go_ret
  exact ⟨by rw [HS.out]; rfl, HB.out⟩
set_option maxRecDepth 100000 in
set_option maxHeartbeats 800000 in
theorem lasts_any (g : Nat) (s : DSt) (F : Nat → Prop) (w : World) (h : DiskAt w F g s) :
    Calls Try.prog 29 #[.pointer (some ⟨g, 0, none⟩)] w fun e w' => e = .returned (.int .i64 (s.lasts.size : Nat)) ∧ w = w' := by
  obtain ⟨ao, cap, _, _, h2, _⟩ := h.cells
  have c2 : w.cell? ⟨g, 2, none⟩ = some (.string s.lasts) := cell_at h2 rfl
  clear h h2
  go_enter Try.func29, Try.ntmps29
  go_wp2_with fail
  go_ret
  exact ⟨rfl, rfl⟩
set_option maxRecDepth 100000 in
set_option maxHeartbeats 800000 in
theorem down_any (g : Nat) (s : DSt) (F : Nat → Prop) (w : World) (h : DiskAt w F g s) :
    Calls Try.prog 34 #[.pointer (some ⟨g, 0, none⟩)] w fun e w' => e = .returned (.bool s.down) ∧ w = w' := by
  obtain ⟨ao, cap, _, _, h2, _⟩ := h.cells
  have c1 : w.cell? ⟨g, 1, none⟩ = some (.bool s.down) := cell_at h2 rfl
  clear h h2
  go_enter Try.func34, Try.ntmps34
  go_wp2_with fail
  go_ret
  exact ⟨rfl, rfl⟩
set_option maxRecDepth 100000 in
set_option maxHeartbeats 800000 in
theorem wrong_any (g : Nat) (s : DSt) (F : Nat → Prop) (w : World) (h : DiskAt w F g s) :
    Calls Try.prog 58 #[.pointer (some ⟨g, 0, none⟩)] w fun e w' => e = .returned (.int .i64 (if s.down then 8 else 0)) ∧ w = w' := by
  obtain ⟨ao, cap, _, _, h2, _⟩ := h.cells
  have c1 : w.cell? ⟨g, 1, none⟩ = some (.bool s.down) := cell_at h2 rfl
  clear h h2
  generalize s.down = d at *
  cases d with
  | true =>
    go_enter Try.func58, Try.ntmps58
    go_wp2_with fail
    go_ret
    exact ⟨rfl, rfl⟩
  | false =>
    go_enter Try.func58, Try.ntmps58
    go_wp2_with fail
    go_ret
    exact ⟨rfl, rfl⟩
set_option maxRecDepth 100000 in
set_option maxHeartbeats 800000 in
theorem room_any (g : Nat) (s : DSt) (F : Nat → Prop) (w : World) (h : DiskAt w F g s) (hl : s.all.length ≤ 100000000) (hp : s.pieces.length ≤ 1000000) (hc0 : 0 ≤ s.cap) (hc1 : s.cap ≤ 16777216) :
    Calls Try.prog 25 #[.pointer (some ⟨g, 0, none⟩)] w fun e w' => e = .returned (.int .i64 (s.cap - (s.all.length : Nat))) ∧ Below w.heap.size w w' := by
  obtain ⟨ao, cap, _, _, h2, _⟩ := h.cells
  have c4 := rcell (i := 4) (.int .i64 s.cap) h2 rfl
  have cL : ∀ d os, Calls Try.prog 28 #[.pointer (some ⟨g, 0, none⟩)] (Go.Sort.grow (redrawn w d) os) fun e w'' => e = .returned (.int .i64 (s.all.length : Nat)) ∧ ∃ p : Regrown, w'' = Go.Sort.grow (redrawn w p.d) p.os :=
    fun d os => Calls.regrown_of (len_any g s F _ (h.below (below_regrown w d os) (Nat.le_refl _)) hl hp)
  have HL := Lib.hid cL
  have e1 : IntKind.i64.wrap (s.cap - (s.all.length : Int)) = s.cap - (s.all.length : Int) := IntWalk.i64_in _ (by omega)
  clear h h2 cL
  generalize s.all.length = n at *
  go_enter Try.func25, Try.ntmps25
  go_wp2_with fail
  refine wp_region_quiet_below (by kernel_rfl) (by kernel_rfl) ?_
  repeat (go_big_quiet_step (exact HL.out _ _))
  refine wpQuiet_nil ?_
  intro _ hw'
  obtain ⟨⟨dq, osq⟩, rfl⟩ := hw'
  have HB := Lib.hid (below_regrown w dq osq)
  clear c4 HL
  generalize Go.Sort.grow (redrawn w dq) osq = w2 at *
  go_wp2_with fail
  go_ret
  exact ⟨rfl, HB.out⟩
set_option maxRecDepth 100000 in
set_option maxHeartbeats 800000 in
theorem read_down (g : Nat) (s : DSt) (F : Nat → Prop) (w : World) (h : DiskAt w F g s) (hd : s.down = true) :
    Calls Try.prog 27 #[.pointer (some ⟨g, 0, none⟩)] w fun e w' => e = .returned (.tuple #[.string ByteArray.empty, .int .i64 8]) ∧ w = w' := by
  have hw := wrong_any g s F w h
  rw [hd] at hw
  have HW := Lib.hid hw
  clear hw h hd
  go_enter Try.func27, Try.ntmps27
  go_wp2_with fail
  refine HW.out.mono ?_
  rintro e w1 ⟨rfl, rfl⟩
  go_wp2_with fail
  go_ret2
  exact ⟨rfl, rfl⟩
set_option maxRecDepth 100000 in
set_option maxHeartbeats 800000 in
theorem read_up (g : Nat) (s : DSt) (F : Nat → Prop) (w : World) (h : DiskAt w F g s) (hd : s.down = false) (hl : s.all.length ≤ 100000000) (hp : s.pieces.length ≤ 1000000) :
    Calls Try.prog 27 #[.pointer (some ⟨g, 0, none⟩)] w fun e w' => e = .returned (.tuple #[.string ⟨s.all.toArray⟩, .int .i64 0]) ∧ Below w.heap.size w w' := by
  have hw := wrong_any g s F w h
  rw [hd] at hw
  have HW := Lib.hid hw
  have HA := Lib.hid (all_any g s F w h (by omega) hp)
  clear hw h hd
  generalize (⟨s.all.toArray⟩ : ByteArray) = x at *
  go_enter Try.func27, Try.ntmps27
  go_wp2_with fail
  refine HW.out.mono ?_
  rintro e w1 ⟨rfl, rfl⟩
  go_wp2_with fail
  refine HA.out.mono ?_
  rintro e w1 ⟨rfl, hb⟩
  have HB := Lib.hid hb
  clear hb
  go_wp2_with fail
  go_ret2
  exact ⟨rfl, HB.out⟩

/-- the fuse -/
def DSt.burnt (s : DSt) : DSt := if s.left = 0 then ⟨-1, true, s.lasts, s.pieces, s.cap⟩ else if 0 < s.left then ⟨s.left - 1, s.down, s.lasts, s.pieces, s.cap⟩ else s
set_option maxRecDepth 100000 in
set_option maxHeartbeats 800000 in
theorem burn_any (g : Nat) (s : DSt) (F : Nat → Prop) (w : World) (h : DiskAt w F g s) (h1 : -1 ≤ s.left) (h2 : s.left ≤ 9223372036854775807) :
    Calls Try.prog 59 #[.pointer (some ⟨g, 0, none⟩)] w fun e w' => e = .returned (.bool (s.left != 0)) ∧ DiskAt w' F g s.burnt ∧ Chg w w' F := by
  obtain ⟨hF, v, hg, hs⟩ := h
  have c0 : w.cell? ⟨g, 0, none⟩ = some (.int .i64 s.left) := cell_at hg rfl
  have c1 : w.cell? ⟨g, 1, none⟩ = some (.bool s.down) := cell_at hg rfl
  have f0 := free_at hg 0
  have f1 := free_at hg 1
  have hglt := heap_lt hg
  obtain ⟨left, down, lasts, pieces, cap⟩ := s
  simp only at *
  unfold DSt.burnt
  simp only
  by_cases h0 : left = 0
  · subst h0
    rw [if_pos rfl]
    have g1 := heap_setCell_same (i := 1) (heap_setCell_same (i := 0) hg (.int .i64 (-1))) (.bool true)
    have g2 := heap_setCell_same (i := 0) (heap_setCell_same (i := 1) hg (.bool true)) (.int .i64 (-1))
    have HR : Hid (DiskAt ((w.setCell ⟨g, 0, none⟩ (.int .i64 (-1))).setCell ⟨g, 1, none⟩ (.bool true)) F g ⟨-1, true, lasts, pieces, cap⟩ ∧ Chg w ((w.setCell ⟨g, 0, none⟩ (.int .i64 (-1))).setCell ⟨g, 1, none⟩ (.bool true)) F) :=
      ⟨⟨hF, v, g1, (hs.keep fun k hk _ => Below.heap_setCell _ _ _ _ hk.2).keep fun k hk _ => Below.heap_setCell _ _ _ _ hk.2⟩, ((Chg.refl w F).setCell (fun _ => hF) _).setCell (fun _ => hF) _⟩
    clear hg hs g1 g2
    go_enter Try.func59, Try.ntmps59
    go_wp2_with fail
    go_ret
    exact ⟨rfl, HR.out⟩
  · have hb0 : (left == 0) = false := by rw [beq_eq_false_iff_ne]; exact h0
    rw [if_neg h0]
    by_cases hp : 0 < left
    · rw [if_pos hp]
      have e1 : IntKind.i64.wrap (left - 1) = left - 1 := IntWalk.i64_in _ (by omega)
      have HR : Hid (DiskAt (w.setCell ⟨g, 0, none⟩ (.int .i64 (left - 1))) F g ⟨left - 1, down, lasts, pieces, cap⟩ ∧ Chg w (w.setCell ⟨g, 0, none⟩ (.int .i64 (left - 1))) F) :=
        ⟨⟨hF, v, heap_setCell_same (i := 0) hg _, hs.keep fun k hk _ => Below.heap_setCell _ _ _ _ hk.2⟩, (Chg.refl w F).setCell (fun _ => hF) _⟩
      have hne : (left != 0) = true := by rw [bne_iff_ne]; exact h0
      have HNE := Lib.hid hne
      have hd : decide (0 < left) = true := by simp; omega
      clear hg hs hne h2 h1 h0
      go_enter Try.func59, Try.ntmps59
      go_wp2_with fail
      go_ret
      exact ⟨by rw [HNE.out]; rfl, HR.out⟩
    · rw [if_neg hp]
      have HR : Hid (DiskAt w F g ⟨left, down, lasts, pieces, cap⟩) := ⟨hF, v, hg, hs⟩
      have hne : (left != 0) = true := by rw [bne_iff_ne]; exact h0
      have HNE := Lib.hid hne
      have hd : decide (0 < left) = false := by simp; omega
      clear hg hs hne h2 h1 h0 hp
      go_enter Try.func59, Try.ntmps59
      go_wp2_with fail
      go_ret
      exact ⟨by rw [HNE.out]; rfl, HR.out, Chg.refl _ _⟩
end Go.Proofs.Ytpnmhpkpkejdiaa
