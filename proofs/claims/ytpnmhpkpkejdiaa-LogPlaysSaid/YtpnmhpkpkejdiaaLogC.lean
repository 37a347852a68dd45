/- Layer 15: what a log is in memory; the walks of its small functions. -/
import Derived.Test.YtpnmhpkpkejdiaaLogB
import Derived.Test.YtpnmhpkpkejdiaaDiskI
namespace Go.Proofs.Ytpnmhpkpkejdiaa
open Go.RowKit

/-- a log in memory: whose disk it is, and its records -/
def LogAt (w : World) (F : Nat → Prop) (gl gd : Nat) (l : List ByteArray) : Prop :=
  F gl ∧ ∃ v, w.heap[gl]? = some (.cells #[.pointer (some ⟨gd, 0, none⟩), v] 93 (0, 0)) ∧ Sl w (fun k => F k ∧ k ≠ gl) 9 1 v l.length (strCells l)
theorem LogAt.chg {w w' : World} {F S : Nat → Prop} {gl gd : Nat} {l : List ByteArray} (h : LogAt w F gl gd l) (hc : Chg w w' S) (hs : ∀ k, k < w.heap.size → F k → ¬ S k) : LogAt w' F gl gd l := by
  obtain ⟨h1, v, h2, h3⟩ := h
  refine ⟨h1, v, hc.heap h2 (hs gl (heap_lt h2) h1), (((h3.mono (G := fun k => (F k ∧ k ≠ gl) ∧ k < w.heap.size) fun k a b => ⟨b, a⟩).chg hc (fun k hk => hs k hk.2 hk.1.1)).mono fun k _ a => a.1)⟩
theorem LogAt.mono {w : World} {F G : Nat → Prop} {gl gd : Nat} {l : List ByteArray} (h : LogAt w F gl gd l) (hs : ∀ k, k < w.heap.size → F k → G k) : LogAt w G gl gd l := by
  obtain ⟨h1, v, h2, h3⟩ := h
  exact ⟨hs gl (heap_lt h2) h1, v, h2, h3.mono (fun k hl hk => ⟨hs k hl hk.1, hk.2⟩)⟩
theorem LogAt.below {w w' : World} {F : Nat → Prop} {gl gd : Nat} {l : List ByteArray} (h : LogAt w F gl gd l) (hb : Below w.heap.size w w') : LogAt w' F gl gd l :=
  h.chg (Chg.of_below hb (fun _ => False) (fun i a b => absurd a (by omega))) (fun _ _ _ x => x)
theorem LogAt.cells {w : World} {F : Nat → Prop} {gl gd : Nat} {l : List ByteArray} (h : LogAt w F gl gd l) : ∃ ao cap, l.length ≤ cap ∧ cap ≤ maxLen ∧ w.heap[gl]? = some (.cells #[.pointer (some ⟨gd, 0, none⟩), .slice ao l.length cap] 93 (0, 0)) ∧ Sl w (fun k => F k ∧ k ≠ gl) 9 1 (.slice ao l.length cap) l.length (strCells l) := by
  obtain ⟨_, v, h2, h3⟩ := h
  obtain ⟨ao, cap, rfl, h4, h5⟩ := h3.shape
  exact ⟨ao, cap, h4, h5, h2, h3⟩

set_option maxRecDepth 100000 in
set_option maxHeartbeats 800000 in
theorem logLen_any (gl gd : Nat) (l : List ByteArray) (F : Nat → Prop) (w : World) (h : LogAt w F gl gd l) :
    Calls Try.prog 51 #[.pointer (some ⟨gl, 0, none⟩)] w fun e w' => e = .returned (.int .i64 (l.length : Nat)) ∧ w = w' := by
  obtain ⟨ao, cap, _, _, h2, _⟩ := h.cells
  have c1 : w.cell? ⟨gl, 1, none⟩ = some (.slice ao l.length cap) := cell_at h2 rfl
  clear h h2
  generalize l.length = n at *
  go_enter Try.func51, Try.ntmps51
  go_wp2_with fail
  go_ret
  exact ⟨rfl, rfl⟩
set_option maxRecDepth 100000 in
set_option maxHeartbeats 800000 in
theorem logLast_none (gl gd : Nat) (F : Nat → Prop) (w : World) (h : LogAt w F gl gd []) :
    Calls Try.prog 50 #[.pointer (some ⟨gl, 0, none⟩)] w fun e w' => e = .returned (.tuple #[.string ByteArray.empty, .bool false]) ∧ Below w.heap.size w w' := by
  obtain ⟨ao, cap, _, _, h2, _⟩ := h.cells
  have c1 : w.cell? ⟨gl, 1, none⟩ = some (.slice ao 0 cap) := cell_at h2 rfl
  clear h h2
  go_enter Try.func50, Try.ntmps50
  go_wp2_with fail
  go_ret2
  exact ⟨rfl, Below.refl _ _⟩
set_option maxRecDepth 100000 in
set_option maxHeartbeats 800000 in
theorem logLast_some (gl gd : Nat) (l : List ByteArray) (x : ByteArray) (F : Nat → Prop) (w : World) (h : LogAt w F gl gd l) (hx : l[l.length - 1]? = some x) :
    Calls Try.prog 50 #[.pointer (some ⟨gl, 0, none⟩)] w fun e w' => e = .returned (.tuple #[.string x, .bool true]) ∧ Below w.heap.size w w' := by
  obtain ⟨ao, cap, h4, h5, h2, h3⟩ := h.cells
  have hn : 0 < l.length := by have := (List.getElem?_eq_some_iff.1 hx).1; omega
  obtain ⟨b, off, rfl, hc⟩ := str_at h3 hx
  have c1 : w.cell? ⟨gl, 1, none⟩ = some (.slice (some ⟨b, off, none⟩) l.length cap) := cell_at h2 rfl
  unfold maxLen at h5
  clear h h2 h3 hx
  obtain ⟨n, hnl⟩ : ∃ n, l.length = n := ⟨_, rfl⟩
  rw [hnl] at hc c1 h4 hn
  have hz : (((n : Int)) == 0) = false := by rw [beq_eq_false_iff_ne]; omega
  obtain ⟨m, hm⟩ : ∃ m, n - 1 = m := ⟨_, rfl⟩
  rw [hm] at hc
  have e1 : IntKind.i64.wrap ((n : Int) - 1) = (m : Int) := by rw [IntWalk.i64_in _ (by omega)]; omega
  have e2 : (n : Int) - 1 = (m : Int) := by omega
  have hmn : m < n := by omega
  clear hnl hm
  have HB : Hid (∀ k, Below w.heap.size w (w.drewN k)) := fun k => bl_drewN (Below.refl _ _) k
  go_enter Try.func50, Try.ntmps50
  go_wp2_with fail
  go_quiet (fail)
  go_wp2_with fail
  go_ret2
  exact ⟨rfl, HB.out _⟩
set_option maxRecDepth 100000 in
set_option maxHeartbeats 800000 in
theorem clone_any (ao : Option Addr) (cap : Nat) (l : List ByteArray) (w : World) (h : StrsAt w ao l) (hl : l.length ≤ 1000000) :
    Calls Try.prog 64 #[.slice ao l.length cap] w fun e w' => ∃ ao' cap', e = .returned (.slice ao' l.length cap') ∧ StrsAt w' ao' l ∧ Below w.heap.size w w' := by
  have hown : ∀ (w' : World) (v' : Value), w'.ownsRow w.heap.size 9 1 v' l.length (l.map Value.string) → ∃ ao' cap', v' = .slice ao' l.length cap' ∧ StrsAt w' ao' l := by
    intro w' v' ho
    have hsl : Sl w' (fun _ => True) 9 1 v' l.length (strCells l) := by
      refine ⟨by rw [strCells_length]; omega, ?_⟩
      rcases ho.2 with a | ⟨g, c, cur, a1, _, a3, a4, a5, a6, a7⟩
      · exact .inl a
      · exact .inr ⟨g, 0, c, cur, a1, trivial, a3, a4, a5, by omega, by rw [List.drop_zero]; exact a7⟩
    obtain ⟨ao', cap', rfl, _, _⟩ := hsl.shape
    exact ⟨ao', cap', rfl, hsl.strs⟩
  cases ao with
  | none =>
    have hl0 : l = [] := by
      cases l with
      | nil => rfl
      | cons x l =>
        obtain ⟨_, _, e, _⟩ := h 0 x rfl
        cases e
    subst hl0
    refine (Try.slices_Clone_string_nil 0 cap w).mono fun e w' ⟨he, hw⟩ => ?_
    subst hw
    exact ⟨none, 0, he, h, Below.refl _ _⟩
  | some a =>
    by_cases hl0 : l.length = 0
    · have hnil : l = [] := List.eq_nil_of_length_eq_zero hl0
      subst hnil
      refine (Try.slices_Clone_string_zero a cap w).mono fun e w' ⟨v', he, ho, _, hb⟩ => ?_
      obtain ⟨ao', cap', rfl, hs⟩ := hown w' v' ho
      exact ⟨ao', cap', he, hs, hb⟩
    · obtain ⟨x, hx⟩ : ∃ x, l[0]? = some x := ⟨_, List.getElem?_eq_getElem (by omega)⟩
      obtain ⟨b, off, e, _⟩ := h 0 x hx
      simp only [Option.some.injEq] at e
      subst e
      refine (Try.slices_Clone_string b off l.length cap l w (Nat.le_refl _) (by omega) (fun j hj => ?_)).mono fun e w' ⟨v', he, ho, _, hb⟩ => ?_
      · obtain ⟨y, hy⟩ : ∃ y, l[j]? = some y := ⟨_, List.getElem?_eq_getElem hj⟩
        obtain ⟨b', off', e', hc⟩ := h j y hy
        simp only [Option.some.injEq, Addr.mk.injEq] at e'
        obtain ⟨rfl, rfl, -⟩ := e'
        rw [List.getD_eq_getElem?_getD, hy]
        exact hc
      · rw [List.take_length] at ho
        obtain ⟨ao', cap', rfl, hs⟩ := hown w' v' ho
        exact ⟨ao', cap', he, hs, hb⟩
set_option maxRecDepth 100000 in
set_option maxHeartbeats 800000 in
theorem logAll_any (gl gd : Nat) (l : List ByteArray) (F : Nat → Prop) (w : World) (h : LogAt w F gl gd l) (hl : l.length ≤ 1000000) :
    Calls Try.prog 48 #[.pointer (some ⟨gl, 0, none⟩)] w fun e w' => ∃ ao' cap', e = .returned (.slice ao' l.length cap') ∧ StrsAt w' ao' l ∧ Below w.heap.size w w' := by
  obtain ⟨ao, cap, _, _, h2, h3⟩ := h.cells
  have c1 : w.cell? ⟨gl, 1, none⟩ = some (.slice ao l.length cap) := cell_at h2 rfl
  have HC := Lib.hid (clone_any ao cap l w h3.strs hl)
  clear h h2 h3
  obtain ⟨n, hn⟩ : ∃ n, l.length = n := ⟨_, rfl⟩
  rw [hn] at HC c1 ⊢
  clear hn
  go_enter Try.func48, Try.ntmps48
  go_wp2_with fail
  refine HC.out.mono ?_
  rintro e w' ⟨ao', cap', rfl, h1, h2⟩
  have H1 := Lib.hid h1
  have H2 := Lib.hid h2
  clear h1 h2
  go_wp2_with fail
  go_ret
  exact ⟨ao', cap', rfl, H1.out, H2.out⟩
set_option maxRecDepth 100000 in
set_option maxHeartbeats 800000 in
theorem logRoom_any (gl gd : Nat) (l : List ByteArray) (F FD : Nat → Prop) (s : DSt) (w : World) (h : LogAt w F gl gd l) (hd : DiskAt w FD gd s) (ok : s.all.length ≤ 100000000) (hp : s.pieces.length ≤ 1000000) (hc0 : 0 ≤ s.cap) (hc1 : s.cap ≤ 16777216) :
    Calls Try.prog 52 #[.pointer (some ⟨gl, 0, none⟩)] w fun e w' => e = .returned (.int .i64 (min (max (s.cap - (s.all.length : Nat) - 8) 0) 1048576)) ∧ Below w.heap.size w w' := by
  obtain ⟨ao, cap, _, _, h2, _⟩ := h.cells
  have c0 : w.cell? ⟨gl, 0, none⟩ = some (.pointer (some ⟨gd, 0, none⟩)) := cell_at h2 rfl
  have HR := Lib.hid (room_any gd s FD w hd ok hp hc0 hc1)
  clear h h2
  have hrb : -100000000 ≤ s.cap - (s.all.length : Int) ∧ s.cap - (s.all.length : Int) ≤ 16777216 := by omega
  obtain ⟨q, hq⟩ : ∃ q : Int, s.cap - (s.all.length : Nat) = q := ⟨_, rfl⟩
  rw [hq] at HR hrb ⊢
  have e1 : IntKind.i64.wrap (q - 8) = q - 8 := IntWalk.i64_in _ (by omega)
  obtain ⟨m, hm⟩ : ∃ m : Int, min (max (q - 8) 0) 1048576 = m := ⟨_, rfl⟩
  rw [hm]
  clear hq hrb hd
  go_enter Try.func52, Try.ntmps52
  go_wp2_with fail
  refine HR.out.mono ?_
  rintro e w' ⟨rfl, hb⟩
  have HB := Lib.hid hb
  clear hb
  go_wp2_with fail
  go_ret
  exact ⟨rfl, HB.out⟩
end Go.Proofs.Ytpnmhpkpkejdiaa
