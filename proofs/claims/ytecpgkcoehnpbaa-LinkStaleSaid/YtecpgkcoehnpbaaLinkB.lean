/- Layer 17: the walks of end.is, Out.packet, In.ack. -/
import Derived.Test.YtecpgkcoehnpbaaLinkA
import Derived.BigRegion
namespace Go.Proofs.Ytecpgkcoehnpbaa
open Go.RowKit

def pkVal (p : Pk) : Value := .agg (pkCells p).toArray
def pkObj (p : Pk) : Obj := .cells #[.int .i64 p.ch, .int .i64 p.back, .int .i64 p.inc, .int .i64 p.seq, .int .i64 p.ack, .string p.load] 23

theorem bl_drewN {B : Nat} {a w : World} (h : Below B a w) (n : Nat) : Below B a (w.drewN n) := ⟨h.os, h.tape, h.output, h.size, h.block⟩

set_option maxHeartbeats 400000 in
theorem is_yes (c i : Int) (p : Pk) (b : Int) (w : World) (h1 : p.ch = c) (h2 : p.inc = i) (h3 : p.back = b) :
    Calls Try.prog 43 #[.agg #[.int .i64 c, .int .i64 i], .agg #[.int .i64 p.ch, .int .i64 p.back, .int .i64 p.inc, .int .i64 p.seq, .int .i64 p.ack, .string p.load], .int .i64 b] w fun e w' => e = .returned (.bool true) ∧ (w.alloc (.cells #[.int .i64 c, .int .i64 i] 78)).alloc (pkObj p) = w' := by
  obtain ⟨pc, pb, pi, ps, pa, pl⟩ := p
  simp only at h1 h2 h3
  subst h1 h2 h3
  go_enter Try.func43, Try.ntmps43
  go_wp2
  go_ret
  exact ⟨rfl, rfl⟩
set_option maxHeartbeats 800000 in
theorem is_no (c i : Int) (p : Pk) (b : Int) (w : World) (h : ¬ (p.ch = c ∧ p.inc = i ∧ p.back = b)) :
    Calls Try.prog 43 #[.agg #[.int .i64 c, .int .i64 i], .agg #[.int .i64 p.ch, .int .i64 p.back, .int .i64 p.inc, .int .i64 p.seq, .int .i64 p.ack, .string p.load], .int .i64 b] w fun e w' => e = .returned (.bool false) ∧ (w.alloc (.cells #[.int .i64 c, .int .i64 i] 78)).alloc (pkObj p) = w' := by
  obtain ⟨pc, pb, pi, ps, pa, pl⟩ := p
  simp only at h
  by_cases h1 : pc = c
  · by_cases h2 : pi = i
    · have h3 : (pb == b) = false := by rw [beq_eq_false_iff_ne]; exact fun h3 => h ⟨h1, h2, h3⟩
      clear h
      subst h1 h2
      go_enter Try.func43, Try.ntmps43
      go_wp2
      go_ret
      exact ⟨rfl, rfl⟩
    · have h3 : (pi == i) = false := by rw [beq_eq_false_iff_ne]; exact h2
      clear h h2
      subst h1
      go_enter Try.func43, Try.ntmps43
      go_wp2
      go_ret
      exact ⟨rfl, rfl⟩
  · have h3 : (pc == c) = false := by rw [beq_eq_false_iff_ne]; exact h1
    clear h h1
    go_enter Try.func43, Try.ntmps43
    go_wp2
    go_ret
    exact ⟨rfl, rfl⟩

set_option maxRecDepth 100000 in
set_option maxHeartbeats 1600000 in
theorem packet_any (g : Nat) (s : OutSt) (F : Nat → Prop) (w : World) (k : Nat) (h : OutAt w F g s) (hk : k < s.waits.length) (hb1 : -1000000 ≤ s.last) (hb2 : s.last ≤ 1000000) (hb3 : s.waits.length ≤ 1000000) :
    Calls Try.prog 44 #[.pointer (some ⟨g, 0, none⟩), .int .i64 (k : Int)] w fun e w' => e = .returned (.agg #[.int .i64 s.ch, .int .i64 0, .int .i64 s.inc, .int .i64 (s.last - s.waits.length + 1 + k), .int .i64 0, .string (s.waits.getD k ByteArray.empty)]) ∧ Below w.heap.size w w' := by
  obtain ⟨ao, cap, h4, h5, h2, h3⟩ := h.cells
  obtain ⟨b, off, cap', he, hF, hbl, h6, h7, hc⟩ := h3.at (by omega)
  injection he with e1 e2 e3
  subst e1 e3
  have c0 : w.cell? ⟨g, 0, none⟩ = some (.int .i64 s.ch) := cell_at h2 rfl
  have c1 : w.cell? ⟨g, 1, none⟩ = some (.int .i64 s.inc) := cell_at h2 rfl
  have c2 : w.cell? ⟨g, 2, none⟩ = some (.slice (some ⟨b, off, none⟩) s.waits.length cap) := cell_at h2 rfl
  have c3 : w.cell? ⟨g, 3, none⟩ = some (.int .i64 s.last) := cell_at h2 rfl
  have c4 : w.cell? ⟨b, off + k, none⟩ = some (.string (s.waits.getD k ByteArray.empty)) := (hc k _ (by simp [strCells, List.getElem?_eq_getElem hk, List.getD])).1
  have hg : g < w.heap.size := heap_lt h2
  clear h h2 h3 hc hF e2
  obtain ⟨sc, si, sw, sl, st⟩ := s
  simp only at *
  generalize sw.getD k ByteArray.empty = ld at *
  generalize sw.length = n at *
  have a1 : IntKind.i64.wrap (sl - (n : Int)) = sl - n := IntWalk.i64_in _ (by omega)
  have a2 : IntKind.i64.wrap (sl - (n : Int) + 1) = sl - n + 1 := IntWalk.i64_in _ (by omega)
  have a3 : IntKind.i64.wrap (sl - (n : Int) + 1 + k) = sl - n + 1 + k := IntWalk.i64_in _ (by omega)
  have hkn : (k : Int) < n := by omega
  go_enter Try.func44, Try.ntmps44
  go_wp2_with fail
  go_region
  go_wp2_with fail
  refine bodyPost_ret (v := .agg #[.int .i64 sc, .int .i64 0, .int .i64 si, .int .i64 (sl - n + 1 + k), .int .i64 0, .string ld]) (by simp [results, Try.results44, go_sem]) rfl ⟨rfl, ?_⟩
  repeat (first | exact Below.refl _ _ | refine bl_drewN ?_ _ | refine Below.drew ?_ | refine Below.setCell ?_ (by first | exact Nat.le_refl _ | simp) _ | refine Below.alloc ?_ (by first | exact Nat.le_refl _ | simp) _)

set_option maxRecDepth 100000 in
set_option maxHeartbeats 1600000 in
theorem ackPk_any (g : Nat) (s : InSt) (F : Nat → Prop) (w : World) (h : InAt w F g s) :
    Calls Try.prog 45 #[.pointer (some ⟨g, 0, none⟩)] w fun e w' => e = .returned (.slice (some ⟨w.heap.size, 0, none⟩) 1 1) ∧ w'.heap[w.heap.size]? = some (pkObj ⟨s.ch, 1, s.inc, 0, s.out, ByteArray.empty⟩) ∧ Below w.heap.size w w' := by
  obtain ⟨ao, cap, h4, h5, h2, h3⟩ := h.cells
  have c0 : w.cell? ⟨g, 0, none⟩ = some (.int .i64 s.ch) := cell_at h2 rfl
  have c1 : w.cell? ⟨g, 1, none⟩ = some (.int .i64 s.inc) := cell_at h2 rfl
  have c3 : w.cell? ⟨g, 3, none⟩ = some (.int .i64 s.out) := cell_at h2 rfl
  have hg : g < w.heap.size := heap_lt h2
  clear h h2 h3
  obtain ⟨sc, si, sw, so⟩ := s
  simp only at *
  go_enter Try.func45, Try.ntmps45
  go_wp2_with fail
  go_region
  all_goals
    go_wp2_with fail
    go_ret
    refine ⟨rfl, ?_, ?_⟩
    · first | exact heap_alloc_new _ _ | skip
    · repeat (first | exact Below.refl _ _ | refine bl_drewN ?_ _ | refine Below.drew ?_ | refine Below.setCell ?_ (by first | exact Nat.le_refl _ | simp) _ | refine Below.alloc ?_ (by first | exact Nat.le_refl _ | simp) _)
end Go.Proofs.Ytecpgkcoehnpbaa
