/- Layer 17: what a sender and a receiver are in memory; the walks of their small functions. -/
import Derived.Test.YtecpgkcoehnpbaaOwn
import Derived.StillTailTactics
import Derived.Deep.RegionWith
import Derived.Deep.RegionHeld3
namespace Go.Proofs.Ytecpgkcoehnpbaa
open Go.RowKit

/-- a packet -/
structure Pk where
  ch : Int
  back : Int
  inc : Int
  seq : Int
  ack : Int
  load : ByteArray
def pkCells (p : Pk) : List Value := [.int .i64 p.ch, .int .i64 p.back, .int .i64 p.inc, .int .i64 p.seq, .int .i64 p.ack, .string p.load]
def strCells (l : List ByteArray) : List Value := l.map Value.string

structure OutSt where
  ch : Int
  inc : Int
  waits : List ByteArray
  last : Int
  ticks : Int
def outCells (s : OutSt) (v : Value) : Array Value := #[.int .i64 s.ch, .int .i64 s.inc, v, .int .i64 s.last, .int .i64 s.ticks]
/-- a sender in memory -/
def OutAt (w : World) (F : Nat → Prop) (g : Nat) (s : OutSt) : Prop :=
  F g ∧ ∃ v, w.heap[g]? = some (.cells (outCells s v) 80 (0, 0)) ∧ Sl w (fun k => F k ∧ k ≠ g) 9 1 v s.waits.length (strCells s.waits)

structure InSt where
  ch : Int
  inc : Int
  loads : List ByteArray
  out : Int
def inCells (s : InSt) (v : Value) : Array Value := #[.int .i64 s.ch, .int .i64 s.inc, v, .int .i64 s.out]
/-- a receiver in memory -/
def InAt (w : World) (F : Nat → Prop) (g : Nat) (s : InSt) : Prop :=
  F g ∧ ∃ v, w.heap[g]? = some (.cells (inCells s v) 83 (0, 0)) ∧ Sl w (fun k => F k ∧ k ≠ g) 9 1 v s.loads.length (strCells s.loads)

theorem OutAt.chg {w w' : World} {F S : Nat → Prop} {g : Nat} {s : OutSt} (h : OutAt w F g s) (hc : Chg w w' S) (hs : ∀ k, F k → ¬ S k) : OutAt w' F g s := by
  obtain ⟨h1, v, h2, h3⟩ := h
  exact ⟨h1, v, hc.heap h2 (hs g h1), h3.chg hc (fun k hk => hs k hk.1)⟩
theorem OutAt.mono {w : World} {F G : Nat → Prop} {g : Nat} {s : OutSt} (h : OutAt w F g s) (hs : ∀ k, k < w.heap.size → F k → G k) : OutAt w G g s := by
  obtain ⟨h1, v, h2, h3⟩ := h
  exact ⟨hs g (heap_lt h2) h1, v, h2, h3.mono (fun k hl hk => ⟨hs k hl hk.1, hk.2⟩)⟩
theorem InAt.chg {w w' : World} {F S : Nat → Prop} {g : Nat} {s : InSt} (h : InAt w F g s) (hc : Chg w w' S) (hs : ∀ k, F k → ¬ S k) : InAt w' F g s := by
  obtain ⟨h1, v, h2, h3⟩ := h
  exact ⟨h1, v, hc.heap h2 (hs g h1), h3.chg hc (fun k hk => hs k hk.1)⟩
theorem InAt.mono {w : World} {F G : Nat → Prop} {g : Nat} {s : InSt} (h : InAt w F g s) (hs : ∀ k, k < w.heap.size → F k → G k) : InAt w G g s := by
  obtain ⟨h1, v, h2, h3⟩ := h
  exact ⟨hs g (heap_lt h2) h1, v, h2, h3.mono (fun k hl hk => ⟨hs k hl hk.1, hk.2⟩)⟩

set_option maxHeartbeats 400000 in
theorem newOut_any (c i : Int) (w : World) : Calls Try.prog 41 #[.int .i64 c, .int .i64 i] w fun e w' => e = .returned (.pointer (some ⟨w.heap.size, 0, none⟩)) ∧ w.alloc (.cells (outCells ⟨c, i, [], 0, 0⟩ (.slice none 0 0)) 80) = w' := by
  go_enter Try.func41, Try.ntmps41
  go_wp2
  go_ret
  exact ⟨rfl, rfl⟩
set_option maxHeartbeats 400000 in
theorem newIn_any (c i : Int) (w : World) : Calls Try.prog 42 #[.int .i64 c, .int .i64 i] w fun e w' => e = .returned (.pointer (some ⟨w.heap.size, 0, none⟩)) ∧ w.alloc (.cells (inCells ⟨c, i, [], 0⟩ (.slice none 0 0)) 83) = w' := by
  go_enter Try.func42, Try.ntmps42
  go_wp2
  go_ret
  exact ⟨rfl, rfl⟩

/-- what the walk reads of a sender -/
theorem OutAt.cells {w : World} {F : Nat → Prop} {g : Nat} {s : OutSt} (h : OutAt w F g s) : ∃ ao cap, s.waits.length ≤ cap ∧ cap ≤ maxLen ∧ w.heap[g]? = some (.cells (outCells s (.slice ao s.waits.length cap)) 80 (0, 0)) ∧
    Sl w (fun k => F k ∧ k ≠ g) 9 1 (.slice ao s.waits.length cap) s.waits.length (strCells s.waits) := by
  obtain ⟨_, v, h2, h3⟩ := h
  obtain ⟨ao, cap, rfl, h4, h5⟩ := h3.shape
  exact ⟨ao, cap, h4, h5, h2, h3⟩
theorem InAt.cells {w : World} {F : Nat → Prop} {g : Nat} {s : InSt} (h : InAt w F g s) : ∃ ao cap, s.loads.length ≤ cap ∧ cap ≤ maxLen ∧ w.heap[g]? = some (.cells (inCells s (.slice ao s.loads.length cap)) 83 (0, 0)) ∧
    Sl w (fun k => F k ∧ k ≠ g) 9 1 (.slice ao s.loads.length cap) s.loads.length (strCells s.loads) := by
  obtain ⟨_, v, h2, h3⟩ := h
  obtain ⟨ao, cap, rfl, h4, h5⟩ := h3.shape
  exact ⟨ao, cap, h4, h5, h2, h3⟩

set_option maxHeartbeats 400000 in
theorem waits_any (g : Nat) (s : OutSt) (F : Nat → Prop) (w : World) (h : OutAt w F g s) : Calls Try.prog 17 #[.pointer (some ⟨g, 0, none⟩)] w fun e w' => e = .returned (.int .i64 (s.waits.length : Nat)) ∧ w = w' := by
  obtain ⟨ao, cap, _, _, h2, _⟩ := h.cells
  have c1 : w.cell? ⟨g, 2, none⟩ = some (.slice ao s.waits.length cap) := cell_at h2 rfl
  clear h h2
  generalize s.waits.length = n at *
  go_enter Try.func17, Try.ntmps17
  go_wp2
  go_ret
  exact ⟨rfl, rfl⟩
set_option maxHeartbeats 400000 in
theorem free_any (g : Nat) (s : OutSt) (F : Nat → Prop) (w : World) (h : OutAt w F g s) (h6 : s.waits.length ≤ 1000) : Calls Try.prog 18 #[.pointer (some ⟨g, 0, none⟩)] w fun e w' => e = .returned (.int .i64 (6 - (s.waits.length : Int))) ∧ w = w' := by
  obtain ⟨ao, cap, _, _, h2, _⟩ := h.cells
  have c1 : w.cell? ⟨g, 2, none⟩ = some (.slice ao s.waits.length cap) := cell_at h2 rfl
  clear h h2
  generalize s.waits.length = n at *
  go_enter Try.func18, Try.ntmps18
  go_wp2
  go_ret
  exact ⟨rfl, rfl⟩
set_option maxHeartbeats 400000 in
theorem inLen_any (g : Nat) (s : InSt) (F : Nat → Prop) (w : World) (h : InAt w F g s) : Calls Try.prog 19 #[.pointer (some ⟨g, 0, none⟩)] w fun e w' => e = .returned (.int .i64 (s.loads.length : Nat)) ∧ w = w' := by
  obtain ⟨ao, cap, _, _, h2, _⟩ := h.cells
  have c1 : w.cell? ⟨g, 2, none⟩ = some (.slice ao s.loads.length cap) := cell_at h2 rfl
  clear h h2
  generalize s.loads.length = n at *
  go_enter Try.func19, Try.ntmps19
  go_wp2
  go_ret
  exact ⟨rfl, rfl⟩
end Go.Proofs.Ytecpgkcoehnpbaa
