/- Layer 14: what a disk is in memory; the walks of its small functions. -/
import Derived.Test.YtpnmhpkpkejdiaaMem
import Derived.Test.YtpnmhpkpkejdiaaShelf
namespace Go.Proofs.Ytpnmhpkpkejdiaa
open Go.RowKit

structure DSt where
  left : Int
  down : Bool
  lasts : ByteArray
  pieces : List ByteArray
  cap : Int
def diskCells (s : DSt) (v : Value) : Array Value := #[.int .i64 s.left, .bool s.down, .string s.lasts, v, .int .i64 s.cap]
/-- a disk in memory -/
def DiskAt (w : World) (F : Nat → Prop) (g : Nat) (s : DSt) : Prop :=
  F g ∧ ∃ v, w.heap[g]? = some (.cells (diskCells s v) 89 (0, 0)) ∧ Sl w (fun k => F k ∧ k ≠ g) 9 1 v s.pieces.length (strCells s.pieces)
theorem DiskAt.chg {w w' : World} {F S : Nat → Prop} {g : Nat} {s : DSt} (h : DiskAt w F g s) (hc : Chg w w' S) (hs : ∀ k, F k → ¬ S k) : DiskAt w' F g s := by
  obtain ⟨h1, v, h2, h3⟩ := h
  exact ⟨h1, v, hc.heap h2 (hs g h1), h3.chg hc (fun k hk => hs k hk.1)⟩
theorem DiskAt.mono {w : World} {F G : Nat → Prop} {g : Nat} {s : DSt} (h : DiskAt w F g s) (hs : ∀ k, k < w.heap.size → F k → G k) : DiskAt w G g s := by
  obtain ⟨h1, v, h2, h3⟩ := h
  exact ⟨hs g (heap_lt h2) h1, v, h2, h3.mono (fun k hl hk => ⟨hs k hl hk.1, hk.2⟩)⟩
theorem DiskAt.below {w w' : World} {F : Nat → Prop} {g C : Nat} {s : DSt} (h : DiskAt w F g s) (hb : Below C w w') (hC : w.heap.size ≤ C) : DiskAt w' F g s :=
  h.chg (Chg.of_below hb (fun _ => False) (fun i a b => absurd a (by omega))) (fun _ _ x => x)
theorem DiskAt.cells {w : World} {F : Nat → Prop} {g : Nat} {s : DSt} (h : DiskAt w F g s) : ∃ ao cap, s.pieces.length ≤ cap ∧ cap ≤ maxLen ∧ w.heap[g]? = some (.cells (diskCells s (.slice ao s.pieces.length cap)) 89 (0, 0)) ∧
    Sl w (fun k => F k ∧ k ≠ g) 9 1 (.slice ao s.pieces.length cap) s.pieces.length (strCells s.pieces) := by
  obtain ⟨_, v, h2, h3⟩ := h
  obtain ⟨ao, cap, rfl, h4, h5⟩ := h3.shape
  exact ⟨ao, cap, h4, h5, h2, h3⟩

/-- all bytes -/
def DSt.tail (s : DSt) : List UInt8 := (s.pieces.map (·.data.toList)).flatten
def DSt.all (s : DSt) : List UInt8 := s.lasts.data.toList ++ s.tail
theorem join_nil (l : List (List UInt8)) : Lib.join l [] = l.flatten := by
  show (l.intersperse []).flatten = l.flatten
  induction l with
  | nil => rfl
  | cons x l ih =>
    cases l with
    | nil => rfl
    | cons y l =>
      have e : List.intersperse ([] : List UInt8) (x :: y :: l) = x :: [] :: List.intersperse [] (y :: l) := rfl
      rw [e, List.flatten_cons, List.flatten_cons, List.flatten_cons, List.nil_append, ih]

theorem disk_join (g : Nat) (s : DSt) (F : Nat → Prop) (w : World) (h : DiskAt w F g s) (hl : s.all.length ≤ 140737488355328) (hp : s.pieces.length ≤ 1000000) : ∃ ao cap, w.heap[g]? = some (.cells (diskCells s (.slice ao s.pieces.length cap)) 89 (0, 0)) ∧
    ∀ w', Below w.heap.size w w' → Calls Try.prog 65 #[.slice ao s.pieces.length cap, .string ByteArray.empty] w' fun e w'' => e = .returned (.string ⟨s.tail.toArray⟩) ∧ Below w'.heap.size w' w'' := by
  obtain ⟨ao, cap, h4, h5, h2, h3⟩ := h.cells
  refine ⟨ao, cap, h2, fun w' hb => ?_⟩
  have h3' := sl_below h3 hb (Nat.le_refl _)
  have hj : Lib.join (s.pieces.map (·.data.toList)) (ByteArray.empty : ByteArray).data.toList = s.tail := join_nil _
  by_cases h0 : s.pieces.length = 0
  · have ht : s.tail = [] := by unfold DSt.tail; rw [List.eq_nil_of_length_eq_zero h0]; rfl
    rw [h0, ht]
    exact (Try.strings_Join_none ao cap ByteArray.empty w').mono fun e w'' ⟨a, b⟩ => ⟨a, by subst b; exact Below.refl _ _⟩
  · obtain ⟨b, off, cap', he, _, hb2, _, _, hc⟩ := h3'.at (by omega)
    simp only [Value.slice.injEq] at he
    obtain ⟨rfl, -, rfl⟩ := he
    have := Try.strings_Join b off cap s.pieces ByteArray.empty w' (fun j x hx => (hc j _ (by simp [strCells, hx])).1) hb2 (by omega) h4 (by rw [hj]; have : s.all.length = s.lasts.data.toList.length + s.tail.length := List.length_append; omega)
    rw [hj] at this
    exact this
end Go.Proofs.Ytpnmhpkpkejdiaa
