/- A crash that keeps all pieces loses nothing; one that keeps none leaves what lasts, and noughts, or, cut at 0, what lasts alone: the law DiskCrashes answers true at every input. No condition. -/
import Derived.Test.YtpnmhpkpkejdiaaDiskK
namespace Go.Proofs.Ytpnmhpkpkejdiaa
open Go.ChangeShapes Go.WideShapes Go.ChangeAt Go.RowKit

/-- the disks that are made, all played alike, each in blocks of its own -/
def Made (w : World) (B A : Nat) (s : DSt) (gs : List Nat) : Prop :=
  (∃ C : Array Value, w.heap[A]? = some (.cells C 54 (0, 0)) ∧ C.size = 3 ∧ ∀ (j g : Nat), gs[j]? = some g → C[j]? = some (Value.pointer (some ⟨g, 0, none⟩))) ∧
  ∃ col : Nat → Nat, ∀ (j g : Nat), gs[j]? = some g → DiskAt w (fun q => B ≤ q ∧ q ≠ A ∧ col q = j) g s
/-- .. and one more, in the blocks from g on, that is being played -/
def Mid (w : World) (B A : Nat) (s : DSt) (gs : List Nat) (k g : Nat) (t : DSt) : Prop :=
  gs.length = k ∧ A < g ∧ B ≤ g ∧ (∃ C : Array Value, w.heap[A]? = some (.cells C 54 (0, 0)) ∧ C.size = 3 ∧ C[k]? = some (Value.pointer (some ⟨g, 0, none⟩)) ∧ ∀ (j g' : Nat), gs[j]? = some g' → C[j]? = some (Value.pointer (some ⟨g', 0, none⟩))) ∧
  (∃ col : Nat → Nat, ∀ (j g' : Nat), gs[j]? = some g' → DiskAt w (fun q => B ≤ q ∧ q ≠ A ∧ col q = j ∧ q < g) g' s) ∧ DiskAt w (fun q => g ≤ q) g t
theorem Made.lt {w : World} {B A : Nat} {s : DSt} {gs : List Nat} (h : Made w B A s gs) : A < w.heap.size := by
  obtain ⟨⟨C, h1, _⟩, _⟩ := h
  exact heap_lt h1
theorem Mid.step {w w' : World} {B A : Nat} {s t t' : DSt} {gs : List Nat} {k g : Nat} (h : Mid w B A s gs k g t) (hc : Chg w w' (fun q => g ≤ q)) (hd : DiskAt w' (fun q => g ≤ q) g t') : Mid w' B A s gs k g t' := by
  obtain ⟨h1, h2, h3, ⟨C, h4, h5⟩, ⟨col, h6⟩, _⟩ := h
  exact ⟨h1, h2, h3, ⟨C, hc.heap h4 (by omega), h5⟩, ⟨col, fun j g' hj => (h6 j g' hj).chg hc (fun q hq => by omega)⟩, hd⟩
theorem Mid.done {w : World} {B A : Nat} {s : DSt} {gs : List Nat} {k g : Nat} (h : Mid w B A s gs k g s) : Made w B A s (gs ++ [g]) ∧ (gs ++ [g]).length = k + 1 := by
  obtain ⟨h1, h2, h3, ⟨C, h4, h5, h6, h7⟩, ⟨col, h8⟩, h9⟩ := h
  refine ⟨⟨⟨C, h4, h5, fun j g' hj => ?_⟩, ⟨fun q => if g ≤ q then k else col q, fun j g' hj => ?_⟩⟩, by simp [h1]⟩
  · by_cases hlt : j < gs.length
    · rw [List.getElem?_append_left hlt] at hj; exact h7 j g' hj
    · have hl := (List.getElem?_eq_some_iff.1 hj).1
      rw [List.length_append, List.length_singleton] at hl
      obtain rfl : j = k := by omega
      rw [← h1] at hj
      simp at hj
      subst hj
      exact h6
  · by_cases hlt : j < gs.length
    · rw [List.getElem?_append_left hlt] at hj
      refine (h8 j g' hj).mono fun q _ hq => ⟨hq.1, hq.2.1, ?_⟩
      show (if g ≤ q then k else col q) = j
      rw [if_neg (by omega)]; exact hq.2.2.1
    · have hl := (List.getElem?_eq_some_iff.1 hj).1
      rw [List.length_append, List.length_singleton] at hl
      obtain rfl : j = k := by omega
      rw [← h1] at hj
      simp at hj
      subst hj
      exact h9.mono fun q _ hq => ⟨by omega, by omega, if_pos hq⟩
theorem Mid.ptr {w : World} {B A : Nat} {s t : DSt} {gs : List Nat} {k g : Nat} (h : Mid w B A s gs k g t) : w.cell? ⟨A, k, none⟩ = some (Value.pointer (some ⟨g, 0, none⟩)) := by
  obtain ⟨_, _, _, ⟨C, h4, _, h6, _⟩, _⟩ := h
  exact cell_at h4 h6
theorem Made.begin {w w3 : World} {B A : Nat} {s t : DSt} {gs : List Nat} {k g : Nat} (h : Made w B A s gs) (hk : gs.length = k) (hk3 : k < 3) (hB : B ≤ w.heap.size) (hg : w.heap.size = g) (hb : Below g w w3) (hd : DiskAt w3 (fun q => g ≤ q) g t) :
    (∃ u, w3.cell? ⟨A, k, none⟩ = some u) ∧ w3.frozen? ⟨A, k, none⟩ = false ∧ A < w3.heap.size ∧ Mid (w3.setCell ⟨A, k, none⟩ (.pointer (some ⟨g, 0, none⟩))) B A s gs k g t := by
  subst hg
  obtain ⟨⟨C, h1, h2, h3⟩, ⟨col, h4⟩⟩ := h
  have hA := heap_lt h1
  have h1' := below_heap hb h1 hA
  have hA' := heap_lt h1'
  refine ⟨⟨C[k], cell_at h1' (Array.getElem?_eq_getElem (by omega))⟩, free_at h1' k, hA', hk, hA, hB, ⟨_, heap_setCell_same (i := k) h1' _, by simp [h2], by simp [Array.getElem?_setIfInBounds, h2, hk3], fun j g' hj => ?_⟩, ⟨col, fun j g' hj => ?_⟩, ?_⟩
  · have hl := (List.getElem?_eq_some_iff.1 hj).1
    rw [Array.getElem?_setIfInBounds_ne (by omega)]
    exact h3 j g' hj
  · refine ((h4 j g' hj).mono (G := fun q => B ≤ q ∧ q ≠ A ∧ col q = j ∧ q < w.heap.size) (fun q a b => ⟨b.1, b.2.1, b.2.2, a⟩)).chg (S := fun q => w.heap.size ≤ q ∨ q = A) ((Chg.of_below hb _ (fun i a b => .inl b)).setCell (fun _ => .inr rfl) _) (fun q hq a => by omega)
  · exact hd.chg (S := fun q => q = A) ((Chg.refl w3 (fun q => q = A)).setCell (fun _ => rfl) _) (fun q hq a => by omega)
theorem made_three {gs : List Nat} (h : gs.length = 3) : ∃ a b c, gs = [a, b, c] := by
  match gs, h with
  | [a, b, c], _ => exact ⟨a, b, c, rfl⟩

theorem DiskAt.chgAt {w w' : World} {F S : Nat → Prop} {g : Nat} {s : DSt} (h : DiskAt w F g s) (hc : Chg w w' S) (hs : ∀ k, k < w.heap.size → F k → ¬ S k) : DiskAt w' F g s :=
  (h.mono (G := fun k => F k ∧ k < w.heap.size) (fun k a b => ⟨b, a⟩)).chg hc (fun k a => hs k a.2 a.1) |>.mono (fun k _ a => a.1)

/-- three disks, each in blocks of its own, none in a block of X -/
def Trio (w : World) (B : Nat) (X : Nat → Prop) (A g0 g1 g2 : Nat) (s0 s1 s2 : DSt) : Prop :=
  (∃ C : Array Value, w.heap[A]? = some (.cells C 54 (0, 0)) ∧ C[0]? = some (Value.pointer (some ⟨g0, 0, none⟩)) ∧ C[1]? = some (Value.pointer (some ⟨g1, 0, none⟩)) ∧ C[2]? = some (Value.pointer (some ⟨g2, 0, none⟩))) ∧
  X A ∧ (∀ q, X q → q < w.heap.size) ∧ ∃ col : Nat → Nat, DiskAt w (fun q => B ≤ q ∧ ¬ X q ∧ col q = 0) g0 s0 ∧ DiskAt w (fun q => B ≤ q ∧ ¬ X q ∧ col q = 1) g1 s1 ∧ DiskAt w (fun q => B ≤ q ∧ ¬ X q ∧ col q = 2) g2 s2
theorem Made.trio {w : World} {B A g0 g1 g2 : Nat} {s : DSt} (h : Made w B A s [g0, g1, g2]) : Trio w B (fun q => q = A) A g0 g1 g2 s s s := by
  obtain ⟨⟨C, h1, _, h3⟩, ⟨col, h4⟩⟩ := h
  exact ⟨⟨C, h1, h3 0 g0 rfl, h3 1 g1 rfl, h3 2 g2 rfl⟩, rfl, fun q hq => hq ▸ heap_lt h1, col, h4 0 g0 rfl, h4 1 g1 rfl, h4 2 g2 rfl⟩
theorem Trio.extend {w w' : World} {B A g0 g1 g2 : Nat} {X Y : Nat → Prop} {s0 s1 s2 : DSt} (h : Trio w B X A g0 g1 g2 s0 s1 s2) (hb : Below w.heap.size w w') (h1 : ∀ q, q < w.heap.size → Y q → X q) (h2 : Y A) (h3 : ∀ q, Y q → q < w'.heap.size) : Trio w' B Y A g0 g1 g2 s0 s1 s2 := by
  obtain ⟨⟨C, h4, h5⟩, h6, h7, col, d0, d1, d2⟩ := h
  exact ⟨⟨C, below_heap hb h4 (heap_lt h4), h5⟩, h2, h3, col, (d0.mono fun q a b => ⟨b.1, fun y => b.2.1 (h1 q a y), b.2.2⟩).below hb (Nat.le_refl _), (d1.mono fun q a b => ⟨b.1, fun y => b.2.1 (h1 q a y), b.2.2⟩).below hb (Nat.le_refl _), (d2.mono fun q a b => ⟨b.1, fun y => b.2.1 (h1 q a y), b.2.2⟩).below hb (Nat.le_refl _)⟩
theorem Trio.below {w w' : World} {B A g0 g1 g2 : Nat} {X : Nat → Prop} {s0 s1 s2 : DSt} (h : Trio w B X A g0 g1 g2 s0 s1 s2) (hb : Below w.heap.size w w') : Trio w' B X A g0 g1 g2 s0 s1 s2 :=
  h.extend hb (fun _ _ a => a) h.2.1 (fun q hq => Nat.lt_of_lt_of_le (h.2.2.1 q hq) hb.size)
theorem Trio.other {w w' : World} {B A g0 g1 g2 : Nat} {X S : Nat → Prop} {s0 s1 s2 : DSt} (h : Trio w B X A g0 g1 g2 s0 s1 s2) (hc : Chg w w' S) (hs : ∀ q, S q → X q ∧ q ≠ A) : Trio w' B X A g0 g1 g2 s0 s1 s2 := by
  obtain ⟨⟨C, h4, h5⟩, h6, h7, col, d0, d1, d2⟩ := h
  exact ⟨⟨C, hc.heap h4 (fun a => (hs A a).2 rfl), h5⟩, h6, fun q hq => Nat.lt_of_lt_of_le (h7 q hq) hc.size, col, d0.chg hc (fun q a b => a.2.1 (hs q b).1), d1.chg hc (fun q a b => a.2.1 (hs q b).1), d2.chg hc (fun q a b => a.2.1 (hs q b).1)⟩
theorem Trio.lt {w : World} {B A g0 g1 g2 : Nat} {X : Nat → Prop} {s0 s1 s2 : DSt} (h : Trio w B X A g0 g1 g2 s0 s1 s2) : A < w.heap.size := h.2.2.1 A h.2.1
theorem Trio.at0 {w : World} {B A g0 g1 g2 : Nat} {X : Nat → Prop} {s0 s1 s2 : DSt} (h : Trio w B X A g0 g1 g2 s0 s1 s2) (hB : B ≤ w.heap.size) : ∃ F : Nat → Prop, DiskAt w F g0 s0 ∧ (∀ q, X q → ¬ F q) ∧ (∀ q, F q → B ≤ q) ∧
    ∀ w' s', DiskAt w' (fun k => (F k ∧ k < w.heap.size) ∨ w.heap.size ≤ k) g0 s' → Chg w w' F → Trio w' B X A g0 g1 g2 s' s1 s2 := by
  obtain ⟨⟨C, h4, h5⟩, h6, h7, col, d0, d1, d2⟩ := h
  refine ⟨_, d0, fun q x a => a.2.1 x, fun q a => a.1, fun w' s' hd hc => ⟨⟨C, hc.heap h4 (fun a => a.2.1 h6), h5⟩, h6, fun q hq => Nat.lt_of_lt_of_le (h7 q hq) hc.size, fun q => if w.heap.size ≤ q then 0 else col q, ?_, ?_, ?_⟩⟩
  · refine hd.mono fun q hl hq => ⟨?_, fun x => ?_, ?_⟩
    · rcases hq with a | a
      · exact a.1.1
      · omega
    · rcases hq with a | a
      · exact a.1.2.1 x
      · exact absurd (h7 q x) (by omega)
    · show (if w.heap.size ≤ q then 0 else col q) = 0
      split
      · rfl
      · rcases hq with a | a
        · exact a.1.2.2
        · omega
  · exact ((d1.mono (G := fun q => B ≤ q ∧ ¬ X q ∧ (if w.heap.size ≤ q then 0 else col q) = 1) fun q a b => ⟨b.1, b.2.1, by rw [if_neg (by omega)]; exact b.2.2⟩).chgAt hc (fun q hl a b => by
      have e := a.2.2
      rw [if_neg (by omega)] at e
      exact absurd (e.symm.trans b.2.2) (by decide)))
  · exact ((d2.mono (G := fun q => B ≤ q ∧ ¬ X q ∧ (if w.heap.size ≤ q then 0 else col q) = 2) fun q a b => ⟨b.1, b.2.1, by rw [if_neg (by omega)]; exact b.2.2⟩).chgAt hc (fun q hl a b => by
      have e := a.2.2
      rw [if_neg (by omega)] at e
      exact absurd (e.symm.trans b.2.2) (by decide)))
theorem Trio.at1 {w : World} {B A g0 g1 g2 : Nat} {X : Nat → Prop} {s0 s1 s2 : DSt} (h : Trio w B X A g0 g1 g2 s0 s1 s2) (hB : B ≤ w.heap.size) : ∃ F : Nat → Prop, DiskAt w F g1 s1 ∧ (∀ q, X q → ¬ F q) ∧ (∀ q, F q → B ≤ q) ∧
    ∀ w' s', DiskAt w' (fun k => (F k ∧ k < w.heap.size) ∨ w.heap.size ≤ k) g1 s' → Chg w w' F → Trio w' B X A g0 g1 g2 s0 s' s2 := by
  obtain ⟨⟨C, h4, h5⟩, h6, h7, col, d0, d1, d2⟩ := h
  refine ⟨_, d1, fun q x a => a.2.1 x, fun q a => a.1, fun w' s' hd hc => ⟨⟨C, hc.heap h4 (fun a => a.2.1 h6), h5⟩, h6, fun q hq => Nat.lt_of_lt_of_le (h7 q hq) hc.size, fun q => if w.heap.size ≤ q then 1 else col q, ?_, ?_, ?_⟩⟩
  · exact ((d0.mono (G := fun q => B ≤ q ∧ ¬ X q ∧ (if w.heap.size ≤ q then 1 else col q) = 0) fun q a b => ⟨b.1, b.2.1, by rw [if_neg (by omega)]; exact b.2.2⟩).chgAt hc (fun q hl a b => by
      have e := a.2.2
      rw [if_neg (by omega)] at e
      exact absurd (e.symm.trans b.2.2) (by decide)))
  · refine hd.mono fun q hl hq => ⟨?_, fun x => ?_, ?_⟩
    · rcases hq with a | a
      · exact a.1.1
      · omega
    · rcases hq with a | a
      · exact a.1.2.1 x
      · exact absurd (h7 q x) (by omega)
    · show (if w.heap.size ≤ q then 1 else col q) = 1
      split
      · rfl
      · rcases hq with a | a
        · exact a.1.2.2
        · omega
  · exact ((d2.mono (G := fun q => B ≤ q ∧ ¬ X q ∧ (if w.heap.size ≤ q then 1 else col q) = 2) fun q a b => ⟨b.1, b.2.1, by rw [if_neg (by omega)]; exact b.2.2⟩).chgAt hc (fun q hl a b => by
      have e := a.2.2
      rw [if_neg (by omega)] at e
      exact absurd (e.symm.trans b.2.2) (by decide)))
theorem Trio.at2 {w : World} {B A g0 g1 g2 : Nat} {X : Nat → Prop} {s0 s1 s2 : DSt} (h : Trio w B X A g0 g1 g2 s0 s1 s2) (hB : B ≤ w.heap.size) : ∃ F : Nat → Prop, DiskAt w F g2 s2 ∧ (∀ q, X q → ¬ F q) ∧ (∀ q, F q → B ≤ q) ∧
    ∀ w' s', DiskAt w' (fun k => (F k ∧ k < w.heap.size) ∨ w.heap.size ≤ k) g2 s' → Chg w w' F → Trio w' B X A g0 g1 g2 s0 s1 s' := by
  obtain ⟨⟨C, h4, h5⟩, h6, h7, col, d0, d1, d2⟩ := h
  refine ⟨_, d2, fun q x a => a.2.1 x, fun q a => a.1, fun w' s' hd hc => ⟨⟨C, hc.heap h4 (fun a => a.2.1 h6), h5⟩, h6, fun q hq => Nat.lt_of_lt_of_le (h7 q hq) hc.size, fun q => if w.heap.size ≤ q then 2 else col q, ?_, ?_, ?_⟩⟩
  · exact ((d0.mono (G := fun q => B ≤ q ∧ ¬ X q ∧ (if w.heap.size ≤ q then 2 else col q) = 0) fun q a b => ⟨b.1, b.2.1, by rw [if_neg (by omega)]; exact b.2.2⟩).chgAt hc (fun q hl a b => by
      have e := a.2.2
      rw [if_neg (by omega)] at e
      exact absurd (e.symm.trans b.2.2) (by decide)))
  · exact ((d1.mono (G := fun q => B ≤ q ∧ ¬ X q ∧ (if w.heap.size ≤ q then 2 else col q) = 1) fun q a b => ⟨b.1, b.2.1, by rw [if_neg (by omega)]; exact b.2.2⟩).chgAt hc (fun q hl a b => by
      have e := a.2.2
      rw [if_neg (by omega)] at e
      exact absurd (e.symm.trans b.2.2) (by decide)))
  · refine hd.mono fun q hl hq => ⟨?_, fun x => ?_, ?_⟩
    · rcases hq with a | a
      · exact a.1.1
      · omega
    · rcases hq with a | a
      · exact a.1.2.1 x
      · exact absurd (h7 q x) (by omega)
    · show (if w.heap.size ≤ q then 2 else col q) = 2
      split
      · rfl
      · rcases hq with a | a
        · exact a.1.2.2
        · omega
/-- k of 200 are true -/
def KeepAt (w : World) (K k : Nat) : Prop := ∃ C : Array Value, w.heap[K]? = some (.cells C 4 (0, 0)) ∧ C.size = 200 ∧ ∀ i, i < k → C[i]? = some (.bool true)
theorem KeepAt.bools {w : World} {K : Nat} (h : KeepAt w K 200) : BoolsAt w (some ⟨K, 0, none⟩) (List.replicate 200 true) := by
  obtain ⟨C, h1, h2, h3⟩ := h
  intro i b hi
  have hb := List.getElem?_eq_some_iff.1 hi
  obtain ⟨hb1, hb2⟩ := hb
  rw [List.length_replicate] at hb1
  rw [List.getElem_replicate] at hb2
  exact ⟨K, 0, rfl, by rw [Nat.zero_add, ← hb2]; exact cell_at h1 (h3 i hb1)⟩
theorem KeepAt.next {w : World} {K k : Nat} (h : KeepAt w K k) (hk : k < 200) : (∃ u, w.cell? ⟨K, k, none⟩ = some u) ∧ w.frozen? ⟨K, k, none⟩ = false ∧ KeepAt (w.setCell ⟨K, k, none⟩ (.bool true)) K (k + 1) := by
  obtain ⟨C, h1, h2, h3⟩ := h
  refine ⟨⟨C[k], cell_at h1 (Array.getElem?_eq_getElem (by omega))⟩, free_at h1 k, _, heap_setCell_same (i := k) h1 _, by simp [h2], fun i hi => ?_⟩
  by_cases e : k = i
  · subst e; simp [Array.getElem?_setIfInBounds, h2, hk]
  · rw [Array.getElem?_setIfInBounds_ne e]; exact h3 i (by omega)
theorem Try.infoBool : (Try.prog.info? 4).map (fun i => (i.zero, i.size, i.bytes)) = some (some (.bool false), 1, 1) := by kernel_rfl
theorem keepOf (w : World) : ∃ W2, Sem.run Try.prog (Instr.makeSlice 46 (.int .i64 200) (.int .i64 200)) w = .ok (.slice (some { block := w.heap.size, off := 0 }) 200 200) W2 ∧ Below w.heap.size w W2 ∧ KeepAt W2 w.heap.size 0 := by
  obtain ⟨i0, hi, hz0, hz1, hz2⟩ := info_parts Try.infoBool
  have h := run_make (P := Try.prog) w 46 4 i0 (.bool false) under_bools hi hz0 .i64 .i64 200 200 (by omega) (Int.le_refl _) (by rw [hz2]; omega) (by omega)
  refine ⟨_, h, (Below.refl _ _).alloc (Nat.le_refl _) _, _, heap_alloc_new _ _, ?_, fun i hi => absurd hi (by omega)⟩
  simp [madeCells, hz1]

set_option maxRecDepth 100000 in
set_option maxHeartbeats 1600000 in
theorem diskCrashes_let (so : Option Addr) (sb soff n scap : Nat) (os : List DOp) (w : World) (hn : n ≤ maxLen) (hl : os.length = n) (hao : 0 < n → so = some ⟨sb, soff, none⟩) (hb : 0 < n → sb < w.heap.size) (hok : ∀ o ∈ os, DOpOk w o)
    (hc : ∀ i o, os[i]? = some o → ∀ j u, (dopCells o)[j]? = some u → w.cell? ⟨sb, soff + i * 5 + j, none⟩ = some u) (hbig : Big14 os) :
    Calls Try.prog 9 #[.slice so n scap] w fun e w' => e = .returned (.bool true) ∧ Below w.heap.size w w' := by
  have HGR : ∀ w' : World, Below w.heap.size w w' → Calls Try.prog 30 #[.slice so n scap] w' fun e w'' => e = .returned (.bool true) ∧ Below w'.heap.size w' w'' := fun w' hb' =>
    great14_any so sb soff n scap os w' hn hl hao (fun h => Nat.lt_of_lt_of_le (hb h) hb'.size) (fun o ho => ⟨(hok o ho).1, (hok o ho).2.1⟩) (fun i o ho j u hj => (hb'.cell (by exact hb (by have := (List.getElem?_eq_some_iff.1 ho).1; omega))).trans (hc i o ho j u hj)) true (by simp [hbig])
  have HGRT := Lib.hid HGR
  clear hao hb hl hc hok hbig HGR hn
  go_enter Try.func9, Try.ntmps9
  go_wp2_with fail
  refine (diskAwake w).mono ?_
  rintro e w0 ⟨rfl, hb0⟩
  have HB0 := Lib.hid hb0
  clear hb0
  go_wp2_with fail
  refine (HGRT.out w0 HB0.out).mono ?_
  rintro e w1 ⟨rfl, hb1⟩
  have z1 : w.heap.size ≤ w1.heap.size := Nat.le_trans HB0.out.size hb1.size
  have HB1 : Hid (Below w.heap.size w w1) := HB0.out.trans (hb1.mono HB0.out.size)
  clear hb1 HB0 HGRT
  go_wp2_with fail
  go_ret
  exact ⟨rfl, HB1.out⟩

set_option maxRecDepth 100000 in
set_option maxHeartbeats 12800000 in
theorem diskCrashes_law (so : Option Addr) (sb soff n scap : Nat) (os : List DOp) (w : World) (hn : n ≤ maxLen) (hl : os.length = n) (hao : 0 < n → so = some ⟨sb, soff, none⟩) (hb : 0 < n → sb < w.heap.size) (hok : ∀ o ∈ os, DOpOk w o)
    (hc : ∀ i o, os[i]? = some o → ∀ j u, (dopCells o)[j]? = some u → w.cell? ⟨sb, soff + i * 5 + j, none⟩ = some u) (hbig : ¬ Big14 os) :
    Calls Try.prog 9 #[.slice so n scap] w fun e w' => e = .returned (.bool true) ∧ Below w.heap.size w w' := by
  have mixed : Try.prog.follows .mixedOrders = true := by kernel_rfl
  have HGR : ∀ w' : World, Below w.heap.size w w' → Calls Try.prog 30 #[.slice so n scap] w' fun e w'' => e = .returned (.bool false) ∧ Below w'.heap.size w' w'' := fun w' hb' =>
    great14_any so sb soff n scap os w' hn hl hao (fun h => Nat.lt_of_lt_of_le (hb h) hb'.size) (fun o ho => ⟨(hok o ho).1, (hok o ho).2.1⟩) (fun i o ho j u hj => (hb'.cell (by exact hb (by have := (List.getElem?_eq_some_iff.1 ho).1; omega))).trans (hc i o ho j u hj)) false (by simp [hbig])
  have hn100 : n ≤ 100 := by
    have h : ¬ 100 < os.length := fun h => hbig (.inl h)
    omega
  have HGRT := Lib.hid HGR
  have HAO := Lib.hid hao
  have HB := Lib.hid hb
  have HL := Lib.hid hl
  have HC := Lib.hid hc
  have HOK := Lib.hid hok
  clear hao hb hl hc hok hbig HGR hn
  go_enter Try.func9, Try.ntmps9
  go_wp2_with fail
  refine (diskAwake w).mono ?_
  rintro e w0 ⟨rfl, hb0⟩
  have HB0 := Lib.hid hb0
  clear hb0
  go_wp2_with fail
  refine (HGRT.out w0 HB0.out).mono ?_
  rintro e w1 ⟨rfl, hb1⟩
  have z1 : w.heap.size ≤ w1.heap.size := Nat.le_trans HB0.out.size hb1.size
  have HB1 : Hid (Below w.heap.size w w1) := HB0.out.trans (hb1.mono HB0.out.size)
  clear hb1 HB0 HGRT
  go_wp2_with fail
  obtain ⟨wA, hwA⟩ : ∃ wA, w1.alloc (.cells #[.pointer none, .pointer none, .pointer none] 54) = wA := ⟨_, rfl⟩
  try rw [hwA]
  obtain ⟨A, hA⟩ : ∃ A, w1.heap.size = A := ⟨_, rfl⟩
  try rw [hA]
  have HR0 : Hid (Made wA w.heap.size A (playC os n) [] ∧ Below w.heap.size w wA) := by
    rw [← hA, ← hwA]
    exact ⟨⟨⟨_, heap_alloc_new w1 _, rfl, fun j g h => by simp at h⟩, fun _ => 0, fun j g h => by simp at h⟩, HB1.out.alloc z1 _⟩
  have hzA : w.heap.size ≤ A := by omega
  clear hwA hA HB1 z1
  go_loopw [22] (fun i wr => ∃ (k : Nat) (gs : List Nat), k ≤ 3 ∧ i = .int .i64 k ∧ Hid (gs.length = k) ∧ Hid (Made wr w.heap.size A (playC os n) gs ∧ Below w.heap.size w wr)) (fun i _ => 3 - (intOf i).toNat)
  case atStart => exact ⟨0, [], by omega, rfl, rfl, HR0.out⟩
  case round =>
    obtain ⟨k, gs, hk, rfl, HG, HR⟩ := hrel
    clear HR0
    obtain ⟨wo, hwo⟩ : ∃ wo : World, wo = wr := ⟨_, rfl⟩
    rw [← hwo] at HR ⊢
    clear hwo
    by_cases hlt : k < 3
    · have hAo : A < wo.heap.size := HR.out.1.lt
      have hzo := HR.out.2.size
      go_wp2_with fail
      refine (new_any 10000 wo).mono ?_
      rintro e w3 ⟨rfl, h3, b3⟩
      obtain ⟨g, hg⟩ : ∃ g, wo.heap.size = g := ⟨_, rfl⟩
      try rw [hg]
      rw [hg] at h3 b3
      obtain ⟨⟨u3, hu3⟩, hf3, hA3, hm3⟩ := HR.out.1.begin HG.out hlt hzo hg b3 h3
      obtain ⟨w4, hw4⟩ : ∃ w4, w3.setCell ⟨A, k, none⟩ (Value.pointer (some ⟨g, 0, none⟩)) = w4 := ⟨_, rfl⟩
      have HM0 : Hid (Mid w4 w.heap.size A (playC os n) gs k g (playC os 0)) := by rw [← hw4]; exact hm3
      have HW4 : Hid (Below w.heap.size w w4) := by rw [← hw4]; exact (HR.out.2.trans (b3.mono (by omega))).setCell (by simp; omega) _
      clear hg h3 b3 hm3
      go_wp2_with fail
      try rw [hw4]
      clear hw4 hu3 hf3 hA3
      go_loopw [30] (fun i wq => ∃ j : Nat, j ≤ n ∧ i = .int .i64 j ∧ Hid (Mid wq w.heap.size A (playC os n) gs k g (playC os j) ∧ Below w.heap.size w wq)) (fun i _ => n - (intOf i).toNat)
      case atStart => exact ⟨0, by omega, rfl, HM0.out, HW4.out⟩
      case round =>
        obtain ⟨j, hj, rfl, HM⟩ := hrel
        clear HM0 HW4
        obtain ⟨wq, hwq⟩ : ∃ wq : World, wq = wr := ⟨_, rfl⟩
        rw [← hwq] at HM ⊢
        clear hwq
        by_cases hlt2 : j < n
        · obtain rfl := HAO.out (by omega)
          obtain ⟨⟨ok, on, os', oko, okc, okp, oc⟩, ho⟩ : ∃ o, os[j]? = some o := ⟨_, List.getElem?_eq_getElem (by rw [HL.out]; exact hlt2)⟩
          have hc : ∀ k u, (dopCells ⟨ok, on, os', oko, okc, okp, oc⟩)[k]? = some u → wq.cell? ⟨sb, soff + j * 5 + k, none⟩ = some u := fun k u hk => (HM.out.2.cell (by exact HB.out (by omega))).trans (HC.out j _ ho k u hk)
          have q0 : wq.cell? ⟨sb, soff + j * 5, none⟩ = some (.int .i64 ok) := hc 0 _ rfl
          have q1 : wq.cell? ⟨sb, soff + j * 5 + 1, none⟩ = some (.int .i64 on) := hc 1 _ rfl
          have q2 : wq.cell? ⟨sb, soff + j * 5 + 2, none⟩ = some (.string os') := hc 2 _ rfl
          have q3 : wq.cell? ⟨sb, soff + j * 5 + 3, none⟩ = some (.slice oko okp.length okc) := hc 3 _ rfl
          have q4 : wq.cell? ⟨sb, soff + j * 5 + 4, none⟩ = some (.int .i64 oc) := hc 4 _ rfl
          obtain ⟨hs1, -, -, hs4, hs5, -⟩ := HOK.out _ (List.mem_of_getElem? ho)
          simp only at hs1 hs4 hs5
          have hps := playC_succ os j ho
          have pok := playC_ok os j (by rw [HL.out]; omega)
          have hz := HM.out.2.size
          obtain ⟨-, hAg, hBg, ⟨CA, hCA, -, hCk, -⟩, -, hdq⟩ := id HM.out.1
          have hgz : g < wq.heap.size := by
            obtain ⟨_, v, hv, _⟩ := id hdq
            exact heap_lt hv
          obtain ⟨wb, hwb⟩ : ∃ wb, wq.alloc (.cells #[.int .i64 ok, .int .i64 on, .string os', .slice oko okp.length okc, .int .i64 oc] 50) = wb := ⟨_, rfl⟩
          have HBX : Hid (wb.heap[wq.heap.size]? = some (.cells #[.int .i64 ok, .int .i64 on, .string os', .slice oko okp.length okc, .int .i64 oc] 50)) := by rw [← hwb]; exact heap_alloc_new wq _
          have HBC : Hid (Chg wq wb (fun q => g ≤ q)) := by rw [← hwb]; exact (Chg.refl wq _).alloc _
          have HDB : Hid (DiskAt wb (fun q => g ≤ q ∧ q < wq.heap.size) g (playC os j)) := by rw [← hwb]; exact (hdq.mono (fun q a b => ⟨b, a⟩)).below ((Below.refl wq.heap.size wq).alloc (Nat.le_refl _) _) (Nat.le_refl _)
          have HAB : Hid (∃ C : Array Value, wb.heap[A]? = some (.cells C 54 (0, 0)) ∧ C[k]? = some (Value.pointer (some ⟨g, 0, none⟩))) := by rw [← hwb]; exact ⟨CA, heap_alloc_same hCA _, hCk⟩
          have hbz : wq.heap.size < wb.heap.size := heap_lt HBX.out
          have k0 : wb.cell? ⟨wq.heap.size, 0, none⟩ = some (.int .i64 ok) := cell_at HBX.out rfl
          have k1 : wb.cell? ⟨wq.heap.size, 1, none⟩ = some (.int .i64 on) := cell_at HBX.out rfl
          have k2 : wb.cell? ⟨wq.heap.size, 2, none⟩ = some (.string os') := cell_at HBX.out rfl
          have k3 : wb.cell? ⟨wq.heap.size, 3, none⟩ = some (.slice oko okp.length okc) := cell_at HBX.out rfl
          have k4 : wb.cell? ⟨wq.heap.size, 4, none⟩ = some (.int .i64 oc) := cell_at HBX.out rfl
          clear hc ho hCA hCk hdq
          by_cases e0 : ok = 0
          · subst e0
            have hst : stepC (playC os j) ⟨0, on, os', oko, okc, okp, oc⟩ = ((playC os j).append os').2 := rfl
            rw [hst] at hps
            have HK := Lib.hid (append_any g j (playC os j) _ wb.drew os' (HDB.out.below (Below.refl wb.heap.size wb).drew (Nat.le_refl _)) pok.1 (by omega) hs1)
            have HST : Hid (∀ w5, DiskAt w5 (fun q => ((g ≤ q ∧ q < wq.heap.size) ∧ q < wb.heap.size) ∨ wb.heap.size ≤ q) g (((playC os j).append os').2) → Chg wb.drew w5 (fun q => g ≤ q ∧ q < wq.heap.size) → Mid w5 w.heap.size A (playC os n) gs k g (playC os (j + 1)) ∧ Below w.heap.size w w5) := by
              intro w5 h5 c5
              rw [hps]
              have hcw : Chg wq w5 (fun q => g ≤ q) := HBC.out.drew.trans c5 (fun q hq a => a.1)
              exact ⟨HM.out.1.step hcw (h5.mono fun q _ a => by omega), HM.out.2.trans (hcw.below HM.out.2.size (fun q hq a => by omega))⟩
            clear hst hps
            have hS : (fun w' => w'.cell? ⟨A, k, none⟩ = some (Value.pointer (some ⟨g, 0, none⟩)) ∧ w'.cell? ⟨wq.heap.size, 2, none⟩ = some (.string os') : World → Prop) wb.drew := ⟨cell_at HAB.out.choose_spec.1 HAB.out.choose_spec.2, cell_at HBX.out rfl⟩
            go_wp2_with fail
            try rw [hwb]
            refine AnyTo.region (m := 99) (S := fun w' => w'.cell? ⟨A, k, none⟩ = some (Value.pointer (some ⟨g, 0, none⟩)) ∧ w'.cell? ⟨wq.heap.size, 2, none⟩ = some (.string os')) mixed ?_
            refine AnyTo.takeA (i := 0) (v := ?va0) rfl (by kernel_rfl) (of_decide_eq_true (by kernel_rfl)) (by kernel_rfl) (by kernel_rfl) (fun _ _ _ h => h) (Or.inl ⟨by rfl, ?hya0⟩) hS ?resta0
            case hya0 => (intro w' hw'; (try dsimp only at hw'); go_simp; try (with_reducible rfl))
            refine AnyTo.takeA (i := 1) (v := ?va1) rfl (by kernel_rfl) (of_decide_eq_true (by kernel_rfl)) (by kernel_rfl) (by kernel_rfl) (fun _ _ _ h => h) (Or.inl ⟨by rfl, ?hya1⟩) hS ?resta1
            case hya1 => (intro w' hw'; (try dsimp only at hw'); go_simp; try (with_reducible rfl))
            refine AnyTo.takeA (i := 2) (v := ?va2) rfl (by kernel_rfl) (of_decide_eq_true (by kernel_rfl)) (by kernel_rfl) (by kernel_rfl) (fun _ _ _ h => h) (Or.inl ⟨by rfl, ?hya2⟩) hS ?resta2
            case hya2 => (intro w' hw'; (try dsimp only at hw'); go_simp; try (with_reducible rfl))
            refine AnyTo.takeA (i := 3) (v := ?va3) rfl (by kernel_rfl) (of_decide_eq_true (by kernel_rfl)) (by kernel_rfl) (by kernel_rfl) (fun _ _ _ h => h) (Or.inl ⟨by rfl, ?hya3⟩) hS ?resta3
            case hya3 => (intro w' hw'; (try dsimp only at hw'); go_simp; try (with_reducible rfl))
            refine AnyTo.takeA (i := 4) (v := ?va4) rfl (by kernel_rfl) (of_decide_eq_true (by kernel_rfl)) (by kernel_rfl) (by kernel_rfl) (fun _ _ _ h => h) (Or.inl ⟨by rfl, ?hya4⟩) hS ?resta4
            case hya4 => (intro w' hw'; (try dsimp only at hw'); go_simp; try (with_reducible rfl))
            try simp only [Act.put, List.setIfInBounds_toArray, List.set_cons_zero, List.set_cons_succ]
            refine AnyTo.step (i := 5) (by kernel_rfl) rfl (fun K hK => ?_)
            go_simp
            go_at_call 26
            refine HK.out.mono ?_
            rintro e w5 ⟨rfl, h5, c5⟩
            have HX5 := Lib.hid (c5.heap (w := wb.drew) HBX.out (fun a => absurd a.2 (by omega)))
            have HA5 := Lib.hid (c5.heap (w := wb.drew) HAB.out.choose_spec.1 (fun a => absurd a.1 (by omega)))
            have HCA := Lib.hid HAB.out.choose_spec.2
            have HFIN := Lib.hid (HST.out w5 h5 c5)
            clear h5 c5
            go_wp2_with fail
            refine hK.out _ _ (fun _ => ⟨cell_at HA5.out HCA.out, cell_at HX5.out rfl⟩) ?_
            clear hK K
            try simp only [Act.put, List.setIfInBounds_toArray, List.set_cons_zero, List.set_cons_succ]
            refine AnyTo.done (by kernel_rfl) ?_
            clear hS HX5 HA5 HCA HK HST
            go_wp2_with fail
            go_roundw
            case rel => exact ⟨j + 1, by omega, by go_num, HFIN.out⟩
            case measure => simp [intOf]; omega
          by_cases e1 : ok = 1
          · subst e1
            have hst : stepC (playC os j) ⟨1, on, os', oko, okc, okp, oc⟩ = (playC os j).sync.2 := rfl
            rw [hst] at hps
            have HK := Lib.hid (sync_any g j (playC os j) _ wb HDB.out pok.1 (by omega))
            have HST : Hid (∀ w5, DiskAt w5 (fun q => ((g ≤ q ∧ q < wq.heap.size) ∧ q < wb.heap.size) ∨ wb.heap.size ≤ q) g ((playC os j).sync.2) → Chg wb w5 (fun q => g ≤ q ∧ q < wq.heap.size) → Mid w5 w.heap.size A (playC os n) gs k g (playC os (j + 1)) ∧ Below w.heap.size w w5) := by
              intro w5 h5 c5
              rw [hps]
              have hcw : Chg wq w5 (fun q => g ≤ q) := HBC.out.trans c5 (fun q hq a => a.1)
              exact ⟨HM.out.1.step hcw (h5.mono fun q _ a => by omega), HM.out.2.trans (hcw.below HM.out.2.size (fun q hq a => by omega))⟩
            clear hst hps
            have hqA : wb.cell? ⟨A, k, none⟩ = some (Value.pointer (some ⟨g, 0, none⟩)) := cell_at HAB.out.choose_spec.1 HAB.out.choose_spec.2
            go_wp2_with fail
            try rw [hwb]
            refine HK.out.mono ?_
            rintro e w5 ⟨rfl, h5, c5⟩
            have HFIN := Lib.hid (HST.out w5 h5 c5)
            clear h5 c5 HK HST
            go_wp2_with fail
            go_roundw
            case rel => exact ⟨j + 1, by omega, by go_num, HFIN.out⟩
            case measure => simp [intOf]; omega
          by_cases e2 : ok = 2
          · subst e2
            have hst : stepC (playC os j) ⟨2, on, os', oko, okc, okp, oc⟩ = ((playC os j).trunc on).2 := rfl
            rw [hst] at hps
            have HK := Lib.hid (trunc_any g j (playC os j) _ wb.drew on (HDB.out.below (Below.refl wb.heap.size wb).drew (Nat.le_refl _)) pok.1 (by omega))
            have HST : Hid (∀ w5, DiskAt w5 (fun q => ((g ≤ q ∧ q < wq.heap.size) ∧ q < wb.heap.size) ∨ wb.heap.size ≤ q) g (((playC os j).trunc on).2) → Chg wb.drew w5 (fun q => g ≤ q ∧ q < wq.heap.size) → Mid w5 w.heap.size A (playC os n) gs k g (playC os (j + 1)) ∧ Below w.heap.size w w5) := by
              intro w5 h5 c5
              rw [hps]
              have hcw : Chg wq w5 (fun q => g ≤ q) := HBC.out.drew.trans c5 (fun q hq a => a.1)
              exact ⟨HM.out.1.step hcw (h5.mono fun q _ a => by omega), HM.out.2.trans (hcw.below HM.out.2.size (fun q hq a => by omega))⟩
            clear hst hps
            have hS : (fun w' => w'.cell? ⟨A, k, none⟩ = some (Value.pointer (some ⟨g, 0, none⟩)) ∧ w'.cell? ⟨wq.heap.size, 1, none⟩ = some (.int .i64 on) : World → Prop) wb.drew := ⟨cell_at HAB.out.choose_spec.1 HAB.out.choose_spec.2, cell_at HBX.out rfl⟩
            go_wp2_with fail
            try rw [hwb]
            refine AnyTo.region (m := 99) (S := fun w' => w'.cell? ⟨A, k, none⟩ = some (Value.pointer (some ⟨g, 0, none⟩)) ∧ w'.cell? ⟨wq.heap.size, 1, none⟩ = some (.int .i64 on)) mixed ?_
            refine AnyTo.takeA (i := 0) (v := ?vb0) rfl (by kernel_rfl) (of_decide_eq_true (by kernel_rfl)) (by kernel_rfl) (by kernel_rfl) (fun _ _ _ h => h) (Or.inl ⟨by rfl, ?hyb0⟩) hS ?restb0
            case hyb0 => (intro w' hw'; (try dsimp only at hw'); go_simp; try (with_reducible rfl))
            refine AnyTo.takeA (i := 1) (v := ?vb1) rfl (by kernel_rfl) (of_decide_eq_true (by kernel_rfl)) (by kernel_rfl) (by kernel_rfl) (fun _ _ _ h => h) (Or.inl ⟨by rfl, ?hyb1⟩) hS ?restb1
            case hyb1 => (intro w' hw'; (try dsimp only at hw'); go_simp; try (with_reducible rfl))
            refine AnyTo.takeA (i := 2) (v := ?vb2) rfl (by kernel_rfl) (of_decide_eq_true (by kernel_rfl)) (by kernel_rfl) (by kernel_rfl) (fun _ _ _ h => h) (Or.inl ⟨by rfl, ?hyb2⟩) hS ?restb2
            case hyb2 => (intro w' hw'; (try dsimp only at hw'); go_simp; try (with_reducible rfl))
            refine AnyTo.takeA (i := 3) (v := ?vb3) rfl (by kernel_rfl) (of_decide_eq_true (by kernel_rfl)) (by kernel_rfl) (by kernel_rfl) (fun _ _ _ h => h) (Or.inl ⟨by rfl, ?hyb3⟩) hS ?restb3
            case hyb3 => (intro w' hw'; (try dsimp only at hw'); go_simp; try (with_reducible rfl))
            refine AnyTo.takeA (i := 4) (v := ?vb4) rfl (by kernel_rfl) (of_decide_eq_true (by kernel_rfl)) (by kernel_rfl) (by kernel_rfl) (fun _ _ _ h => h) (Or.inl ⟨by rfl, ?hyb4⟩) hS ?restb4
            case hyb4 => (intro w' hw'; (try dsimp only at hw'); go_simp; try (with_reducible rfl))
            try simp only [Act.put, List.setIfInBounds_toArray, List.set_cons_zero, List.set_cons_succ]
            refine AnyTo.step (i := 5) (by kernel_rfl) rfl (fun K hK => ?_)
            go_simp
            go_at_call 35
            refine HK.out.mono ?_
            rintro e w5 ⟨rfl, h5, c5⟩
            have HX5 := Lib.hid (c5.heap (w := wb.drew) HBX.out (fun a => absurd a.2 (by omega)))
            have HA5 := Lib.hid (c5.heap (w := wb.drew) HAB.out.choose_spec.1 (fun a => absurd a.1 (by omega)))
            have HCA := Lib.hid HAB.out.choose_spec.2
            have HFIN := Lib.hid (HST.out w5 h5 c5)
            clear h5 c5
            go_wp2_with fail
            refine hK.out _ _ (fun _ => ⟨cell_at HA5.out HCA.out, cell_at HX5.out rfl⟩) ?_
            clear hK K
            try simp only [Act.put, List.setIfInBounds_toArray, List.set_cons_zero, List.set_cons_succ]
            refine AnyTo.done (by kernel_rfl) ?_
            clear hS HX5 HA5 HCA HK HST
            go_wp2_with fail
            go_roundw
            case rel => exact ⟨j + 1, by omega, by go_num, HFIN.out⟩
            case measure => simp [intOf]; omega
          have hst : stepC (playC os j) ⟨ok, on, os', oko, okc, okp, oc⟩ = playC os j := by
            unfold stepC; rw [if_neg e0, if_neg e1, if_neg e2]
          rw [hst] at hps
          have HFIN : Hid (Mid wb w.heap.size A (playC os n) gs k g (playC os (j + 1)) ∧ Below w.heap.size w wb) := by
            rw [← hps] at HDB
            exact ⟨HM.out.1.step HBC.out (HDB.out.mono fun q _ a => a.1), HM.out.2.trans (HBC.out.below hz (fun q hq a => by omega))⟩
          have f0 : (ok == 0) = false := by rw [beq_eq_false_iff_ne]; exact e0
          have f1 : (ok == 1) = false := by rw [beq_eq_false_iff_ne]; exact e1
          have f2 : (ok == 2) = false := by rw [beq_eq_false_iff_ne]; exact e2
          clear hst hps e0 e1 e2
          go_wp2_with fail
          try rw [hwb]
          go_roundw
          case rel => exact ⟨j + 1, by omega, by go_num, HFIN.out⟩
          case measure => simp [intOf]; omega
        · obtain rfl : j = n := by omega
          have HMD := Lib.hid HM.out.1.done
          have HWD := Lib.hid HM.out.2
          clear HM
          go_wp2_with fail
          go_roundw
          case rel => exact ⟨k + 1, gs ++ [g], by omega, by go_num, HMD.out.2, HMD.out.1, HWD.out⟩
          case measure => simp [intOf]; omega
    · obtain rfl : k = 3 := by omega
      obtain ⟨g0, g1, g2, rfl⟩ := made_three HG.out
      have hps := playC_ok os n (by rw [HL.out]; omega)
      obtain ⟨s, hs⟩ : ∃ s, playC os n = s := ⟨_, rfl⟩
      rw [hs] at hps HR
      clear hs HG
      obtain ⟨pok, pfl, pfd, pfc⟩ := hps
      have pal := pok.all
      have ppc := pok.pieces
      rw [pfc] at pal
      have hT0 := HR.out.1.trio
      have hz0 := HR.out.2.size
      have HW0 := Lib.hid HR.out.2
      have POK := Lib.hid pok
      have hml : s.lasts.size ≤ s.bytes.size := bytes_ge s
      have hbl : s.bytes.size ≤ 10000 := by rw [bytes_size]; omega
      have hcut : s.bytes.extract 0 s.lasts.size = s.lasts := lasts_all s
      have hcr0 : (s.crash (List.replicate 200 true) (-1)).bytes = s.bytes := crash_keeps s _ (fun i hi => by rw [List.getD_eq_getElem?_getD, List.getElem?_replicate, if_pos (by omega)]; rfl)
      have hcr1 := crash_spoils s
      have hcr2 : (s.crash (List.replicate 200 true) 0).bytes = s.lasts := crash_cuts s _
      have hal : s.all.length = s.bytes.size := (bytes_size s).symm
      rw [hal] at hcr1
      have hcl : ∀ keep cut, (s.crash keep cut).all.length ≤ 10000 := fun keep cut => by have := crash_len s keep cut; omega
      have hcp : ∀ keep cut, (s.crash keep cut).pieces.length ≤ 1000000 := fun keep cut => by show 0 ≤ _; omega
      have hlas := fun v F g (h : DiskAt v F g s) => lasts_any g s F v h
      have hred : ∀ v F g, DiskAt v F g s → Calls Try.prog 27 #[.pointer (some ⟨g, 0, none⟩)] v fun e w' => e = .returned (.tuple #[.string s.bytes, .int .i64 0]) ∧ Below v.heap.size v w' := fun v F g h => read_up g s F v h pfd (by omega) (by omega)
      have hrc : ∀ keep cut v F g, DiskAt v F g (s.crash keep cut) → Calls Try.prog 27 #[.pointer (some ⟨g, 0, none⟩)] v fun e w' => e = .returned (.tuple #[.string (s.crash keep cut).bytes, .int .i64 0]) ∧ Below v.heap.size v w' := fun keep cut v F g h => read_up g _ F v h rfl (by have := hcl keep cut; omega) (hcp keep cut)
      have HR0 := Lib.hid (fun v F g => hrc (List.replicate 200 true) (-1) v F g)
      have HR1 := Lib.hid (fun v F g => hrc [] (-1) v F g)
      have HR2 := Lib.hid (fun v F g => hrc (List.replicate 200 true) 0 v F g)
      rw [hcr0] at HR0
      rw [hcr1] at HR1
      rw [hcr2] at HR2
      have HLS := Lib.hid hlas
      have HRD := Lib.hid hred
      obtain ⟨BY, hBY⟩ : ∃ b, s.bytes = b := ⟨_, rfl⟩
      obtain ⟨LA, hLA⟩ : ∃ b, s.lasts = b := ⟨_, rfl⟩
      obtain ⟨m, hm⟩ : ∃ m : Nat, s.lasts.size = m := ⟨_, rfl⟩
      rw [hm] at hml hcut HLS HR1
      rw [hBY] at HRD HR0 HR1 hml hbl hcut
      rw [hLA] at hcut HR1 HR2
      obtain ⟨z, hz⟩ : ∃ z : Nat, BY.size - m = z := ⟨_, rfl⟩
      rw [hz] at HR1
      have hzi : (BY.size : Int) - (m : Int) = (z : Int) := by omega
      obtain ⟨Z, hZ⟩ : ∃ b : ByteArray, (⟨(LA.data.toList ++ List.replicate z 0).toArray⟩ : ByteArray) = b := ⟨_, rfl⟩
      rw [hZ] at HR1
      have HZ : Hid (LA ++ { data := Array.replicate z 0 } = Z) := by
        show LA ++ ⟨Array.replicate z 0⟩ = Z
        rw [← hZ]; apply ByteArray.ext; simp
      have hla4 : LA.size ≤ 10000 := by rw [← hLA, hm]; omega
      have HWR : Hid (IntKind.i64.wrap ((BY.size : Int) - (m : Int)) = (z : Int)) := by show IntKind.i64.wrap _ = _; rw [IntWalk.i64_in _ (by omega)]; exact hzi
      have hz4 : z ≤ 10000 := by omega
      have HCUT := Lib.hid hcut
      clear hz hzi hZ hcut
      have HT0 := Lib.hid hT0
      have hAz := hT0.lt
      obtain ⟨⟨C0, x0, x1, x2, x3⟩, -⟩ := hT0
      have c0 : wo.cell? ⟨A, 0, none⟩ = some (Value.pointer (some ⟨g0, 0, none⟩)) := cell_at x0 x1
      obtain ⟨F0, D0, -⟩ := HT0.out.at0 hz0
      have HRD0 := Lib.hid (HRD.out wo F0 g0 D0)
      clear HR pok pfl pfd pfc pal ppc hcr0 hcr1 hcr2 hal hcl hcp hlas hred hrc hBY hLA hm x0 x1 x2 x3 D0
      go_wp2_with fail
      refine HRD0.out.mono ?_
      rintro e v1 ⟨rfl, hb1⟩
      have HT1 := Lib.hid (HT0.out.below hb1)
      have HW1 : Hid (Below w.heap.size w v1) := HW0.out.trans (hb1.mono hz0)
      have hz1 := HW1.out.size
      obtain ⟨⟨C1, x0, x1, x2, x3⟩, -⟩ := id HT1.out
      have c1 : v1.cell? ⟨A, 0, none⟩ = some (Value.pointer (some ⟨g0, 0, none⟩)) := cell_at x0 x1
      obtain ⟨F1, D1, -⟩ := HT1.out.at0 hz1
      have HLS1 := Lib.hid (HLS.out v1 F1 g0 D1)
      have hK0 := HT1.out.lt
      clear hb1 HRD0 x0 x1 x2 x3 D1
      go_wp2_with fail
      refine HLS1.out.mono ?_
      rintro e v1' ⟨rfl, rfl⟩
      obtain ⟨v2, hmk, hb2, hk2⟩ := keepOf v1
      obtain ⟨K, hK⟩ : ∃ K, v1.heap.size = K := ⟨_, rfl⟩
      have HT2 : Hid (Trio v2 w.heap.size (fun q => q = A ∨ q = K) A g0 g1 g2 s s s) := by
        refine HT1.out.extend hb2 (fun q hq a => ?_) (.inl rfl) (fun q a => ?_)
        · rcases a with a | a
          · exact a
          · omega
        · rcases a with a | a
          · have := hb2.size; omega
          · obtain ⟨_, h, _⟩ := hk2; have := heap_lt h; omega
      have HW2 : Hid (Below w.heap.size w v2) := HW1.out.trans (hb2.mono hz1)
      rw [hK] at hmk hk2
      have HK2 := Lib.hid hk2
      have hKA : K ≠ A := by omega
      have hzK : w.heap.size ≤ K := by omega
      clear hb2 hk2 hK HLS1 hK0
      go_wp2_with fail
      go_loopw [72] (fun i wr => ∃ k : Nat, k ≤ 200 ∧ i = .int .i64 k ∧ Hid (KeepAt wr K k) ∧ Hid (Trio wr w.heap.size (fun q => q = A ∨ q = K) A g0 g1 g2 s s s ∧ Below w.heap.size w wr)) (fun i _ => 200 - (intOf i).toNat)
      case atStart => exact ⟨0, by omega, rfl, HK2.out, HT2.out, HW2.out⟩
      case round =>
        obtain ⟨k, hk, rfl, HK, HR⟩ := hrel
        clear HK2 HT2 HW2
        obtain ⟨v3, hv3⟩ : ∃ v3 : World, v3 = wr := ⟨_, rfl⟩
        rw [← hv3] at HK HR ⊢
        clear hv3
        by_cases hlt : k < 200
        · obtain ⟨⟨u, hu⟩, hf, hkn⟩ := HK.out.next hlt
          have hKz : K < v3.heap.size := by obtain ⟨_, h, _⟩ := HK.out; exact heap_lt h
          have HN : Hid (KeepAt (v3.setCell ⟨K, k, none⟩ (.bool true)) K (k + 1) ∧ Trio (v3.setCell ⟨K, k, none⟩ (.bool true)) w.heap.size (fun q => q = A ∨ q = K) A g0 g1 g2 s s s ∧ Below w.heap.size w (v3.setCell ⟨K, k, none⟩ (.bool true))) :=
            ⟨hkn, HR.out.1.other (S := fun q => q = K) ((Chg.refl v3 (fun q => q = K)).setCell (fun _ => rfl) _) (fun q hq => ⟨.inr hq, by omega⟩), HR.out.2.setCell (by exact hzK) _⟩
          clear hkn
          go_wp2_with fail
          go_roundw
          case rel => exact ⟨k + 1, by omega, by go_num, HN.out.1, HN.out.2⟩
          case measure => simp [intOf]; omega
        · obtain rfl : k = 200 := by omega
          have HTv3 := Lib.hid HR.out.1
          have HWv3 := Lib.hid HR.out.2
          clear HR hz1 c1
          obtain ⟨⟨_, x, x0, x1, x2⟩, -⟩ := id HTv3.out
          have av3 : v3.cell? ⟨A, 0, none⟩ = some (Value.pointer (some ⟨g0, 0, none⟩)) := cell_at x x0
          clear x x0 x1 x2
          have hzv3 := HWv3.out.size
          have hAzv3 := HTv3.out.lt
          obtain ⟨Fv3, D, hX, hF, hturn⟩ := HTv3.out.at0 hzv3
          have hcr := crash_any g0 n s Fv3 v3 (List.replicate 200 true) (some ⟨K, 0, none⟩) 200 (-1) D POK.out (by omega) HK.out.bools (by rw [List.length_replicate]; omega)
          rw [List.length_replicate] at hcr
          have HCR := Lib.hid hcr
          have HTU := Lib.hid hturn
          have HF := Lib.hid hF
          have HX := Lib.hid hX
          clear D hX hF hturn hcr
          go_wp2_with fail
          refine HCR.out.mono ?_
          rintro e v4 ⟨rfl, hd, hc⟩
          have HTv4 := Lib.hid (HTU.out v4 _ hd hc)
          have HWv4 : Hid (Below w.heap.size w v4) := HWv3.out.trans (hc.below hzv3 (fun q hq a => by have := HF.out q a; omega))
          have HKv4 : Hid (KeepAt v4 K 200) := by
            obtain ⟨C, h1, h2⟩ := HK.out
            exact ⟨C, hc.heap h1 (HX.out K (.inr rfl)), h2⟩
          clear hd hc HCR HTU HF HX av3
          obtain ⟨⟨_, x, x0, x1, x2⟩, -⟩ := id HTv4.out
          have av4 : v4.cell? ⟨A, 1, none⟩ = some (Value.pointer (some ⟨g1, 0, none⟩)) := cell_at x x1
          clear x x0 x1 x2
          have hzv4 := HWv4.out.size
          have hAzv4 := HTv4.out.lt
          obtain ⟨Fv4, D, hX, hF, hturn⟩ := HTv4.out.at1 hzv4
          have hcr := crash_any g1 n s Fv4 v4 [] none 0 (-1) D POK.out (by omega) (fun i b hi => by simp at hi) (by simp)
          have HCR := Lib.hid hcr
          have HTU := Lib.hid hturn
          have HF := Lib.hid hF
          have HX := Lib.hid hX
          clear D hX hF hturn hcr
          go_wp2_with fail
          refine HCR.out.mono ?_
          rintro e v5 ⟨rfl, hd, hc⟩
          have HTv5 := Lib.hid (HTU.out v5 _ hd hc)
          have HWv5 : Hid (Below w.heap.size w v5) := HWv4.out.trans (hc.below hzv4 (fun q hq a => by have := HF.out q a; omega))
          have HKv5 : Hid (KeepAt v5 K 200) := by
            obtain ⟨C, h1, h2⟩ := HKv4.out
            exact ⟨C, hc.heap h1 (HX.out K (.inr rfl)), h2⟩
          clear hd hc HCR HTU HF HX av4
          obtain ⟨⟨_, x, x0, x1, x2⟩, -⟩ := id HTv5.out
          have av5 : v5.cell? ⟨A, 2, none⟩ = some (Value.pointer (some ⟨g2, 0, none⟩)) := cell_at x x2
          clear x x0 x1 x2
          have hzv5 := HWv5.out.size
          have hAzv5 := HTv5.out.lt
          obtain ⟨Fv5, D, hX, hF, hturn⟩ := HTv5.out.at2 hzv5
          have hcr := crash_any g2 n s Fv5 v5 (List.replicate 200 true) (some ⟨K, 0, none⟩) 200 0 D POK.out (by omega) HKv5.out.bools (by rw [List.length_replicate]; omega)
          rw [List.length_replicate] at hcr
          have HCR := Lib.hid hcr
          have HTU := Lib.hid hturn
          have HF := Lib.hid hF
          have HX := Lib.hid hX
          clear D hX hF hturn hcr
          go_wp2_with fail
          refine HCR.out.mono ?_
          rintro e v6 ⟨rfl, hd, hc⟩
          have HTv6 := Lib.hid (HTU.out v6 _ hd hc)
          have HWv6 : Hid (Below w.heap.size w v6) := HWv5.out.trans (hc.below hzv5 (fun q hq a => by have := HF.out q a; omega))
          have HKv6 : Hid (KeepAt v6 K 200) := by
            obtain ⟨C, h1, h2⟩ := HKv5.out
            exact ⟨C, hc.heap h1 (HX.out K (.inr rfl)), h2⟩
          clear hd hc HCR HTU HF HX av5
          obtain ⟨⟨_, x, x0, x1, x2⟩, -⟩ := id HTv6.out
          have av6 : v6.cell? ⟨A, 0, none⟩ = some (Value.pointer (some ⟨g0, 0, none⟩)) := cell_at x x0
          clear x x0 x1 x2
          have hzv6 := HWv6.out.size
          have hAzv6 := HTv6.out.lt
          obtain ⟨Fv6, D, -⟩ := HTv6.out.at0 hzv6
          have HRE := Lib.hid (HR0.out v6 Fv6 g0 D)
          clear D
          go_wp2_with fail
          refine HRE.out.mono ?_
          rintro e v7 ⟨rfl, hb⟩
          have HTv7 := Lib.hid (HTv6.out.below hb)
          have HWv7 : Hid (Below w.heap.size w v7) := HWv6.out.trans (hb.mono hzv6)
          clear hb HRE av6
          obtain ⟨⟨_, x, x0, x1, x2⟩, -⟩ := id HTv7.out
          have av7 : v7.cell? ⟨A, 1, none⟩ = some (Value.pointer (some ⟨g1, 0, none⟩)) := cell_at x x1
          clear x x0 x1 x2
          have hzv7 := HWv7.out.size
          have hAzv7 := HTv7.out.lt
          obtain ⟨Fv7, D, -⟩ := HTv7.out.at1 hzv7
          have HRE := Lib.hid (HR1.out v7 Fv7 g1 D)
          clear D
          go_wp2_with fail
          refine HRE.out.mono ?_
          rintro e v8 ⟨rfl, hb⟩
          have HTv8 := Lib.hid (HTv7.out.below hb)
          have HWv8 : Hid (Below w.heap.size w v8) := HWv7.out.trans (hb.mono hzv7)
          clear hb HRE av7
          obtain ⟨⟨_, x, x0, x1, x2⟩, -⟩ := id HTv8.out
          have av8 : v8.cell? ⟨A, 2, none⟩ = some (Value.pointer (some ⟨g2, 0, none⟩)) := cell_at x x2
          clear x x0 x1 x2
          have hzv8 := HWv8.out.size
          have hAzv8 := HTv8.out.lt
          obtain ⟨Fv8, D, -⟩ := HTv8.out.at2 hzv8
          have HRE := Lib.hid (HR2.out v8 Fv8 g2 D)
          clear D
          go_wp2_with fail
          refine HRE.out.mono ?_
          rintro e v9 ⟨rfl, hb⟩
          have HTv9 := Lib.hid (HTv8.out.below hb)
          have HWv9 : Hid (Below w.heap.size w v9) := HWv8.out.trans (hb.mono hzv8)
          clear hb HRE av8
          have hz9 := HWv9.out.size
          clear HR0 HR1 HR2 HRD HLS HT0 HT1 HTv3 HTv4 HTv5 HTv6 HTv7 HTv8 HTv9 HKv4 HKv5 HKv6 HK
          go_wp2_with fail
          refine dcReg (B := w.heap.size) hz9 hz4 hml hbl hla4 HZ.out HWR.out HCUT.out (fun _ _ _ _ _ h => h) ?_
          intro w' x111 x112 x113 x114 x115 x116 x117 x118 x119 x120 x121 x122 x123 x124 x125 x126 x127 x128 x129 x130 x131 x132 x133 x134 x135 x136 x137 x138 hB
          have HEND := Lib.hid (HWv9.out.trans hB)
          clear hB HZ HWR HCUT
          go_wp2_with fail
          go_ret
          exact ⟨rfl, HEND.out⟩

set_option maxRecDepth 100000 in
theorem diskCrashes_lawful : Lawful 9 Try.f9 := by
  intro H enc W base args ds p hval hA hlt hsz
  rw [Try.params9] at hA hval hsz
  obtain ⟨v0, d0, rfl, rfl, h0⟩ := trodAll_one hA
  obtain ⟨os, b, off, ao, n, cap, rfl, _, hn, hl, hok, hao, hb, hc⟩ := sliceArg dopCells (DOpOk W) 5 (by omega) under_dops cells_dop rdDOp (hval 0 44 v0 rfl rfl) h0 (weights_in (j := 0) hsz rfl rfl) hlt (fun x hx => hx)
  by_cases hlet : Big14 os
  · exact diskCrashes_let ao b off n cap os W hn hl hao hb hok hc hlet
  · exact diskCrashes_law ao b off n cap os W hn hl hao hb hok hc hlet

theorem diskCrashes_holds : Rows.DiskCrashesSaid :=
  OpenClaim.holds_of_wide 9 Try.f9 rfl rfl rfl rfl rfl rfl rfl ⟨rfl, rfl, rfl, rfl, rfl⟩ rfl rfl rfl rfl rfl (by kernel_rfl) Try.func9 (by kernel_rfl)
    (of_decide_eq_true (by kernel_rfl)) (by unfold Func.isWrapper; rw [if_neg (of_decide_eq_false (by kernel_rfl))]; exact ⟨rfl, rfl⟩)
    (fun os started H enc _ => law_lift (s := Rows.diskCrashesSpec) Try.func9 (by kernel_rfl) rfl rfl rfl (by rw [Try.params9]; intro t ht; simp at ht; exact ht ▸ ⟨by kernel_rfl, of_decide_eq_true (by kernel_rfl)⟩)
      (by rw [Try.params9]; intro H ds hds; match ds, hds with | [d], _ => exact ⟨rfl, rfl, rfl⟩) diskCrashes_lawful os started H enc
      (ChangeSpec.witness6 (enc := enc) (C := Try.checked) false ⟨#[], #[.slice none 0 0], []⟩ 8 (by kernel_rfl) (by kernel_rfl) (by kernel_rfl) (by kernel_rfl)))
end Go.Proofs.Ytpnmhpkpkejdiaa
