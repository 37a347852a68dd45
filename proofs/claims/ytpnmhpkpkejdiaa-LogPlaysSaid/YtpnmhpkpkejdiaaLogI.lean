/- Layer 15: what LogPlays holds in memory: a disk, a log, two lists of texts of its own. -/
import Derived.Test.YtpnmhpkpkejdiaaLogH
namespace Go.Proofs.Ytpnmhpkpkejdiaa
open Go.RowKit

/-- as clone_any, and where the new slice lies -/
theorem clone_sl (ao : Option Addr) (cap : Nat) (l : List ByteArray) (w : World) (h : StrsAt w ao l) (hl : l.length ≤ 1000000) :
    Calls Try.prog 64 #[.slice ao l.length cap] w fun e w' => ∃ ao' cap', e = .returned (.slice ao' l.length cap') ∧ Sl w' (fun k => w.heap.size ≤ k) 9 1 (.slice ao' l.length cap') l.length (strCells l) ∧ Below w.heap.size w w' := by
  have hown : ∀ (w' : World) (v' : Value), w'.ownsRow w.heap.size 9 1 v' l.length (l.map Value.string) → ∃ ao' cap', v' = .slice ao' l.length cap' ∧ Sl w' (fun k => w.heap.size ≤ k) 9 1 (.slice ao' l.length cap') l.length (strCells l) := by
    intro w' v' ho
    have hsl : Sl w' (fun k => w.heap.size ≤ k) 9 1 v' l.length (strCells l) := by
      refine ⟨by rw [strCells_length]; omega, ?_⟩
      rcases ho.2 with a | ⟨g, c, cur, a1, a2, a3, a4, a5, a6, a7⟩
      · exact .inl a
      · exact .inr ⟨g, 0, c, cur, a1, a2, a3, a4, a5, by omega, by rw [List.drop_zero]; exact a7⟩
    obtain ⟨ao', cap', rfl, _, _⟩ := hsl.shape
    exact ⟨ao', cap', rfl, hsl⟩
  cases ao with
  | none =>
    have hl0 : l = [] := by
      cases l with
      | nil => rfl
      | cons x l =>
        obtain ⟨_, _, e, _⟩ := h 0 x rfl
        cases e
    subst hl0
    refine (Try.slices_Clone_string_nil 0 cap w).mono fun e w' ⟨he, hw⟩ => ?_
    subst hw
    exact ⟨none, 0, he, Sl.nil _ _ _ _, Below.refl _ _⟩
  | some a =>
    by_cases hl0 : l.length = 0
    · have hnil : l = [] := List.eq_nil_of_length_eq_zero hl0
      subst hnil
      refine (Try.slices_Clone_string_zero a cap w).mono fun e w' ⟨v', he, ho, _, hb⟩ => ?_
      obtain ⟨ao', cap', rfl, hs⟩ := hown w' v' ho
      exact ⟨ao', cap', he, hs, hb⟩
    · obtain ⟨x, hx⟩ : ∃ x, l[0]? = some x := ⟨_, List.getElem?_eq_getElem (by omega)⟩
      obtain ⟨b, off, e, _⟩ := h 0 x hx
      simp only [Option.some.injEq] at e
      subst e
      refine (Try.slices_Clone_string b off l.length cap l w (Nat.le_refl _) (by omega) (fun j hj => ?_)).mono fun e w' ⟨v', he, ho, _, hb⟩ => ?_
      · obtain ⟨y, hy⟩ : ∃ y, l[j]? = some y := ⟨_, List.getElem?_eq_getElem hj⟩
        obtain ⟨b', off', e', hc⟩ := h j y hy
        simp only [Option.some.injEq, Addr.mk.injEq] at e'
        obtain ⟨rfl, rfl, -⟩ := e'
        rw [List.getD_eq_getElem?_getD, hy]
        exact hc
      · rw [List.take_length] at ho
        obtain ⟨ao', cap', rfl, hs⟩ := hown w' v' ho
        exact ⟨ao', cap', he, hs, hb⟩
set_option maxRecDepth 100000 in
set_option maxHeartbeats 800000 in
theorem logAll_sl (gl gd : Nat) (l : List ByteArray) (F : Nat → Prop) (w : World) (h : LogAt w F gl gd l) (hl : l.length ≤ 1000000) :
    Calls Try.prog 48 #[.pointer (some ⟨gl, 0, none⟩)] w fun e w' => ∃ ao' cap', e = .returned (.slice ao' l.length cap') ∧ Sl w' (fun k => w.heap.size ≤ k) 9 1 (.slice ao' l.length cap') l.length (strCells l) ∧ Below w.heap.size w w' := by
  obtain ⟨ao, cap, _, _, h2, h3⟩ := h.cells
  have c1 : w.cell? ⟨gl, 1, none⟩ = some (.slice ao l.length cap) := cell_at h2 rfl
  have HC := Lib.hid (clone_sl ao cap l w h3.strs hl)
  clear h h2 h3
  obtain ⟨n, hn⟩ : ∃ n, l.length = n := ⟨_, rfl⟩
  rw [hn] at HC c1 ⊢
  clear hn
  go_enter Try.func48, Try.ntmps48
  go_wp2_with fail
  refine HC.out.mono ?_
  rintro e w' ⟨ao', cap', rfl, h1, h2⟩
  have H1 := Lib.hid h1
  have H2 := Lib.hid h2
  clear h1 h2
  go_wp2_with fail
  go_ret
  exact ⟨ao', cap', rfl, H1.out, H2.out⟩

/-- a disk, its log (of the records has), and two lists of texts, has and might, that nobody turns; what Y names is turned by nobody either -/
def LP (w : World) (B : Nat) (Y : Nat → Prop) (gd gl : Nat) (s : DSt) (vh vm : Value) (has might : List ByteArray) : Prop :=
  ∃ X : Nat → Prop, (∀ q, Y q → X q) ∧ LD w B X gd gl s has ∧ Sl w X 9 1 vh has.length (strCells has) ∧ Sl w X 9 1 vm might.length (strCells might)
theorem LP.below {w w' : World} {B gd gl : Nat} {Y : Nat → Prop} {s : DSt} {vh vm : Value} {has might : List ByteArray} (h : LP w B Y gd gl s vh vm has might) (hb : Below w.heap.size w w') : LP w' B Y gd gl s vh vm has might := by
  obtain ⟨X, h1, h2, h3, h4⟩ := h
  exact ⟨X, h1, h2.below hb, sl_below h3 hb (Nat.le_refl _), sl_below h4 hb (Nat.le_refl _)⟩
/-- what Y names may be less -/
theorem LP.less {w : World} {B gd gl : Nat} {Y Z : Nat → Prop} {s : DSt} {vh vm : Value} {has might : List ByteArray} (h : LP w B Y gd gl s vh vm has might) (hz : ∀ q, Z q → Y q) : LP w B Z gd gl s vh vm has might := by
  obtain ⟨X, h1, h2, h3, h4⟩ := h
  exact ⟨X, fun q a => h1 q (hz q a), h2, h3, h4⟩
/-- a new block is named -/
theorem LP.box {w w' : World} {B gd gl : Nat} {Y : Nat → Prop} {s : DSt} {vh vm : Value} {has might : List ByteArray} (h : LP w B Y gd gl s vh vm has might) (hb : Below w.heap.size w w') (hz : w.heap.size < w'.heap.size) : LP w' B (fun q => q = w.heap.size) gd gl s vh vm has might := by
  obtain ⟨X, h1, h2, h3, h4⟩ := h
  refine ⟨fun q => X q ∨ q = w.heap.size, fun q a => .inr a, h2.extend hb (fun q hq a => a.resolve_right (by omega)) (fun q a => ?_), (sl_below h3 hb (Nat.le_refl _)).mono fun k _ a => .inl a, (sl_below h4 hb (Nat.le_refl _)).mono fun k _ a => .inl a⟩
  rcases a with a | a
  · exact Nat.lt_of_lt_of_le (h2.1 q a) hb.size
  · omega
/-- other lists, new ones -/
theorem LP.lists {w w' : World} {B gd gl : Nat} {Y : Nat → Prop} {s : DSt} {vh vm vh' vm' : Value} {has might might' : List ByteArray} (h : LP w B Y gd gl s vh vm has might) (hb : Below w.heap.size w w')
    (h1 : vh' = vh ∨ Sl w' (fun k => w.heap.size ≤ k) 9 1 vh' has.length (strCells has)) (h2 : Sl w' (fun k => w.heap.size ≤ k) 9 1 vm' might'.length (strCells might')) : LP w' B Y gd gl s vh' vm' has might' := by
  obtain ⟨X, g1, g2, g3, g4⟩ := h
  refine ⟨fun q => X q ∨ (w.heap.size ≤ q ∧ q < w'.heap.size), fun q a => .inl (g1 q a), g2.extend hb (fun q hq a => a.resolve_right (by omega)) (fun q a => ?_), ?_, h2.mono fun k hk a => .inr ⟨a, hk⟩⟩
  · rcases a with a | a
    · exact Nat.lt_of_lt_of_le (g2.1 q a) hb.size
    · exact a.2
  · rcases h1 with rfl | h1
    · exact (sl_below g3 hb (Nat.le_refl _)).mono fun k _ a => .inl a
    · exact h1.mono fun k hk a => .inr ⟨a, hk⟩
/-- the disk turns -/
theorem LP.disk {w : World} {B gd gl : Nat} {Y : Nat → Prop} {s : DSt} {vh vm : Value} {has might : List ByteArray} (h : LP w B Y gd gl s vh vm has might) (hB : B ≤ w.heap.size) : ∃ F : Nat → Prop, DiskAt w F gd s ∧ (∀ q, Y q → ¬ F q) ∧ (∀ q, F q → B ≤ q) ∧
    ∀ (w' : World) (s' : DSt), DiskAt w' (fun k => (F k ∧ k < w.heap.size) ∨ w.heap.size ≤ k) gd s' → Chg w w' F → LP w' B Y gd gl s' vh vm has might := by
  obtain ⟨X, g1, g2, g3, g4⟩ := h
  obtain ⟨F, d1, d2, d3, _, d5⟩ := g2.disk hB
  exact ⟨F, d1, fun q a => d2 q (g1 q a), d3, fun w' s' hd hc => ⟨X, g1, d5 w' s' hd hc, g3.chg hc (fun k a => d2 k a), g4.chg hc (fun k a => d2 k a)⟩⟩
/-- a record is appended: the log's list may be another now than has -/
theorem LP.app {w : World} {B gd gl : Nat} {Y : Nat → Prop} {s : DSt} {vh vm : Value} {has might : List ByteArray} (h : LP w B Y gd gl s vh vm has might) (N : Nat) (x : ByteArray) (ok : DOk N s) (hN : N ≤ 50000) (hl : has.length ≤ 100000) (hx : x.size ≤ 100000) (hB : B ≤ w.heap.size) :
    Calls Try.prog 47 #[.pointer (some ⟨gl, 0, none⟩), .string x] w fun e w' => e = .returned (.int .i64 (appD s x).1) ∧ Below B w w' ∧ (∃ X : Nat → Prop, (∀ q, Y q → X q) ∧ LD w' B X gd gl (appD s x).2 (if (appD s x).1 = 0 then has ++ [x] else has) ∧ Sl w' X 9 1 vh has.length (strCells has) ∧ Sl w' X 9 1 vm might.length (strCells might)) := by
  obtain ⟨X, g1, g2, g3, g4⟩ := h
  exact (append_log B N gd gl X s has w x g2 ok hN hl hx hB).mono fun e w' ⟨a, b, c⟩ => ⟨a, c.below hB (fun i hi q => by omega), X, g1, b, g3.chg c (fun k a q => q.2 a), g4.chg c (fun k a q => q.2 a)⟩
end Go.Proofs.Ytpnmhpkpkejdiaa
