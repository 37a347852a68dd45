/- Layer 14's reference: what its disk is in memory; the walks of New, burns, last, Lasts. -/
import Derived.Test.YtpnmhpkpkejdiaaDiskK
namespace Go.Proofs.Ytpnmhpkpkejdiaa
open Go.RowKit

structure RSt where
  b : List UInt8
  piece : List Nat
  many : Nat
  cap : Int
  left : Int
  down : Bool
def u8Cells (l : List UInt8) : List Value := l.map fun c => .int .u8 (c.toNat : Nat)
def natCells (l : List Nat) : List Value := l.map fun n => .int .i64 (n : Nat)
def refCells (r : RSt) (vb vp : Value) : Array Value := #[vb, vp, .int .i64 (r.many : Nat), .int .i64 r.cap, .int .i64 r.left, .bool r.down]
/-- the reference's disk in memory: its bytes and its pieces in blocks apart -/
def RefAt (w : World) (F : Nat → Prop) (g : Nat) (r : RSt) : Prop :=
  F g ∧ ∃ vb vp, w.heap[g]? = some (.cells (refCells r vb vp) 61 (0, 0)) ∧ Sl w (fun k => F k ∧ k ≠ g ∧ vp.ownBlock ≠ some k) 5 1 vb r.b.length (u8Cells r.b) ∧ Sl w (fun k => F k ∧ k ≠ g) 3 1 vp r.piece.length (natCells r.piece)
theorem RefAt.chg {w w' : World} {F S : Nat → Prop} {g : Nat} {r : RSt} (h : RefAt w F g r) (hc : Chg w w' S) (hs : ∀ k, F k → ¬ S k) : RefAt w' F g r := by
  obtain ⟨h1, vb, vp, h2, h3, h4⟩ := h
  exact ⟨h1, vb, vp, hc.heap h2 (hs g h1), h3.chg hc (fun k hk => hs k hk.1), h4.chg hc (fun k hk => hs k hk.1)⟩
theorem RefAt.mono {w : World} {F G : Nat → Prop} {g : Nat} {r : RSt} (h : RefAt w F g r) (hs : ∀ k, k < w.heap.size → F k → G k) : RefAt w G g r := by
  obtain ⟨h1, vb, vp, h2, h3, h4⟩ := h
  exact ⟨hs g (heap_lt h2) h1, vb, vp, h2, h3.mono (fun k hl hk => ⟨hs k hl hk.1, hk.2⟩), h4.mono (fun k hl hk => ⟨hs k hl hk.1, hk.2⟩)⟩
theorem RefAt.below {w w' : World} {F : Nat → Prop} {g C : Nat} {r : RSt} (h : RefAt w F g r) (hb : Below C w w') (hC : w.heap.size ≤ C) : RefAt w' F g r :=
  h.chg (Chg.of_below hb (fun _ => False) (fun i a b => absurd a (by omega))) (fun _ _ x => x)
theorem RefAt.tight {w : World} {F : Nat → Prop} {g : Nat} {r : RSt} (h : RefAt w F g r) : RefAt w (fun k => (F k ∧ k < w.heap.size) ∨ w.heap.size ≤ k) g r := h.mono fun k a b => .inl ⟨b, a⟩
/-- its cells -/
theorem RefAt.cells {w : World} {F : Nat → Prop} {g : Nat} {r : RSt} (h : RefAt w F g r) : ∃ ab cb ap cp, r.b.length ≤ cb ∧ cb ≤ maxLen ∧ r.piece.length ≤ cp ∧ cp ≤ maxLen ∧ w.heap[g]? = some (.cells (refCells r (.slice ab r.b.length cb) (.slice ap r.piece.length cp)) 61 (0, 0)) ∧
    Sl w (fun k => F k ∧ k ≠ g ∧ (Value.slice ap r.piece.length cp).ownBlock ≠ some k) 5 1 (.slice ab r.b.length cb) r.b.length (u8Cells r.b) ∧ Sl w (fun k => F k ∧ k ≠ g) 3 1 (.slice ap r.piece.length cp) r.piece.length (natCells r.piece) := by
  obtain ⟨_, vb, vp, h2, h3, h4⟩ := h
  obtain ⟨ab, cb, rfl, a1, a2⟩ := h3.shape
  obtain ⟨ap, cp, rfl, a3, a4⟩ := h4.shape
  exact ⟨ab, cb, ap, cp, a1, a2, a3, a4, h2, h3, h4⟩
/-- a field that is no slice turns -/
theorem RefAt.field {w : World} {F : Nat → Prop} {g : Nat} {r r' : RSt} (h : RefAt w F g r) (i : Nat) (u : Value) (hb : r'.b = r.b) (hp : r'.piece = r.piece) (hr : ∀ vb vp, (refCells r vb vp).setIfInBounds i u = refCells r' vb vp) : RefAt (w.setCell ⟨g, i, none⟩ u) F g r' ∧ Chg w (w.setCell ⟨g, i, none⟩ u) F := by
  obtain ⟨h1, vb, vp, h2, h3, h4⟩ := h
  refine ⟨⟨h1, vb, vp, ?_, ?_, ?_⟩, (Chg.refl w F).setCell (fun _ => h1) _⟩
  · rw [← hr]; exact heap_setCell_same (i := i) h2 u
  · rw [hb]; exact h3.keep fun k hk _ => Below.heap_setCell _ _ _ _ hk.2.1
  · rw [hp]; exact h4.keep fun k hk _ => Below.heap_setCell _ _ _ _ hk.2

def r0 (c : Int) : RSt := ⟨[], [], 0, c, -1, false⟩
set_option maxRecDepth 100000 in
set_option maxHeartbeats 800000 in
theorem refNew_any (n : Int) (w : World) :
    Calls Try.prog 36 #[.int .i64 n] w fun e w' => e = .returned (.pointer (some ⟨w.heap.size, 0, none⟩)) ∧ RefAt w' (fun k => w.heap.size ≤ k) w.heap.size (r0 (capOf n)) ∧ Below w.heap.size w w' := by
  have HR : Hid (∀ m : Int, RefAt (w.alloc (.cells (refCells (r0 m) (.slice none 0 0) (.slice none 0 0)) 61)) (fun k => w.heap.size ≤ k) w.heap.size (r0 m) ∧ Below w.heap.size w (w.alloc (.cells (refCells (r0 m) (.slice none 0 0) (.slice none 0 0)) 61))) := fun m =>
    ⟨⟨Nat.le_refl _, _, _, heap_alloc_new w _, Sl.nil _ _ _ _, Sl.nil _ _ _ _⟩, (Below.refl _ _).alloc (Nat.le_refl _) _⟩
  by_cases h0 : n < 0
  · have hc : capOf n = 0 := by unfold capOf; omega
    rw [hc]
    have d0 : decide (n < 0) = true := by simp; omega
    clear hc h0
    go_enter Try.func36, Try.ntmps36
    go_wp2_with fail
    go_ret
    exact ⟨rfl, HR.out 0⟩
  · have d0 : decide (n < 0) = false := by simp; omega
    by_cases h1 : 16777216 < n
    · have hc : capOf n = 16777216 := by unfold capOf; omega
      rw [hc]
      have d1 : decide (16777216 < n) = true := by simp; omega
      clear hc h0 h1
      go_enter Try.func36, Try.ntmps36
      go_wp2_with fail
      go_ret
      exact ⟨rfl, HR.out 16777216⟩
    · have hc : capOf n = n := by unfold capOf; omega
      rw [hc]
      have d1 : decide (16777216 < n) = false := by simp; omega
      clear hc h0 h1
      go_enter Try.func36, Try.ntmps36
      go_wp2_with fail
      go_ret
      exact ⟨rfl, HR.out n⟩

/-- the fuse -/
def RSt.burnt (r : RSt) : RSt := if r.left = 0 then ⟨r.b, r.piece, r.many, r.cap, -1, true⟩ else if 0 < r.left then ⟨r.b, r.piece, r.many, r.cap, r.left - 1, r.down⟩ else r
set_option maxRecDepth 100000 in
set_option maxHeartbeats 800000 in
theorem refBurns_any (g : Nat) (r : RSt) (F : Nat → Prop) (w : World) (h : RefAt w F g r) (h1 : -1 ≤ r.left) (h2 : r.left ≤ 9223372036854775807) :
    Calls Try.prog 62 #[.pointer (some ⟨g, 0, none⟩)] w fun e w' => e = .returned (.bool (r.left == 0)) ∧ RefAt w' F g r.burnt ∧ Chg w w' F := by
  obtain ⟨vb, vp, hg⟩ : ∃ vb vp, w.heap[g]? = some (.cells (refCells r vb vp) 61 (0, 0)) := by obtain ⟨_, vb, vp, h2, _⟩ := h; exact ⟨vb, vp, h2⟩
  have c4 : w.cell? ⟨g, 4, none⟩ = some (.int .i64 r.left) := cell_at hg rfl
  have c5 : w.cell? ⟨g, 5, none⟩ = some (.bool r.down) := cell_at hg rfl
  have f4 := free_at hg 4
  have f5 := free_at hg 5
  have hglt := heap_lt hg
  obtain ⟨b, piece, many, cap, left, down⟩ := r
  simp only at *
  unfold RSt.burnt
  simp only
  by_cases h0 : left = 0
  · subst h0
    rw [if_pos rfl]
    have e1 := h.field (r' := ⟨b, piece, many, cap, -1, down⟩) 4 (.int .i64 (-1)) rfl rfl (fun _ _ => rfl)
    have e2 := e1.1.field (r' := ⟨b, piece, many, cap, -1, true⟩) 5 (.bool true) rfl rfl (fun _ _ => rfl)
    have HR : Hid (RefAt ((w.setCell ⟨g, 4, none⟩ (.int .i64 (-1))).setCell ⟨g, 5, none⟩ (.bool true)) F g ⟨b, piece, many, cap, -1, true⟩ ∧ Chg w ((w.setCell ⟨g, 4, none⟩ (.int .i64 (-1))).setCell ⟨g, 5, none⟩ (.bool true)) F) :=
      ⟨e2.1, e1.2.trans e2.2 (fun _ _ a => a)⟩
    clear hg h e1 e2
    go_enter Try.func62, Try.ntmps62
    go_wp2_with fail
    go_ret
    exact ⟨rfl, HR.out⟩
  · have hb0 : (left == 0) = false := by rw [beq_eq_false_iff_ne]; exact h0
    rw [if_neg h0, hb0]
    by_cases hp : 0 < left
    · rw [if_pos hp]
      have e1 : IntKind.i64.wrap (left - 1) = left - 1 := IntWalk.i64_in _ (by omega)
      have HR := Lib.hid (h.field (r' := ⟨b, piece, many, cap, left - 1, down⟩) 4 (.int .i64 (left - 1)) rfl rfl (fun _ _ => rfl))
      have hd : decide (0 < left) = true := by simp; omega
      clear hg h h2 h1 h0
      go_enter Try.func62, Try.ntmps62
      go_wp2_with fail
      go_ret
      exact ⟨rfl, HR.out⟩
    · rw [if_neg hp]
      have HR := Lib.hid h
      have hd : decide (0 < left) = false := by simp; omega
      clear hg h h2 h1 h0 hp
      go_enter Try.func62, Try.ntmps62
      go_wp2_with fail
      go_ret
      exact ⟨rfl, HR.out, Chg.refl _ _⟩

/-- all lasts -/
def RSt.lasted (r : RSt) : RSt := ⟨r.b, List.replicate r.b.length 0, 0, r.cap, r.left, r.down⟩
theorem under_ints : Try.prog.underlying 59 = some (.slice 3) := by kernel_rfl
theorem Try.infoInt : (Try.prog.info? 3).map (fun i => (i.zero, i.size, i.bytes)) = some (some (.int .i64 0), 1, 8) := by kernel_rfl
theorem natCells_length (l : List Nat) : (natCells l).length = l.length := by simp [natCells]
theorem u8Cells_length (l : List UInt8) : (u8Cells l).length = l.length := by simp [u8Cells]
/-- make([]int, n) -/
theorem intsOf (w : World) (n : Nat) (hn : n ≤ 100000000) : ∃ W2, Sem.run Try.prog (Instr.makeSlice 59 (.int .i64 (n : Int)) (.int .i64 (n : Int))) w = .ok (.slice (some { block := w.heap.size, off := 0 }) n n) W2 ∧ Below w.heap.size w W2 ∧
    Sl W2 (fun k => k = w.heap.size) 3 1 (.slice (some { block := w.heap.size, off := 0 }) n n) n (natCells (List.replicate n 0)) := by
  obtain ⟨i0, hi, hz0, hz1, hz2⟩ := info_parts Try.infoInt
  have h := run_make (P := Try.prog) w 59 3 i0 (.int .i64 0) under_ints hi hz0 .i64 .i64 (n : Int) (n : Int) (by omega) (Int.le_refl _) (by rw [hz2]; omega) (by omega)
  refine ⟨_, h, (Below.refl _ _).alloc (Nat.le_refl _) _, by simp [natCells], .inr ⟨w.heap.size, 0, n, _, rfl, rfl, heap_alloc_new _ _, Nat.le_refl _, by unfold maxLen; omega, by simp [madeCells, hz1], ?_⟩⟩
  apply List.ext_getElem?
  intro j
  have hm1 : j % 1 = 0 := Nat.mod_one j
  by_cases hj : j < n
  · simp [madeCells, hz1, natCells, Value.cells, hj, hm1]
  · simp [madeCells, hz1, natCells, Value.cells, hj]
set_option maxRecDepth 100000 in
set_option maxHeartbeats 800000 in
theorem refLast_any (g : Nat) (r : RSt) (F : Nat → Prop) (w : World) (h : RefAt w F g r) (hl : r.b.length ≤ 100000000) :
    Calls Try.prog 63 #[.pointer (some ⟨g, 0, none⟩)] w fun e w' => e = .returned (.tuple #[]) ∧ RefAt w' (fun k => (F k ∧ k < w.heap.size) ∨ w.heap.size ≤ k) g r.lasted ∧ Chg w w' F := by
  obtain ⟨ab, cb, ap, cp, _, _, _, _, hg, hb, _⟩ := h.cells
  obtain ⟨hF, _⟩ := h
  obtain ⟨W2, hmk, hb2, hsl⟩ := intsOf w r.b.length hl
  have c0 : w.cell? ⟨g, 0, none⟩ = some (.slice ab r.b.length cb) := cell_at hg rfl
  have hglt := heap_lt hg
  have hg2 := below_heap hb2 hg hglt
  have hz2 := hb2.size
  have hglt2 : g < W2.heap.size := heap_lt hg2
  have c1 : W2.cell? ⟨g, 1, none⟩ = some (.slice ap r.piece.length cp) := cell_at hg2 rfl
  have c2 : W2.cell? ⟨g, 2, none⟩ = some (.int .i64 (r.many : Nat)) := cell_at hg2 rfl
  have f1 := free_at hg2 1
  have f2 := free_at hg2 2
  have HR : Hid (RefAt ((W2.setCell ⟨g, 1, none⟩ (.slice (some { block := w.heap.size, off := 0 }) r.b.length r.b.length)).setCell ⟨g, 2, none⟩ (.int .i64 0)) (fun k => (F k ∧ k < w.heap.size) ∨ w.heap.size ≤ k) g r.lasted ∧
      Chg w ((W2.setCell ⟨g, 1, none⟩ (.slice (some { block := w.heap.size, off := 0 }) r.b.length r.b.length)).setCell ⟨g, 2, none⟩ (.int .i64 0)) F) := by
    refine ⟨⟨.inl ⟨hF, hglt⟩, _, .slice (some { block := w.heap.size, off := 0 }) r.b.length r.b.length, heap_setCell_same (i := 2) (heap_setCell_same (i := 1) hg2 _) _, ?_, ?_⟩, ((Chg.of_below hb2 F (fun i a b => absurd a (by omega))).setCell (fun _ => hF) _).setCell (fun _ => hF) _⟩
    · refine (((sl_below (hb.mono (G := fun k => (F k ∧ k < w.heap.size) ∧ k ≠ g) (fun k hl hk => ⟨⟨hk.1, hl⟩, hk.2.1⟩)) hb2 (Nat.le_refl _)).keep fun k hk _ => Below.heap_setCell _ _ _ _ hk.2).keep fun k hk _ => Below.heap_setCell _ _ _ _ hk.2).mono fun k _ hk => ⟨.inl hk.1, hk.2, fun e => ?_⟩
      have e2 : w.heap.size = k := Option.some.inj e
      omega
    · have e : (List.replicate r.b.length 0).length = r.b.length := List.length_replicate
      show Sl _ _ _ 1 _ (List.replicate r.b.length 0).length _
      rw [e]
      exact ((hsl.mono (G := fun k => ((F k ∧ k < w.heap.size) ∨ w.heap.size ≤ k) ∧ k ≠ g) (fun k _ hk => ⟨.inr (by omega), by omega⟩)).keep fun k hk _ => Below.heap_setCell _ _ _ _ hk.2).keep fun k hk _ => Below.heap_setCell _ _ _ _ hk.2
  clear hg hg2 hb hb2 hsl hF
  go_enter Try.func63, Try.ntmps63
  go_wp2_with fail
  go_end0
  exact ⟨rfl, HR.out⟩
end Go.Proofs.Ytpnmhpkpkejdiaa
