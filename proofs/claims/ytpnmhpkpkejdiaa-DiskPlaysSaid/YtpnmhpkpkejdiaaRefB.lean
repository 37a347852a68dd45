/- Layer 14's reference: the walk of Append. -/
import Derived.Test.YtpnmhpkpkejdiaaRefA
set_option linter.unusedSimpArgs false
namespace Go.Proofs.Ytpnmhpkpkejdiaa
open Go.RowKit

theorem Sl.owned {w : World} {F : Nat → Prop} {e : TypeId} {size n : Nat} {v : Value} {xs : List Value} (h : Sl w F e size v n xs) : Sl w (fun k => F k ∧ v.ownBlock = some k) e size v n xs := by
  refine ⟨h.1, ?_⟩
  rcases h.2 with h0 | ⟨g, off, cap, cur, h1, h2, r⟩
  · exact .inl h0
  · exact .inr ⟨g, off, cap, cur, h1, ⟨h2, by rw [h1]; rfl⟩, r⟩
/-- a byte more -/
def RSt.addB (r : RSt) (c : UInt8) : RSt := ⟨r.b ++ [c], r.piece, r.many, r.cap, r.left, r.down⟩
/-- .. and whose piece it is -/
def RSt.addP (r : RSt) : RSt := ⟨r.b, r.piece ++ [r.many], r.many, r.cap, r.left, r.down⟩
theorem u8Cells_append (l : List UInt8) (c : UInt8) : u8Cells (l ++ [c]) = u8Cells l ++ [.int .u8 (c.toNat : Nat)] := by simp [u8Cells]
theorem natCells_append (l : List Nat) (n : Nat) : natCells (l ++ [n]) = natCells l ++ [.int .i64 (n : Nat)] := by simp [natCells]
theorem refB_append {w : World} {F : Nat → Prop} {g : Nat} {r : RSt} (h : RefAt w F g r) (c : UInt8) (hl : r.b.length ≤ 100000000) :
    ∃ ab cb ab' n' cb' w2, w.cell? ⟨g, 0, none⟩ = some (.slice ab r.b.length cb) ∧ Sem.run Try.prog (Builtin.append_ #[34, 34] 34 #[.slice ab r.b.length cb, .slice (some { block := w.heap.size, off := 0 }) 1 1]) ((w.alloc (.cells #[.int .u8 (c.toNat : Nat)] 5)).drew) = .ok (.slice ab' n' cb') w2 ∧
      w2.cell? ⟨g, 0, none⟩ = some (.slice ab r.b.length cb) ∧ w2.frozen? ⟨g, 0, none⟩ = false ∧ g < w2.heap.size ∧ RefAt (w2.setCell ⟨g, 0, none⟩ (.slice ab' n' cb')) (fun k => (F k ∧ k < w.heap.size) ∨ w.heap.size ≤ k) g (r.addB c) ∧ Chg w (w2.setCell ⟨g, 0, none⟩ (.slice ab' n' cb')) F ∧ (∀ o, (w.alloc o).cell? ⟨g, 0, none⟩ = some (.slice ab r.b.length cb)) := by
  obtain ⟨hF, _⟩ := id h
  obtain ⟨ab, cb, ap, cp, _, _, _, _, hg, hb, hp⟩ := h.cells
  have hglt := heap_lt hg
  have zA : ((w.alloc (.cells #[.int .u8 (c.toNat : Nat)] 5)).drew).heap.size = w.heap.size + 1 := World.size_alloc _ _
  have gA : ((w.alloc (.cells #[.int .u8 (c.toNat : Nat)] 5)).drew).heap[g]? = some (.cells (refCells r (.slice ab r.b.length cb) (.slice ap r.piece.length cp)) 61 (0, 0)) := heap_alloc_same hg _
  have bA : Sl ((w.alloc (.cells #[.int .u8 (c.toNat : Nat)] 5)).drew) (fun k => ((F k ∧ k ≠ g ∧ (Value.slice ap r.piece.length cp).ownBlock ≠ some k) ∧ k < w.heap.size)) 5 1 (.slice ab r.b.length cb) r.b.length (u8Cells r.b) := (hb.mono (fun k a b => ⟨b, a⟩)).keep fun k hk _ => Below.heap_alloc _ _ _ hk.2
  have pA : Sl ((w.alloc (.cells #[.int .u8 (c.toNat : Nat)] 5)).drew) (fun k => (F k ∧ k ≠ g) ∧ k < w.heap.size) 3 1 (.slice ap r.piece.length cp) r.piece.length (natCells r.piece) := (hp.mono (fun k a b => ⟨b, a⟩)).keep fun k hk _ => Below.heap_alloc _ _ _ hk.2
  have nx : ((w.alloc (.cells #[.int .u8 (c.toNat : Nat)] 5)).drew).heap[w.heap.size]? = some (.cells #[.int .u8 (c.toNat : Nat)] 5) := heap_alloc_new w _
  obtain ⟨i0, hi, hz0, hz1, hz2⟩ := info_parts Try.infoU8
  obtain ⟨vb', w2, hrun, hs2, c2⟩ := run_append_sl (P := Try.prog) 34 34 5 i0 (.int .u8 0) 1 1 under_bytes hi hz0 hz1 hz2 rfl bA (News.laid (m := 1) (c := 1) nx rfl (by intro u hu; simp at hu; subst hu; rfl)) (by unfold maxLen; omega) (by omega)
  have hown : ∀ k, (Value.slice ab r.b.length cb).ownBlock = some k → (F k ∧ k ≠ g ∧ (Value.slice ap r.piece.length cp).ownBlock ≠ some k) ∧ k < w.heap.size := fun k hk => (own_lt bA hk).1
  have g2 := c2.heap gA (fun a => (hown g a).1.2.1 rfl)
  obtain ⟨ab', cb', rfl, _, _⟩ := hs2.shape
  refine ⟨ab, cb, ab', _, cb', w2, cell_at hg rfl, hrun, cell_at g2 rfl, free_at g2 0, heap_lt g2, ⟨.inl ⟨hF, hglt⟩, .slice ab' _ cb', .slice ap r.piece.length cp, heap_setCell_same (i := 0) g2 _, ?_, ?_⟩, ?_, fun o => cell_at (heap_alloc_same hg o) rfl⟩
  · show Sl _ _ _ 1 _ (r.b ++ [c]).length (u8Cells (r.b ++ [c]))
    rw [List.length_append, u8Cells_append]
    refine (hs2.mono (G := fun k => ((F k ∧ k < w.heap.size) ∨ w.heap.size ≤ k) ∧ k ≠ g ∧ (Value.slice ap r.piece.length cp).ownBlock ≠ some k) fun k _ hk => ?_).keep fun k hk _ => Below.heap_setCell _ _ _ _ hk.2.1
    rcases hk with ⟨hk, _⟩ | hk
    · exact ⟨.inl ⟨hk.1.1, hk.2⟩, hk.1.2.1, hk.1.2.2⟩
    · rw [zA] at hk
      exact ⟨.inr (by omega), by omega, fun e => by have := (own_lt pA e).1.2; omega⟩
  · exact ((pA.owned.chg c2 (fun k hk a => (hown k a).1.2.2 hk.2)).mono (G := fun k => ((F k ∧ k < w.heap.size) ∨ w.heap.size ≤ k) ∧ k ≠ g) fun k _ hk => ⟨.inl ⟨hk.1.1.1, hk.1.2⟩, hk.1.1.2⟩).keep fun k hk _ => Below.heap_setCell _ _ _ _ hk.2
  · refine ((((Chg.refl w F).alloc _).drew).trans c2 (fun k _ a => (hown k a).1.1)).setCell (fun _ => hF) _
theorem refP_append {w : World} {F : Nat → Prop} {g : Nat} {r : RSt} (h : RefAt w F g r) (hl : r.piece.length ≤ 100000000) :
    ∃ ap cp ap' n' cp' w2, w.cell? ⟨g, 1, none⟩ = some (.slice ap r.piece.length cp) ∧ w.cell? ⟨g, 2, none⟩ = some (.int .i64 (r.many : Nat)) ∧ Sem.run Try.prog (Builtin.append_ #[59, 59] 59 #[.slice ap r.piece.length cp, .slice (some { block := w.heap.size, off := 0 }) 1 1]) ((w.alloc (.cells #[.int .i64 (r.many : Nat)] 3)).drew) = .ok (.slice ap' n' cp') w2 ∧
      w2.cell? ⟨g, 1, none⟩ = some (.slice ap r.piece.length cp) ∧ w2.frozen? ⟨g, 1, none⟩ = false ∧ g < w2.heap.size ∧ RefAt (w2.setCell ⟨g, 1, none⟩ (.slice ap' n' cp')) (fun k => (F k ∧ k < w.heap.size) ∨ w.heap.size ≤ k) g r.addP ∧ Chg w (w2.setCell ⟨g, 1, none⟩ (.slice ap' n' cp')) F ∧ (∀ o, (w.alloc o).cell? ⟨g, 1, none⟩ = some (.slice ap r.piece.length cp)) ∧ (∀ o, (w.alloc o).cell? ⟨g, 2, none⟩ = some (.int .i64 (r.many : Nat))) ∧ w2.cell? ⟨g, 2, none⟩ = some (.int .i64 (r.many : Nat)) := by
  obtain ⟨hF, _⟩ := id h
  obtain ⟨ab, cb, ap, cp, _, _, _, _, hg, hb, hp⟩ := h.cells
  have hglt := heap_lt hg
  have zA : ((w.alloc (.cells #[.int .i64 (r.many : Nat)] 3)).drew).heap.size = w.heap.size + 1 := World.size_alloc _ _
  have gA : ((w.alloc (.cells #[.int .i64 (r.many : Nat)] 3)).drew).heap[g]? = some (.cells (refCells r (.slice ab r.b.length cb) (.slice ap r.piece.length cp)) 61 (0, 0)) := heap_alloc_same hg _
  have bA : Sl ((w.alloc (.cells #[.int .i64 (r.many : Nat)] 3)).drew) (fun k => ((F k ∧ k ≠ g ∧ (Value.slice ap r.piece.length cp).ownBlock ≠ some k) ∧ k < w.heap.size)) 5 1 (.slice ab r.b.length cb) r.b.length (u8Cells r.b) := (hb.mono (fun k a b => ⟨b, a⟩)).keep fun k hk _ => Below.heap_alloc _ _ _ hk.2
  have pA : Sl ((w.alloc (.cells #[.int .i64 (r.many : Nat)] 3)).drew) (fun k => ((F k ∧ k ≠ g) ∧ k < w.heap.size) ∧ (Value.slice ap r.piece.length cp).ownBlock = some k) 3 1 (.slice ap r.piece.length cp) r.piece.length (natCells r.piece) := ((hp.mono (G := fun k => (F k ∧ k ≠ g) ∧ k < w.heap.size) (fun k a b => ⟨b, a⟩)).owned).keep fun k hk _ => Below.heap_alloc _ _ _ hk.1.2
  have nx : ((w.alloc (.cells #[.int .i64 (r.many : Nat)] 3)).drew).heap[w.heap.size]? = some (.cells #[.int .i64 (r.many : Nat)] 3) := heap_alloc_new w _
  obtain ⟨i0, hi, hz0, hz1, hz2⟩ := info_parts Try.infoInt
  obtain ⟨vp', w2, hrun, hs2, c2⟩ := run_append_sl (P := Try.prog) 59 59 3 i0 (.int .i64 0) 1 8 under_ints hi hz0 hz1 hz2 rfl pA (News.laid (m := 1) (c := 1) nx rfl (by intro u hu; simp at hu; subst hu; rfl)) (by unfold maxLen; omega) (by omega)
  have hown : ∀ k, (Value.slice ap r.piece.length cp).ownBlock = some k → ((F k ∧ k ≠ g) ∧ k < w.heap.size) := fun k hk => (own_lt pA hk).1.1
  have g2 := c2.heap gA (fun a => (hown g a).1.2 rfl)
  obtain ⟨ap', cp', rfl, _, _⟩ := hs2.shape
  refine ⟨ap, cp, ap', _, cp', w2, cell_at hg rfl, cell_at hg rfl, hrun, cell_at g2 rfl, free_at g2 1, heap_lt g2, ⟨.inl ⟨hF, hglt⟩, .slice ab r.b.length cb, .slice ap' _ cp', heap_setCell_same (i := 1) g2 _, ?_, ?_⟩, ?_, fun o => cell_at (heap_alloc_same hg o) rfl, fun o => cell_at (heap_alloc_same hg o) rfl, cell_at g2 rfl⟩
  · refine ((bA.chg c2 (fun k hk a => hk.1.2.2 a)).mono (G := fun k => ((F k ∧ k < w.heap.size) ∨ w.heap.size ≤ k) ∧ k ≠ g ∧ (Value.slice ap' (r.piece.length + 1) cp').ownBlock ≠ some k) fun k _ hk => ⟨.inl ⟨hk.1.1, hk.2⟩, hk.1.2.1, fun e => ?_⟩).keep fun k hk _ => Below.heap_setCell _ _ _ _ hk.2.1
    have := own_lt hs2 e
    rw [zA] at this
    rcases this.1 with ⟨a, _⟩ | a
    · exact hk.1.2.2 a.2
    · omega
  · show Sl _ _ _ 1 _ (r.piece ++ [r.many]).length (natCells (r.piece ++ [r.many]))
    rw [List.length_append, natCells_append]
    refine (hs2.mono (G := fun k => ((F k ∧ k < w.heap.size) ∨ w.heap.size ≤ k) ∧ k ≠ g) fun k _ hk => ?_).keep fun k hk _ => Below.heap_setCell _ _ _ _ hk.2
    rcases hk with ⟨hk, _⟩ | hk
    · exact ⟨.inl ⟨hk.1.1.1, hk.1.2⟩, hk.1.1.2⟩
    · rw [zA] at hk
      exact ⟨.inr (by omega), by omega⟩
  · refine ((((Chg.refl w F).alloc _).drew).trans c2 (fun k _ a => (hown k a).1.1)).setCell (fun _ => hF) _

def RSt.upto (r : RSt) (x : ByteArray) (m k : Nat) : RSt := ⟨r.b ++ x.data.toList.take k, r.piece ++ List.replicate k m, m, r.cap, r.left, r.down⟩
theorem upto_zero (r : RSt) (x : ByteArray) (m : Nat) : r.upto x m 0 = ⟨r.b, r.piece, m, r.cap, r.left, r.down⟩ := by
  unfold RSt.upto; simp
theorem upto_succ (r : RSt) (x : ByteArray) (m k : Nat) (hk : k < x.size) : r.upto x m (k + 1) = ((r.upto x m k).addB x[k]).addP := by
  unfold RSt.upto RSt.addB RSt.addP
  have e : x.data.toList.take (k + 1) = x.data.toList.take k ++ [x[k]] := by
    rw [List.take_succ_eq_append_getElem (by simpa using hk)]; rfl
  simp only
  rw [e, List.replicate_succ', List.append_assoc, List.append_assoc]
def RSt.append (r : RSt) (x : ByteArray) : Int × RSt :=
  if r.down then (8, r) else if r.cap < (r.b.length : Int) + (x.size : Nat) then (7, r) else if r.left = 0 then (8, r.burnt) else (0, r.burnt.upto x (if 0 < x.size then r.many + 1 else r.many) x.size)
/-- what always holds -/
structure ROk (N : Nat) (r : RSt) : Prop where
  c0 : 0 ≤ r.cap
  c1 : r.cap ≤ 16777216
  all : (r.b.length : Int) ≤ r.cap
  piece : r.piece.length = r.b.length
  many : r.many ≤ N
  l0 : -1 ≤ r.left
  l1 : r.left ≤ 9223372036854775807
theorem rburnt_parts (r : RSt) : r.burnt.b = r.b ∧ r.burnt.piece = r.piece ∧ r.burnt.many = r.many ∧ r.burnt.cap = r.cap := by
  unfold RSt.burnt
  split
  · exact ⟨rfl, rfl, rfl, rfl⟩
  · split <;> exact ⟨rfl, rfl, rfl, rfl⟩

set_option maxRecDepth 100000 in
set_option maxHeartbeats 3200000 in
theorem refAppend_any (g N : Nat) (r : RSt) (F : Nat → Prop) (w : World) (x : ByteArray) (h : RefAt w F g r) (ok : ROk N r) (hN : N ≤ 100000) (hx : x.size ≤ 140737488351232) :
    Calls Try.prog 37 #[.pointer (some ⟨g, 0, none⟩), .string x] w fun e w' => e = .returned (.int .i64 (r.append x).1) ∧ RefAt w' (fun k => (F k ∧ k < w.heap.size) ∨ w.heap.size ≤ k) g (r.append x).2 ∧ Chg w w' F := by
  have mixed : Try.prog.follows .mixedOrders = true := by kernel_rfl
  have o0 := ok.c0; have o1 := ok.c1; have o2 := ok.all; have o3 := ok.piece
  obtain ⟨ab0, cb0, ap0, cp0, _, _, _, _, hg, _, _⟩ := h.cells
  have c0 : w.cell? ⟨g, 0, none⟩ = some (.slice ab0 r.b.length cb0) := cell_at hg rfl
  have c3 : w.cell? ⟨g, 3, none⟩ = some (.int .i64 r.cap) := cell_at hg rfl
  have c5 : w.cell? ⟨g, 5, none⟩ = some (.bool r.down) := cell_at hg rfl
  have hglt := heap_lt hg
  unfold RSt.append
  by_cases hd : r.down = true
  · rw [if_pos hd]
    rw [hd] at c5
    have HR := Lib.hid h.tight
    clear hd h hg c0 c3
    go_enter Try.func37, Try.ntmps37
    go_wp2_with fail
    go_ret
    exact ⟨rfl, HR.out, Chg.refl _ _⟩
  · rw [if_neg hd]
    have hd : r.down = false := by simpa using hd
    rw [hd] at c5
    obtain ⟨q, hq⟩ : ∃ q, r.b.length = q := ⟨_, rfl⟩
    rw [hq] at c0 o2 o3 ⊢
    have e1 : IntKind.i64.wrap ((q : Int) + (x.size : Int)) = (q : Int) + (x.size : Int) := IntWalk.i64_in _ (by omega)
    by_cases hf : r.cap < (q : Int) + (x.size : Nat)
    · rw [if_pos hf]
      have hdc : decide (r.cap < (q : Int) + (x.size : Int)) = true := by simp; omega
      have HR : Hid (∀ n, RefAt (w.drewN n) (fun k => (F k ∧ k < w.heap.size) ∨ w.heap.size ≤ k) g r ∧ Chg w (w.drewN n) F) := fun n => ⟨h.tight, (Chg.refl w F).drewN n⟩
      clear hd h hg hq hf
      go_enter Try.func37, Try.ntmps37
      go_wp2_with fail
      go_quiet (fail)
      go_wp2_with fail
      go_ret
      exact ⟨rfl, HR.out _⟩
    · rw [if_neg hf]
      have hdc : decide (r.cap < (q : Int) + (x.size : Int)) = false := by simp; omega
      have hxs : x.size ≤ 16777216 := by omega
      have HB : Hid (∀ n, Calls Try.prog 62 #[.pointer (some ⟨g, 0, none⟩)] (w.drewN n) fun e w' => e = .returned (.bool (r.left == 0)) ∧ RefAt w' F g r.burnt ∧ Chg (w.drewN n) w' F) := fun n => refBurns_any g r F (w.drewN n) h ok.l0 ok.l1
      by_cases hl0 : r.left = 0
      · rw [if_pos hl0]
        have e0 : (r.left == 0) = true := by rw [hl0]; rfl
        rw [e0] at HB
        clear hd h hg hq hf hl0 e0 ok
        go_enter Try.func37, Try.ntmps37
        go_wp2_with fail
        go_quiet (fail)
        go_wp2_with fail
        refine (HB.out _).mono ?_
        rintro e w2 ⟨rfl, h2, c2⟩
        have HR : Hid (RefAt w2 (fun k => (F k ∧ k < w.heap.size) ∨ w.heap.size ≤ k) g r.burnt ∧ Chg w w2 F) := ⟨h2.mono fun k _ a => by
          by_cases hk : k < w.heap.size
          · exact .inl ⟨a, hk⟩
          · exact .inr (by omega), ((Chg.refl w F).drewN _).trans c2 (fun _ _ a => a)⟩
        clear h2 c2
        go_wp2_with fail
        go_ret
        exact ⟨rfl, HR.out⟩
      · rw [if_neg hl0]
        have e0 : (r.left == 0) = false := by rw [beq_eq_false_iff_ne]; exact hl0
        rw [e0] at HB
        obtain ⟨b1, b2, b3, b4⟩ := rburnt_parts r
        obtain ⟨r1, hr1⟩ : ∃ r1, r.burnt = r1 := ⟨_, rfl⟩
        rw [hr1] at HB b1 b2 b3 ⊢
        have HRB : Hid (r1.b.length = q) := by show r1.b.length = q; rw [b1]; exact hq
        have HRP : Hid (r1.piece.length = q) := by show r1.piece.length = q; rw [b2]; exact o3
        have hmN := ok.many
        rw [← b3] at hmN ⊢
        by_cases hx0 : 0 < x.size
        · rw [if_pos hx0]
          have d0 : decide ((0 : Int) < (x.size : Int)) = true := by simp; omega
          obtain ⟨m, hm⟩ : ∃ m, r1.many + 1 = m := ⟨_, rfl⟩
          rw [hm]
          have HM := Lib.hid hm
          clear hd h hg hq hf hl0 e0 ok b1 b2 b3 b4 hr1 o3 hm
          go_enter Try.func37, Try.ntmps37
          go_wp2_with fail
          go_quiet (fail)
          go_wp2_with fail
          refine (HB.out _).mono ?_
          rintro e w2 ⟨rfl, h2, c2⟩
          obtain ⟨vb2, vp2, hg2⟩ : ∃ vb vp, w2.heap[g]? = some (.cells (refCells r1 vb vp) 61 (0, 0)) := by obtain ⟨_, vb, vp, h, _⟩ := h2; exact ⟨vb, vp, h⟩
          have k2 : w2.cell? ⟨g, 2, none⟩ = some (.int .i64 (r1.many : Nat)) := cell_at hg2 rfl
          have f2 := free_at hg2 2
          have hglt2 := heap_lt hg2
          have hm := HM.out
          have hmi : (r1.many : Int) + 1 = (m : Int) := by omega
          have hst := h2.field (r' := ⟨r1.b, r1.piece, m, r1.cap, r1.left, r1.down⟩) 2 (.int .i64 (m : Nat)) rfl rfl (fun _ _ => rfl)
          obtain ⟨w3, hw3⟩ : ∃ w3, w2.setCell ⟨g, 2, none⟩ (.int .i64 (m : Nat)) = w3 := ⟨_, rfl⟩
          rw [hw3] at hst
          have HD2 : Hid (RefAt w3 (fun k => (F k ∧ k < w.heap.size) ∨ w.heap.size ≤ k) g ⟨r1.b, r1.piece, m, r1.cap, r1.left, r1.down⟩) := hst.1.mono fun k _ a => by
            by_cases hk : k < w.heap.size
            · exact .inl ⟨a, hk⟩
            · exact .inr (by omega)
          have HC2 : Hid (Chg w w3 F) := (((Chg.refl w F).drewN _).trans c2 (fun _ _ a => a)).trans hst.2 (fun _ _ a => a)
          have hmb : m ≤ 100001 := by omega
          clear h2 c2 hg2 hst hm hmN HB c0 c3 c5
          go_wp2_with fail
          try rw [hw3]
          clear hw3 k2 f2 hglt2 hmi
          go_loopw [5] (fun i wr => ∃ k : Nat, k ≤ x.size ∧ i = .int .i64 k ∧ Hid (RefAt wr (fun k => (F k ∧ k < w.heap.size) ∨ w.heap.size ≤ k) g (r1.upto x m k)) ∧ Hid (Chg w wr F)) (fun i _ => x.size - (intOf i).toNat)
          case atStart => exact ⟨0, by omega, rfl, by rw [upto_zero]; exact HD2.out, HC2.out⟩
          case round =>
            obtain ⟨k, hk, rfl, HD, HC⟩ := hrel
            clear HD2 HC2
            obtain ⟨wq, hwq⟩ : ∃ wq : World, wq = wr := ⟨_, rfl⟩
            rw [← hwq] at HD HC ⊢
            clear hwq
            by_cases hlt : k < x.size
            · have hsucc := upto_succ r1 x m k hlt
              have hlb : (r1.upto x m k).b.length ≤ 100000000 := by show (r1.b ++ x.data.toList.take k).length ≤ _; rw [List.length_append]; have := List.length_take_le k x.data.toList; rw [HRB.out]; omega
              have hlp : ((r1.upto x m k).addB x[k]).piece.length ≤ 100000000 := by show (r1.piece ++ List.replicate k m).length ≤ _; rw [List.length_append, List.length_replicate, HRP.out]; omega
              obtain ⟨ab, cb, ab2, nb2, cb2, w2', hc1, hrun1, hc2, hf2, hg2, hd2, hch2, ha1⟩ := refB_append HD.out x[k] hlb
              obtain ⟨N, hN⟩ : ∃ N, (r1.upto x m k).b.length = N := ⟨_, rfl⟩
              rw [hN] at hc1 hrun1 hc2 ha1
              obtain ⟨w3, hw3⟩ : ∃ w3, w2'.setCell ⟨g, 0, none⟩ (.slice ab2 nb2 cb2) = w3 := ⟨_, rfl⟩
              rw [hw3] at hd2 hch2
              obtain ⟨ap, cp, ap2, np2, cp2, w4', hp1, hp2, hrun2, hp3, hpf, hpg, hd4, hch4, ha2, ha3, hp4⟩ := refP_append hd2 hlp
              obtain ⟨N2, hN2⟩ : ∃ N2, ((r1.upto x m k).addB x[k]).piece.length = N2 := ⟨_, rfl⟩
              rw [hN2] at hp1 hrun2 hp3 ha2
              have hmm : ((r1.upto x m k).addB x[k]).many = m := rfl
              rw [hmm] at hp2 hrun2 ha3 hp4
              obtain ⟨w5, hw5⟩ : ∃ w5, w4'.setCell ⟨g, 1, none⟩ (.slice ap2 np2 cp2) = w5 := ⟨_, rfl⟩
              rw [hw5] at hd4 hch4
              have HFIN : Hid (RefAt w5 (fun k => (F k ∧ k < w.heap.size) ∨ w.heap.size ≤ k) g (r1.upto x m (k + 1)) ∧ Chg w w5 F) := by
                rw [hsucc]
                have z1 := HC.out.size
                have z2 := hch2.size
                refine ⟨hd4.mono fun q _ a => ?_, (HC.out.trans hch2 (fun q hq a => ?_)).trans hch4 (fun q hq a => ?_)⟩
                · rcases a with ⟨⟨⟨⟨a, b⟩ | a, _⟩ | a, _⟩⟩ | a
                  · exact .inl ⟨a, b⟩
                  · exact .inr a
                  · exact .inr (by omega)
                  · exact .inr (by omega)
                · rcases a with ⟨a, _⟩ | a
                  · exact a
                  · omega
                · rcases a with ⟨⟨a, _⟩ | a, _⟩ | a
                  · exact a
                  · omega
                  · omega
              have HRUN1 := Lib.hid hrun1
              have HRUN2 := Lib.hid hrun2
              have hx8 : x.data.toList[k]? = some x[k] := by rw [List.getElem?_eq_getElem (by simpa using hlt)]; rfl
              clear hsucc hlb hlp hrun1 hrun2 hN hN2 hmm hd2 hch2 hd4 hch4 HD HC hx8
              have hS : (fun w' => w'.cell? ⟨g, 0, none⟩ = some (.slice ab N cb) : World → Prop) wq.drew := hc1
              go_wp2_with fail
              refine AnyTo.region (m := 12) (S := fun w' => w'.cell? ⟨g, 0, none⟩ = some (.slice ab N cb)) mixed ?_
              refine AnyTo.take (i := 0) (v := ?va0) rfl (by kernel_rfl) (by kernel_rfl) (by kernel_rfl) (by kernel_rfl) (fun _ _ _ h => h) (Or.inl ⟨by kernel_rfl, ?hya0⟩) hS ?resta0
              case hya0 => (intro w' hw'; (try dsimp only at hw'); go_simp; try (with_reducible rfl))
              try simp only [Act.put, List.setIfInBounds_toArray, List.set_cons_zero, List.set_cons_succ]
              refine AnyTo.take (i := 1) (v := ?va1) rfl (by kernel_rfl) (by kernel_rfl) (by kernel_rfl) (by kernel_rfl) (fun _ _ _ h => h) (Or.inl ⟨by kernel_rfl, ?hya1⟩) hS ?resta1
              case hya1 => (intro w' hw'; (try dsimp only at hw'); go_simp; try (with_reducible rfl))
              try simp only [Act.put, List.setIfInBounds_toArray, List.set_cons_zero, List.set_cons_succ]
              refine AnyTo.take (i := 2) (v := ?va2) rfl (by kernel_rfl) (by kernel_rfl) (by kernel_rfl) (by kernel_rfl) (fun _ _ _ h => h) (Or.inl ⟨by kernel_rfl, ?hya2⟩) hS ?resta2
              case hya2 => (intro w' hw'; (try dsimp only at hw'); go_simp; try (with_reducible rfl))
              try simp only [Act.put, List.setIfInBounds_toArray, List.set_cons_zero, List.set_cons_succ]
              refine AnyTo.take (i := 3) (v := ?va3) rfl (by kernel_rfl) (by kernel_rfl) (by kernel_rfl) (by kernel_rfl) (fun _ _ _ h => h) (Or.inl ⟨by kernel_rfl, ?hya3⟩) hS ?resta3
              case hya3 => (intro w' hw'; (try dsimp only at hw'); go_simp; try (with_reducible rfl))
              try simp only [Act.put, List.setIfInBounds_toArray, List.set_cons_zero, List.set_cons_succ]
              refine AnyTo.take (i := 4) (v := ?va4) rfl (by kernel_rfl) (by kernel_rfl) (by kernel_rfl) (by kernel_rfl) (fun _ _ _ h => h) (Or.inl ⟨by kernel_rfl, ?hya4⟩) hS ?resta4
              case hya4 => (intro w' hw'; (try dsimp only at hw'); go_simp; try (with_reducible rfl))
              try simp only [Act.put, List.setIfInBounds_toArray, List.set_cons_zero, List.set_cons_succ]
              refine AnyTo.take (i := 5) (v := ?va5) rfl (by kernel_rfl) (by kernel_rfl) (by kernel_rfl) (by kernel_rfl) (fun _ _ _ h => h) (Or.inl ⟨by kernel_rfl, ?hya5⟩) hS ?resta5
              case hya5 => (intro w' hw'; (try dsimp only at hw'); go_simp; try (with_reducible rfl))
              try simp only [Act.put, List.setIfInBounds_toArray, List.set_cons_zero, List.set_cons_succ]
              refine AnyTo.take (i := 6) (v := ?va6) rfl (by kernel_rfl) (by kernel_rfl) (by kernel_rfl) (by kernel_rfl) (fun _ _ _ h => h) (Or.inl ⟨by kernel_rfl, ?hya6⟩) hS ?resta6
              case hya6 => (intro w' hw'; (try dsimp only at hw'); go_simp; try (with_reducible rfl))
              try simp only [Act.put, List.setIfInBounds_toArray, List.set_cons_zero, List.set_cons_succ]
              refine AnyTo.take (i := 7) (v := ?va7) rfl (by kernel_rfl) (by kernel_rfl) (by kernel_rfl) (by kernel_rfl) (fun _ _ _ h => h) (Or.inl ⟨by kernel_rfl, ?hya7⟩) hS ?resta7
              case hya7 => (intro w' hw'; (try dsimp only at hw'); go_simp; try (with_reducible rfl))
              try simp only [Act.put, List.setIfInBounds_toArray, List.set_cons_zero, List.set_cons_succ]
              refine AnyTo.step (i := 8) (by kernel_rfl) rfl (fun K hK => ?_)
              go_simp
              refine hK.out _ _ (fun _ => ha1 _) ?_
              clear hK K
              try simp only [Act.put, List.getElem_toArray, List.getElem_cons_zero, List.getElem_cons_succ, List.setIfInBounds_toArray, List.set_cons_zero, List.set_cons_succ]
              refine AnyTo.step (i := 9) (by kernel_rfl) rfl (fun K hK => ?_)
              refine step_append_run (t := 34) rfl rfl (v := .slice ab N cb) (u := .slice (some { block := wq.heap.size, off := 0 }) 1 1) (by simp [Act.eval, Act.put]) (by simp [Act.eval, Act.put]) HRUN1.out ?_
              refine hK.out _ _ (fun _ => hc2) ?_
              clear hK K
              try simp only [Act.put, List.getElem_toArray, List.getElem_cons_zero, List.getElem_cons_succ, List.setIfInBounds_toArray, List.set_cons_zero, List.set_cons_succ]
              refine AnyTo.step (i := 10) (by kernel_rfl) rfl (fun K hK => ?_)
              go_simp
              refine hK.out _ _ (fun _ => hc2) ?_
              clear hK K
              try simp only [Act.put, List.getElem_toArray, List.getElem_cons_zero, List.getElem_cons_succ, List.setIfInBounds_toArray, List.set_cons_zero, List.set_cons_succ]
              refine AnyTo.step (i := 11) (by kernel_rfl) rfl (fun K hK => ?_)
              go_simp
              refine hK.out _ _ (fun _ => hc2) ?_
              clear hK K
              try simp only [Act.put, List.getElem_toArray, List.getElem_cons_zero, List.getElem_cons_succ, List.setIfInBounds_toArray, List.set_cons_zero, List.set_cons_succ]
              refine AnyTo.step (i := 12) (by kernel_rfl) rfl (fun K hK => ?_)
              go_simp
              refine hK.out _ _ (fun z => absurd rfl z) ?_
              clear hK K
              try simp only [Act.put, List.getElem_toArray, List.getElem_cons_zero, List.getElem_cons_succ, List.setIfInBounds_toArray, List.set_cons_zero, List.set_cons_succ]
              refine AnyTo.done (by kernel_rfl) ?_
              try rw [hw3]
              clear hw3 hc1 hc2 hf2 hg2 ha1 hS
              have hS : (fun w' => w'.cell? ⟨g, 1, none⟩ = some (.slice ap N2 cp) ∧ w'.cell? ⟨g, 2, none⟩ = some (.int .i64 (m : Nat)) : World → Prop) w3.drew := ⟨hp1, hp2⟩
              go_wp2_with fail
              refine AnyTo.region (m := 13) (S := fun w' => w'.cell? ⟨g, 1, none⟩ = some (.slice ap N2 cp) ∧ w'.cell? ⟨g, 2, none⟩ = some (.int .i64 (m : Nat))) mixed ?_
              refine AnyTo.take (i := 0) (v := ?vb0) rfl (by kernel_rfl) (by kernel_rfl) (by kernel_rfl) (by kernel_rfl) (fun _ _ _ h => h) (Or.inl ⟨by kernel_rfl, ?hyb0⟩) hS ?restb0
              case hyb0 => (intro w' hw'; (try dsimp only at hw'); go_simp; try (with_reducible rfl))
              try simp only [Act.put, List.setIfInBounds_toArray, List.set_cons_zero, List.set_cons_succ]
              refine AnyTo.take (i := 1) (v := ?vb1) rfl (by kernel_rfl) (by kernel_rfl) (by kernel_rfl) (by kernel_rfl) (fun _ _ _ h => h) (Or.inl ⟨by kernel_rfl, ?hyb1⟩) hS ?restb1
              case hyb1 => (intro w' hw'; (try dsimp only at hw'); go_simp; try (with_reducible rfl))
              try simp only [Act.put, List.setIfInBounds_toArray, List.set_cons_zero, List.set_cons_succ]
              refine AnyTo.take (i := 2) (v := ?vb2) rfl (by kernel_rfl) (by kernel_rfl) (by kernel_rfl) (by kernel_rfl) (fun _ _ _ h => h) (Or.inl ⟨by kernel_rfl, ?hyb2⟩) hS ?restb2
              case hyb2 => (intro w' hw'; (try dsimp only at hw'); go_simp; try (with_reducible rfl))
              try simp only [Act.put, List.setIfInBounds_toArray, List.set_cons_zero, List.set_cons_succ]
              refine AnyTo.take (i := 3) (v := ?vb3) rfl (by kernel_rfl) (by kernel_rfl) (by kernel_rfl) (by kernel_rfl) (fun _ _ _ h => h) (Or.inl ⟨by kernel_rfl, ?hyb3⟩) hS ?restb3
              case hyb3 => (intro w' hw'; (try dsimp only at hw'); go_simp; try (with_reducible rfl))
              try simp only [Act.put, List.setIfInBounds_toArray, List.set_cons_zero, List.set_cons_succ]
              refine AnyTo.take (i := 4) (v := ?vb4) rfl (by kernel_rfl) (by kernel_rfl) (by kernel_rfl) (by kernel_rfl) (fun _ _ _ h => h) (Or.inl ⟨by kernel_rfl, ?hyb4⟩) hS ?restb4
              case hyb4 => (intro w' hw'; (try dsimp only at hw'); go_simp; try (with_reducible rfl))
              try simp only [Act.put, List.setIfInBounds_toArray, List.set_cons_zero, List.set_cons_succ]
              refine AnyTo.take (i := 5) (v := ?vb5) rfl (by kernel_rfl) (by kernel_rfl) (by kernel_rfl) (by kernel_rfl) (fun _ _ _ h => h) (Or.inl ⟨by kernel_rfl, ?hyb5⟩) hS ?restb5
              case hyb5 => (intro w' hw'; (try dsimp only at hw'); go_simp; try (with_reducible rfl))
              try simp only [Act.put, List.setIfInBounds_toArray, List.set_cons_zero, List.set_cons_succ]
              refine AnyTo.take (i := 6) (v := ?vb6) rfl (by kernel_rfl) (by kernel_rfl) (by kernel_rfl) (by kernel_rfl) (fun _ _ _ h => h) (Or.inl ⟨by kernel_rfl, ?hyb6⟩) hS ?restb6
              case hyb6 => (intro w' hw'; (try dsimp only at hw'); go_simp; try (with_reducible rfl))
              try simp only [Act.put, List.setIfInBounds_toArray, List.set_cons_zero, List.set_cons_succ]
              refine AnyTo.take (i := 7) (v := ?vb7) rfl (by kernel_rfl) (by kernel_rfl) (by kernel_rfl) (by kernel_rfl) (fun _ _ _ h => h) (Or.inl ⟨by kernel_rfl, ?hyb7⟩) hS ?restb7
              case hyb7 => (intro w' hw'; (try dsimp only at hw'); go_simp; try (with_reducible rfl))
              try simp only [Act.put, List.setIfInBounds_toArray, List.set_cons_zero, List.set_cons_succ]
              refine AnyTo.take (i := 8) (v := ?vb8) rfl (by kernel_rfl) (by kernel_rfl) (by kernel_rfl) (by kernel_rfl) (fun _ _ _ h => h) (Or.inl ⟨by kernel_rfl, ?hyb8⟩) hS ?restb8
              case hyb8 => (intro w' hw'; (try dsimp only at hw'); go_simp; try (with_reducible rfl))
              try simp only [Act.put, List.setIfInBounds_toArray, List.set_cons_zero, List.set_cons_succ]
              refine AnyTo.step (i := 9) (by kernel_rfl) rfl (fun K hK => ?_)
              go_simp
              refine hK.out _ _ (fun _ => ⟨ha2 _, ha3 _⟩) ?_
              clear hK K
              try simp only [Act.put, List.getElem_toArray, List.getElem_cons_zero, List.getElem_cons_succ, List.setIfInBounds_toArray, List.set_cons_zero, List.set_cons_succ]
              refine AnyTo.step (i := 10) (by kernel_rfl) rfl (fun K hK => ?_)
              refine step_append_run (t := 59) rfl rfl (v := .slice ap N2 cp) (u := .slice (some { block := w3.heap.size, off := 0 }) 1 1) (by simp [Act.eval, Act.put]) (by simp [Act.eval, Act.put]) HRUN2.out ?_
              refine hK.out _ _ (fun _ => ⟨hp3, hp4⟩) ?_
              clear hK K
              try simp only [Act.put, List.getElem_toArray, List.getElem_cons_zero, List.getElem_cons_succ, List.setIfInBounds_toArray, List.set_cons_zero, List.set_cons_succ]
              refine AnyTo.step (i := 11) (by kernel_rfl) rfl (fun K hK => ?_)
              go_simp
              refine hK.out _ _ (fun _ => ⟨hp3, hp4⟩) ?_
              clear hK K
              try simp only [Act.put, List.getElem_toArray, List.getElem_cons_zero, List.getElem_cons_succ, List.setIfInBounds_toArray, List.set_cons_zero, List.set_cons_succ]
              refine AnyTo.step (i := 12) (by kernel_rfl) rfl (fun K hK => ?_)
              go_simp
              refine hK.out _ _ (fun _ => ⟨hp3, hp4⟩) ?_
              clear hK K
              try simp only [Act.put, List.getElem_toArray, List.getElem_cons_zero, List.getElem_cons_succ, List.setIfInBounds_toArray, List.set_cons_zero, List.set_cons_succ]
              refine AnyTo.step (i := 13) (by kernel_rfl) rfl (fun K hK => ?_)
              go_simp
              refine hK.out _ _ (fun z => absurd rfl z) ?_
              clear hK K
              try simp only [Act.put, List.getElem_toArray, List.getElem_cons_zero, List.getElem_cons_succ, List.setIfInBounds_toArray, List.set_cons_zero, List.set_cons_succ]
              refine AnyTo.done (by kernel_rfl) ?_
              try rw [hw5]
              clear hw5 hp1 hp2 hp3 hp4 hpf hpg ha2 ha3 hS
              go_wp2_with fail
              go_roundw
              case rel => exact ⟨k + 1, by omega, by go_num, HFIN.out⟩
              case measure => simp [intOf]; omega

            · obtain rfl : k = x.size := by omega
              go_wp2_with fail
              go_ret
              exact ⟨rfl, HD.out, HC.out⟩

        · rw [if_neg hx0]
          have d0 : decide ((0 : Int) < (x.size : Int)) = false := by rw [decide_eq_false_iff_not]; omega
          obtain ⟨m, hm⟩ : ∃ m, r1.many = m := ⟨_, rfl⟩
          rw [hm]
          have HM := Lib.hid hm
          clear hd h hg hq hf hl0 e0 ok b1 b2 b3 b4 hr1 o3 hm
          go_enter Try.func37, Try.ntmps37
          go_wp2_with fail
          go_quiet (fail)
          go_wp2_with fail
          refine (HB.out _).mono ?_
          rintro e w2 ⟨rfl, h2, c2⟩
          have HD2 : Hid (RefAt w2 (fun k => (F k ∧ k < w.heap.size) ∨ w.heap.size ≤ k) g ⟨r1.b, r1.piece, m, r1.cap, r1.left, r1.down⟩) := by
            rw [← HM.out]
            exact h2.mono fun k _ a => by
              by_cases hk : k < w.heap.size
              · exact .inl ⟨a, hk⟩
              · exact .inr (by omega)
          have HC2 : Hid (Chg w w2 F) := ((Chg.refl w F).drewN _).trans c2 (fun _ _ a => a)
          have hmb : m ≤ 100001 := by rw [← HM.out]; omega
          clear h2 c2 hmN HB c0 c3 c5
          go_wp2_with fail
          go_loopw [5] (fun i wr => ∃ k : Nat, k ≤ x.size ∧ i = .int .i64 k ∧ Hid (RefAt wr (fun k => (F k ∧ k < w.heap.size) ∨ w.heap.size ≤ k) g (r1.upto x m k)) ∧ Hid (Chg w wr F)) (fun i _ => x.size - (intOf i).toNat)
          case atStart => exact ⟨0, by omega, rfl, by rw [upto_zero]; exact HD2.out, HC2.out⟩
          case round =>
            obtain ⟨k, hk, rfl, HD, HC⟩ := hrel
            clear HD2 HC2
            obtain ⟨wq, hwq⟩ : ∃ wq : World, wq = wr := ⟨_, rfl⟩
            rw [← hwq] at HD HC ⊢
            clear hwq
            by_cases hlt : k < x.size
            · have hsucc := upto_succ r1 x m k hlt
              have hlb : (r1.upto x m k).b.length ≤ 100000000 := by show (r1.b ++ x.data.toList.take k).length ≤ _; rw [List.length_append]; have := List.length_take_le k x.data.toList; rw [HRB.out]; omega
              have hlp : ((r1.upto x m k).addB x[k]).piece.length ≤ 100000000 := by show (r1.piece ++ List.replicate k m).length ≤ _; rw [List.length_append, List.length_replicate, HRP.out]; omega
              obtain ⟨ab, cb, ab2, nb2, cb2, w2', hc1, hrun1, hc2, hf2, hg2, hd2, hch2, ha1⟩ := refB_append HD.out x[k] hlb
              obtain ⟨N, hN⟩ : ∃ N, (r1.upto x m k).b.length = N := ⟨_, rfl⟩
              rw [hN] at hc1 hrun1 hc2 ha1
              obtain ⟨w3, hw3⟩ : ∃ w3, w2'.setCell ⟨g, 0, none⟩ (.slice ab2 nb2 cb2) = w3 := ⟨_, rfl⟩
              rw [hw3] at hd2 hch2
              obtain ⟨ap, cp, ap2, np2, cp2, w4', hp1, hp2, hrun2, hp3, hpf, hpg, hd4, hch4, ha2, ha3, hp4⟩ := refP_append hd2 hlp
              obtain ⟨N2, hN2⟩ : ∃ N2, ((r1.upto x m k).addB x[k]).piece.length = N2 := ⟨_, rfl⟩
              rw [hN2] at hp1 hrun2 hp3 ha2
              have hmm : ((r1.upto x m k).addB x[k]).many = m := rfl
              rw [hmm] at hp2 hrun2 ha3 hp4
              obtain ⟨w5, hw5⟩ : ∃ w5, w4'.setCell ⟨g, 1, none⟩ (.slice ap2 np2 cp2) = w5 := ⟨_, rfl⟩
              rw [hw5] at hd4 hch4
              have HFIN : Hid (RefAt w5 (fun k => (F k ∧ k < w.heap.size) ∨ w.heap.size ≤ k) g (r1.upto x m (k + 1)) ∧ Chg w w5 F) := by
                rw [hsucc]
                have z1 := HC.out.size
                have z2 := hch2.size
                refine ⟨hd4.mono fun q _ a => ?_, (HC.out.trans hch2 (fun q hq a => ?_)).trans hch4 (fun q hq a => ?_)⟩
                · rcases a with ⟨⟨⟨⟨a, b⟩ | a, _⟩ | a, _⟩⟩ | a
                  · exact .inl ⟨a, b⟩
                  · exact .inr a
                  · exact .inr (by omega)
                  · exact .inr (by omega)
                · rcases a with ⟨a, _⟩ | a
                  · exact a
                  · omega
                · rcases a with ⟨⟨a, _⟩ | a, _⟩ | a
                  · exact a
                  · omega
                  · omega
              have HRUN1 := Lib.hid hrun1
              have HRUN2 := Lib.hid hrun2
              have hx8 : x.data.toList[k]? = some x[k] := by rw [List.getElem?_eq_getElem (by simpa using hlt)]; rfl
              clear hsucc hlb hlp hrun1 hrun2 hN hN2 hmm hd2 hch2 hd4 hch4 HD HC hx8
              have hS : (fun w' => w'.cell? ⟨g, 0, none⟩ = some (.slice ab N cb) : World → Prop) wq.drew := hc1
              go_wp2_with fail
              refine AnyTo.region (m := 12) (S := fun w' => w'.cell? ⟨g, 0, none⟩ = some (.slice ab N cb)) mixed ?_
              refine AnyTo.take (i := 0) (v := ?vc0) rfl (by kernel_rfl) (by kernel_rfl) (by kernel_rfl) (by kernel_rfl) (fun _ _ _ h => h) (Or.inl ⟨by kernel_rfl, ?hyc0⟩) hS ?restc0
              case hyc0 => (intro w' hw'; (try dsimp only at hw'); go_simp; try (with_reducible rfl))
              try simp only [Act.put, List.setIfInBounds_toArray, List.set_cons_zero, List.set_cons_succ]
              refine AnyTo.take (i := 1) (v := ?vc1) rfl (by kernel_rfl) (by kernel_rfl) (by kernel_rfl) (by kernel_rfl) (fun _ _ _ h => h) (Or.inl ⟨by kernel_rfl, ?hyc1⟩) hS ?restc1
              case hyc1 => (intro w' hw'; (try dsimp only at hw'); go_simp; try (with_reducible rfl))
              try simp only [Act.put, List.setIfInBounds_toArray, List.set_cons_zero, List.set_cons_succ]
              refine AnyTo.take (i := 2) (v := ?vc2) rfl (by kernel_rfl) (by kernel_rfl) (by kernel_rfl) (by kernel_rfl) (fun _ _ _ h => h) (Or.inl ⟨by kernel_rfl, ?hyc2⟩) hS ?restc2
              case hyc2 => (intro w' hw'; (try dsimp only at hw'); go_simp; try (with_reducible rfl))
              try simp only [Act.put, List.setIfInBounds_toArray, List.set_cons_zero, List.set_cons_succ]
              refine AnyTo.take (i := 3) (v := ?vc3) rfl (by kernel_rfl) (by kernel_rfl) (by kernel_rfl) (by kernel_rfl) (fun _ _ _ h => h) (Or.inl ⟨by kernel_rfl, ?hyc3⟩) hS ?restc3
              case hyc3 => (intro w' hw'; (try dsimp only at hw'); go_simp; try (with_reducible rfl))
              try simp only [Act.put, List.setIfInBounds_toArray, List.set_cons_zero, List.set_cons_succ]
              refine AnyTo.take (i := 4) (v := ?vc4) rfl (by kernel_rfl) (by kernel_rfl) (by kernel_rfl) (by kernel_rfl) (fun _ _ _ h => h) (Or.inl ⟨by kernel_rfl, ?hyc4⟩) hS ?restc4
              case hyc4 => (intro w' hw'; (try dsimp only at hw'); go_simp; try (with_reducible rfl))
              try simp only [Act.put, List.setIfInBounds_toArray, List.set_cons_zero, List.set_cons_succ]
              refine AnyTo.take (i := 5) (v := ?vc5) rfl (by kernel_rfl) (by kernel_rfl) (by kernel_rfl) (by kernel_rfl) (fun _ _ _ h => h) (Or.inl ⟨by kernel_rfl, ?hyc5⟩) hS ?restc5
              case hyc5 => (intro w' hw'; (try dsimp only at hw'); go_simp; try (with_reducible rfl))
              try simp only [Act.put, List.setIfInBounds_toArray, List.set_cons_zero, List.set_cons_succ]
              refine AnyTo.take (i := 6) (v := ?vc6) rfl (by kernel_rfl) (by kernel_rfl) (by kernel_rfl) (by kernel_rfl) (fun _ _ _ h => h) (Or.inl ⟨by kernel_rfl, ?hyc6⟩) hS ?restc6
              case hyc6 => (intro w' hw'; (try dsimp only at hw'); go_simp; try (with_reducible rfl))
              try simp only [Act.put, List.setIfInBounds_toArray, List.set_cons_zero, List.set_cons_succ]
              refine AnyTo.take (i := 7) (v := ?vc7) rfl (by kernel_rfl) (by kernel_rfl) (by kernel_rfl) (by kernel_rfl) (fun _ _ _ h => h) (Or.inl ⟨by kernel_rfl, ?hyc7⟩) hS ?restc7
              case hyc7 => (intro w' hw'; (try dsimp only at hw'); go_simp; try (with_reducible rfl))
              try simp only [Act.put, List.setIfInBounds_toArray, List.set_cons_zero, List.set_cons_succ]
              refine AnyTo.step (i := 8) (by kernel_rfl) rfl (fun K hK => ?_)
              go_simp
              refine hK.out _ _ (fun _ => ha1 _) ?_
              clear hK K
              try simp only [Act.put, List.getElem_toArray, List.getElem_cons_zero, List.getElem_cons_succ, List.setIfInBounds_toArray, List.set_cons_zero, List.set_cons_succ]
              refine AnyTo.step (i := 9) (by kernel_rfl) rfl (fun K hK => ?_)
              refine step_append_run (t := 34) rfl rfl (v := .slice ab N cb) (u := .slice (some { block := wq.heap.size, off := 0 }) 1 1) (by simp [Act.eval, Act.put]) (by simp [Act.eval, Act.put]) HRUN1.out ?_
              refine hK.out _ _ (fun _ => hc2) ?_
              clear hK K
              try simp only [Act.put, List.getElem_toArray, List.getElem_cons_zero, List.getElem_cons_succ, List.setIfInBounds_toArray, List.set_cons_zero, List.set_cons_succ]
              refine AnyTo.step (i := 10) (by kernel_rfl) rfl (fun K hK => ?_)
              go_simp
              refine hK.out _ _ (fun _ => hc2) ?_
              clear hK K
              try simp only [Act.put, List.getElem_toArray, List.getElem_cons_zero, List.getElem_cons_succ, List.setIfInBounds_toArray, List.set_cons_zero, List.set_cons_succ]
              refine AnyTo.step (i := 11) (by kernel_rfl) rfl (fun K hK => ?_)
              go_simp
              refine hK.out _ _ (fun _ => hc2) ?_
              clear hK K
              try simp only [Act.put, List.getElem_toArray, List.getElem_cons_zero, List.getElem_cons_succ, List.setIfInBounds_toArray, List.set_cons_zero, List.set_cons_succ]
              refine AnyTo.step (i := 12) (by kernel_rfl) rfl (fun K hK => ?_)
              go_simp
              refine hK.out _ _ (fun z => absurd rfl z) ?_
              clear hK K
              try simp only [Act.put, List.getElem_toArray, List.getElem_cons_zero, List.getElem_cons_succ, List.setIfInBounds_toArray, List.set_cons_zero, List.set_cons_succ]
              refine AnyTo.done (by kernel_rfl) ?_
              try rw [hw3]
              clear hw3 hc1 hc2 hf2 hg2 ha1 hS
              have hS : (fun w' => w'.cell? ⟨g, 1, none⟩ = some (.slice ap N2 cp) ∧ w'.cell? ⟨g, 2, none⟩ = some (.int .i64 (m : Nat)) : World → Prop) w3.drew := ⟨hp1, hp2⟩
              go_wp2_with fail
              refine AnyTo.region (m := 13) (S := fun w' => w'.cell? ⟨g, 1, none⟩ = some (.slice ap N2 cp) ∧ w'.cell? ⟨g, 2, none⟩ = some (.int .i64 (m : Nat))) mixed ?_
              refine AnyTo.take (i := 0) (v := ?vd0) rfl (by kernel_rfl) (by kernel_rfl) (by kernel_rfl) (by kernel_rfl) (fun _ _ _ h => h) (Or.inl ⟨by kernel_rfl, ?hyd0⟩) hS ?restd0
              case hyd0 => (intro w' hw'; (try dsimp only at hw'); go_simp; try (with_reducible rfl))
              try simp only [Act.put, List.setIfInBounds_toArray, List.set_cons_zero, List.set_cons_succ]
              refine AnyTo.take (i := 1) (v := ?vd1) rfl (by kernel_rfl) (by kernel_rfl) (by kernel_rfl) (by kernel_rfl) (fun _ _ _ h => h) (Or.inl ⟨by kernel_rfl, ?hyd1⟩) hS ?restd1
              case hyd1 => (intro w' hw'; (try dsimp only at hw'); go_simp; try (with_reducible rfl))
              try simp only [Act.put, List.setIfInBounds_toArray, List.set_cons_zero, List.set_cons_succ]
              refine AnyTo.take (i := 2) (v := ?vd2) rfl (by kernel_rfl) (by kernel_rfl) (by kernel_rfl) (by kernel_rfl) (fun _ _ _ h => h) (Or.inl ⟨by kernel_rfl, ?hyd2⟩) hS ?restd2
              case hyd2 => (intro w' hw'; (try dsimp only at hw'); go_simp; try (with_reducible rfl))
              try simp only [Act.put, List.setIfInBounds_toArray, List.set_cons_zero, List.set_cons_succ]
              refine AnyTo.take (i := 3) (v := ?vd3) rfl (by kernel_rfl) (by kernel_rfl) (by kernel_rfl) (by kernel_rfl) (fun _ _ _ h => h) (Or.inl ⟨by kernel_rfl, ?hyd3⟩) hS ?restd3
              case hyd3 => (intro w' hw'; (try dsimp only at hw'); go_simp; try (with_reducible rfl))
              try simp only [Act.put, List.setIfInBounds_toArray, List.set_cons_zero, List.set_cons_succ]
              refine AnyTo.take (i := 4) (v := ?vd4) rfl (by kernel_rfl) (by kernel_rfl) (by kernel_rfl) (by kernel_rfl) (fun _ _ _ h => h) (Or.inl ⟨by kernel_rfl, ?hyd4⟩) hS ?restd4
              case hyd4 => (intro w' hw'; (try dsimp only at hw'); go_simp; try (with_reducible rfl))
              try simp only [Act.put, List.setIfInBounds_toArray, List.set_cons_zero, List.set_cons_succ]
              refine AnyTo.take (i := 5) (v := ?vd5) rfl (by kernel_rfl) (by kernel_rfl) (by kernel_rfl) (by kernel_rfl) (fun _ _ _ h => h) (Or.inl ⟨by kernel_rfl, ?hyd5⟩) hS ?restd5
              case hyd5 => (intro w' hw'; (try dsimp only at hw'); go_simp; try (with_reducible rfl))
              try simp only [Act.put, List.setIfInBounds_toArray, List.set_cons_zero, List.set_cons_succ]
              refine AnyTo.take (i := 6) (v := ?vd6) rfl (by kernel_rfl) (by kernel_rfl) (by kernel_rfl) (by kernel_rfl) (fun _ _ _ h => h) (Or.inl ⟨by kernel_rfl, ?hyd6⟩) hS ?restd6
              case hyd6 => (intro w' hw'; (try dsimp only at hw'); go_simp; try (with_reducible rfl))
              try simp only [Act.put, List.setIfInBounds_toArray, List.set_cons_zero, List.set_cons_succ]
              refine AnyTo.take (i := 7) (v := ?vd7) rfl (by kernel_rfl) (by kernel_rfl) (by kernel_rfl) (by kernel_rfl) (fun _ _ _ h => h) (Or.inl ⟨by kernel_rfl, ?hyd7⟩) hS ?restd7
              case hyd7 => (intro w' hw'; (try dsimp only at hw'); go_simp; try (with_reducible rfl))
              try simp only [Act.put, List.setIfInBounds_toArray, List.set_cons_zero, List.set_cons_succ]
              refine AnyTo.take (i := 8) (v := ?vd8) rfl (by kernel_rfl) (by kernel_rfl) (by kernel_rfl) (by kernel_rfl) (fun _ _ _ h => h) (Or.inl ⟨by kernel_rfl, ?hyd8⟩) hS ?restd8
              case hyd8 => (intro w' hw'; (try dsimp only at hw'); go_simp; try (with_reducible rfl))
              try simp only [Act.put, List.setIfInBounds_toArray, List.set_cons_zero, List.set_cons_succ]
              refine AnyTo.step (i := 9) (by kernel_rfl) rfl (fun K hK => ?_)
              go_simp
              refine hK.out _ _ (fun _ => ⟨ha2 _, ha3 _⟩) ?_
              clear hK K
              try simp only [Act.put, List.getElem_toArray, List.getElem_cons_zero, List.getElem_cons_succ, List.setIfInBounds_toArray, List.set_cons_zero, List.set_cons_succ]
              refine AnyTo.step (i := 10) (by kernel_rfl) rfl (fun K hK => ?_)
              refine step_append_run (t := 59) rfl rfl (v := .slice ap N2 cp) (u := .slice (some { block := w3.heap.size, off := 0 }) 1 1) (by simp [Act.eval, Act.put]) (by simp [Act.eval, Act.put]) HRUN2.out ?_
              refine hK.out _ _ (fun _ => ⟨hp3, hp4⟩) ?_
              clear hK K
              try simp only [Act.put, List.getElem_toArray, List.getElem_cons_zero, List.getElem_cons_succ, List.setIfInBounds_toArray, List.set_cons_zero, List.set_cons_succ]
              refine AnyTo.step (i := 11) (by kernel_rfl) rfl (fun K hK => ?_)
              go_simp
              refine hK.out _ _ (fun _ => ⟨hp3, hp4⟩) ?_
              clear hK K
              try simp only [Act.put, List.getElem_toArray, List.getElem_cons_zero, List.getElem_cons_succ, List.setIfInBounds_toArray, List.set_cons_zero, List.set_cons_succ]
              refine AnyTo.step (i := 12) (by kernel_rfl) rfl (fun K hK => ?_)
              go_simp
              refine hK.out _ _ (fun _ => ⟨hp3, hp4⟩) ?_
              clear hK K
              try simp only [Act.put, List.getElem_toArray, List.getElem_cons_zero, List.getElem_cons_succ, List.setIfInBounds_toArray, List.set_cons_zero, List.set_cons_succ]
              refine AnyTo.step (i := 13) (by kernel_rfl) rfl (fun K hK => ?_)
              go_simp
              refine hK.out _ _ (fun z => absurd rfl z) ?_
              clear hK K
              try simp only [Act.put, List.getElem_toArray, List.getElem_cons_zero, List.getElem_cons_succ, List.setIfInBounds_toArray, List.set_cons_zero, List.set_cons_succ]
              refine AnyTo.done (by kernel_rfl) ?_
              try rw [hw5]
              clear hw5 hp1 hp2 hp3 hp4 hpf hpg ha2 ha3 hS
              go_wp2_with fail
              go_roundw
              case rel => exact ⟨k + 1, by omega, by go_num, HFIN.out⟩
              case measure => simp [intOf]; omega

            · obtain rfl : k = x.size := by omega
              go_wp2_with fail
              go_ret
              exact ⟨rfl, HD.out, HC.out⟩

end Go.Proofs.Ytpnmhpkpkejdiaa
