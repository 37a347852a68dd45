/- Layer 14's reference: the walks of Sync, Truncate, Lasts. -/
import Derived.Test.YtpnmhpkpkejdiaaRefB
namespace Go.Proofs.Ytpnmhpkpkejdiaa
open Go.RowKit

def RSt.sync (r : RSt) : Int × RSt := if r.down then (8, r) else if r.left = 0 then (8, r.burnt) else (0, r.burnt.lasted)
def RSt.cut (r : RSt) (k : Nat) : RSt := ⟨r.b.take k, r.piece, r.many, r.cap, r.left, r.down⟩
def RSt.trunc (r : RSt) (n : Int) : Int × RSt := if r.down then (8, r) else if n < 0 ∨ (r.b.length : Int) < n then (2, r) else if r.left = 0 then (8, r.burnt) else (0, (r.burnt.cut n.toNat).lasted)

set_option maxRecDepth 100000 in
set_option maxHeartbeats 1600000 in
theorem refSync_any (g N : Nat) (r : RSt) (F : Nat → Prop) (w : World) (h : RefAt w F g r) (ok : ROk N r) :
    Calls Try.prog 38 #[.pointer (some ⟨g, 0, none⟩)] w fun e w' => e = .returned (.int .i64 r.sync.1) ∧ RefAt w' (fun k => (F k ∧ k < w.heap.size) ∨ w.heap.size ≤ k) g r.sync.2 ∧ Chg w w' F := by
  have o0 := ok.c0; have o1 := ok.c1; have o2 := ok.all
  obtain ⟨ab0, cb0, ap0, cp0, _, _, _, _, hg, _, _⟩ := h.cells
  have c5 : w.cell? ⟨g, 5, none⟩ = some (.bool r.down) := cell_at hg rfl
  have hglt := heap_lt hg
  unfold RSt.sync
  by_cases hd : r.down = true
  · rw [if_pos hd]
    rw [hd] at c5
    have HR := Lib.hid h.tight
    clear hd h hg
    go_enter Try.func38, Try.ntmps38
    go_wp2_with fail
    go_ret
    exact ⟨rfl, HR.out, Chg.refl _ _⟩
  · rw [if_neg hd]
    have hd : r.down = false := by simpa using hd
    rw [hd] at c5
    have hb := refBurns_any g r F w h ok.l0 ok.l1
    by_cases hl0 : r.left = 0
    · rw [if_pos hl0]
      have e0 : (r.left == 0) = true := by rw [hl0]; rfl
      rw [e0] at hb
      have HB := Lib.hid hb
      clear hd h hg hl0 e0 ok hb
      go_enter Try.func38, Try.ntmps38
      go_wp2_with fail
      refine HB.out.mono ?_
      rintro e w2 ⟨rfl, h2, c2⟩
      have HR : Hid (RefAt w2 (fun k => (F k ∧ k < w.heap.size) ∨ w.heap.size ≤ k) g r.burnt ∧ Chg w w2 F) := ⟨h2.mono fun k _ a => by
        by_cases hk : k < w.heap.size
        · exact .inl ⟨a, hk⟩
        · exact .inr (by omega), c2⟩
      clear h2 c2
      go_wp2_with fail
      go_ret
      exact ⟨rfl, HR.out⟩
    · rw [if_neg hl0]
      have e0 : (r.left == 0) = false := by rw [beq_eq_false_iff_ne]; exact hl0
      rw [e0] at hb
      have HB := Lib.hid hb
      obtain ⟨b1, b2, b3, b4⟩ := rburnt_parts r
      have HRB : Hid (r.burnt.b.length ≤ 100000000) := by show r.burnt.b.length ≤ _; rw [b1]; omega
      clear hd h hg hl0 e0 ok hb b1 b2 b3 b4
      generalize r.burnt = r1 at *
      go_enter Try.func38, Try.ntmps38
      go_wp2_with fail
      refine HB.out.mono ?_
      rintro e w2 ⟨rfl, h2, c2⟩
      have HL := Lib.hid (refLast_any g r1 F w2 h2 HRB.out)
      have HC2 := Lib.hid c2
      clear h2 c2
      go_wp2_with fail
      refine HL.out.mono ?_
      rintro e w3 ⟨rfl, h3, c3⟩
      have hz := HC2.out.size
      have HR : Hid (RefAt w3 (fun k => (F k ∧ k < w.heap.size) ∨ w.heap.size ≤ k) g r1.lasted ∧ Chg w w3 F) := ⟨h3.mono fun k _ a => by
        by_cases hk : k < w.heap.size
        · rcases a with ⟨a, _⟩ | a
          · exact .inl ⟨a, hk⟩
          · omega
        · exact .inr (by omega), HC2.out.trans c3 (fun _ _ a => a)⟩
      clear h3 c3
      go_wp2_with fail
      go_ret
      exact ⟨rfl, HR.out⟩

theorem Sl.take1 {w : World} {F : Nat → Prop} {e : TypeId} {ao : Option Addr} {n cap k : Nat} {xs : List Value} (h : Sl w F e 1 (.slice ao n cap) n xs) (hk : k ≤ n) : Sl w F e 1 (.slice ao k cap) k (xs.take k) := by
  have hl := h.1
  refine ⟨by rw [List.length_take]; omega, ?_⟩
  rcases h.2 with ⟨h0, h1⟩ | ⟨g, off, cap', cur, h0, h2, h3, h4, h5, h6, h7⟩
  · simp only [Value.slice.injEq] at h0
    obtain ⟨rfl, rfl, rfl⟩ := h0
    obtain rfl : k = 0 := by omega
    exact .inl ⟨rfl, rfl⟩
  · simp only [Value.slice.injEq] at h0
    obtain ⟨rfl, -, rfl⟩ := h0
    refine .inr ⟨g, off, cap, cur, rfl, h2, h3, by omega, h5, h6, ?_⟩
    rw [← h7, List.take_take]
    congr 1; omega
theorem run_take1 {P : Program} {size : Nat} (w : World) (t : TypeId) (ht : P.underlying t = some (.slice (P.elem t))) (hs : (P.info? (P.elem t)).map (·.size) = some size) {ao : Option Addr} {n cap k : Nat} (hk : k ≤ cap) :
    Sem.run P (Instr.slice t (.slice ao n cap) none (some (.int .i64 (k : Int))) none) w = .ok (.slice ao k cap) w := by
  rw [run_slice_h (P := P) w t ao n cap ht .i64 k (by omega) (by omega)]
  obtain ⟨i, hi, hsz⟩ := Option.map_eq_some_iff.1 hs
  have e : (fun x : Addr => x.add 0) = id := by funext x; simp [Addr.add]
  simp [sizeOf, typeInfo, hi, hsz, sliced, Result.andThen, e]
theorem refCut_store {w : World} {F : Nat → Prop} {g : Nat} {r : RSt} (h : RefAt w F g r) {ab : Option Addr} {cb : Nat} {vp : Value} (hg : w.heap[g]? = some (.cells (refCells r (.slice ab r.b.length cb) vp) 61 (0, 0))) {k : Nat} (hk : k ≤ r.b.length) :
    RefAt (w.setCell ⟨g, 0, none⟩ (.slice ab k cb)) F g (r.cut k) ∧ Chg w (w.setCell ⟨g, 0, none⟩ (.slice ab k cb)) F := by
  obtain ⟨h1, vb, vp', h2, h3, h4⟩ := h
  rw [hg] at h2
  simp only [Option.some.injEq, Obj.cells.injEq, refCells] at h2
  have h2' := h2.1
  simp only [Array.mk.injEq, List.cons.injEq] at h2'
  obtain ⟨rfl, rfl, -⟩ := h2'
  refine ⟨⟨h1, .slice ab k cb, vp, heap_setCell_same (i := 0) hg _, ?_, h4.keep fun k hk _ => Below.heap_setCell _ _ _ _ hk.2⟩, (Chg.refl w F).setCell (fun _ => h1) _⟩
  have e : (r.cut k).b.length = k := by simp [RSt.cut]; omega
  rw [e]
  have := (h3.take1 hk).keep (w' := w.setCell ⟨g, 0, none⟩ (.slice ab k cb)) fun k hk _ => Below.heap_setCell _ _ _ _ hk.2.1
  rw [show u8Cells (r.cut k).b = (u8Cells r.b).take k from (List.map_take ..)]
  exact this

set_option maxRecDepth 100000 in
set_option maxHeartbeats 1600000 in
theorem refTrunc_any (g N : Nat) (r : RSt) (F : Nat → Prop) (w : World) (n : Int) (h : RefAt w F g r) (ok : ROk N r) :
    Calls Try.prog 39 #[.pointer (some ⟨g, 0, none⟩), .int .i64 n] w fun e w' => e = .returned (.int .i64 (r.trunc n).1) ∧ RefAt w' (fun k => (F k ∧ k < w.heap.size) ∨ w.heap.size ≤ k) g (r.trunc n).2 ∧ Chg w w' F := by
  have o0 := ok.c0; have o1 := ok.c1; have o2 := ok.all
  obtain ⟨ab0, cb0, ap0, cp0, hcb, hcm, _, _, hg, _, _⟩ := h.cells
  have c0 : w.cell? ⟨g, 0, none⟩ = some (.slice ab0 r.b.length cb0) := cell_at hg rfl
  have c5 : w.cell? ⟨g, 5, none⟩ = some (.bool r.down) := cell_at hg rfl
  have hglt := heap_lt hg
  unfold maxLen at hcm
  unfold RSt.trunc
  by_cases hd : r.down = true
  · rw [if_pos hd]
    rw [hd] at c5
    have HR := Lib.hid h.tight
    clear hd h hg c0
    go_enter Try.func39, Try.ntmps39
    go_wp2_with fail
    go_ret
    exact ⟨rfl, HR.out, Chg.refl _ _⟩
  · rw [if_neg hd]
    have hd : r.down = false := by simpa using hd
    rw [hd] at c5
    by_cases hn0 : n < 0
    · rw [if_pos (.inl hn0)]
      have HR := Lib.hid h.tight
      have hdc : decide (n < 0) = true := by simp; omega
      clear hd h hn0 hg
      go_enter Try.func39, Try.ntmps39
      go_wp2_with fail
      go_ret
      exact ⟨rfl, HR.out, Chg.refl _ _⟩
    · have hdc : decide (n < 0) = false := by simp; omega
      obtain ⟨q, hq⟩ : ∃ q, r.b.length = q := ⟨_, rfl⟩
      rw [hq] at c0 o2 hcb ⊢
      by_cases hn1 : (q : Int) < n
      · rw [if_pos (.inr hn1)]
        have HR := Lib.hid h.tight
        have hdc1 : decide ((q : Int) < n) = true := by simp; omega
        clear hd h hn0 hg hn1 hq
        go_enter Try.func39, Try.ntmps39
        go_wp2_with fail
        go_ret
        exact ⟨rfl, HR.out, Chg.refl _ _⟩
      · rw [if_neg (fun x => x.elim hn0 hn1)]
        obtain ⟨m, rfl⟩ := Int.eq_ofNat_of_zero_le (show 0 ≤ n by omega)
        rw [Int.toNat_natCast]
        have hdc1 : decide (q < m) = false := by simp; omega
        have hb := refBurns_any g r F w h ok.l0 ok.l1
        by_cases hl0 : r.left = 0
        · rw [if_pos hl0]
          have e0 : (r.left == 0) = true := by rw [hl0]; rfl
          rw [e0] at hb
          have HB := Lib.hid hb
          clear hd h hg hl0 e0 ok hb hq hn0 hn1
          go_enter Try.func39, Try.ntmps39
          go_wp2_with fail
          refine HB.out.mono ?_
          rintro e w2 ⟨rfl, h2, c2⟩
          have HR : Hid (RefAt w2 (fun k => (F k ∧ k < w.heap.size) ∨ w.heap.size ≤ k) g r.burnt ∧ Chg w w2 F) := ⟨h2.mono fun k _ a => by
            by_cases hk : k < w.heap.size
            · exact .inl ⟨a, hk⟩
            · exact .inr (by omega), c2⟩
          clear h2 c2
          go_wp2_with fail
          go_ret
          exact ⟨rfl, HR.out⟩
        · rw [if_neg hl0]
          have e0 : (r.left == 0) = false := by rw [beq_eq_false_iff_ne]; exact hl0
          rw [e0] at hb
          have HB := Lib.hid hb
          obtain ⟨b1, b2, b3, b4⟩ := rburnt_parts r
          have HRB : Hid (r.burnt.b.length = q) := by show r.burnt.b.length = _; rw [b1]; exact hq
          have hmq : m ≤ q := by omega
          clear hd h hg hl0 e0 ok hb b1 b2 b3 b4 hq hn0 hn1
          generalize r.burnt = r1 at *
          go_enter Try.func39, Try.ntmps39
          go_wp2_with fail
          refine HB.out.mono ?_
          rintro e w2 ⟨rfl, h2, c2⟩
          obtain ⟨ab, cb, ap, cp, hcb2, hcm2, _, _, hg2, _, _⟩ := h2.cells
          have hst := refCut_store h2 hg2 (k := m) (by rw [HRB.out]; exact hmq)
          rw [HRB.out] at hcb2
          have k0 : w2.cell? ⟨g, 0, none⟩ = some (.slice ab q cb) := by rw [cell_at hg2 (v := .slice ab r1.b.length cb) rfl, HRB.out]
          have f0 := free_at hg2 0
          have hglt2 := heap_lt hg2
          unfold maxLen at hcm2
          have hrun : ∀ w : World, Sem.run Try.prog (Instr.slice 34 (.slice ab q cb) none (some (.int .i64 (m : Int))) none) w = .ok (.slice ab m cb) w := fun w => run_take1 w 34 under_bytes (size := 1) (by kernel_rfl) (by omega)
          obtain ⟨w3, hw3⟩ : ∃ w3, w2.setCell ⟨g, 0, none⟩ (.slice ab m cb) = w3 := ⟨_, rfl⟩
          rw [hw3] at hst
          have HL := Lib.hid (refLast_any g (r1.cut m) F w3 hst.1 (by show (r1.b.take m).length ≤ _; rw [List.length_take, HRB.out]; omega))
          have HC3 : Hid (Chg w w3 F) := c2.trans hst.2 (fun _ _ a => a)
          clear h2 c2 hg2 hst c0 c5 HB
          go_wp2_with fail
          try rw [hw3]
          clear hw3 k0 f0 hglt2 hrun
          refine HL.out.mono ?_
          rintro e w4 ⟨rfl, h4, c4⟩
          have hz := HC3.out.size
          have HR : Hid (RefAt w4 (fun k => (F k ∧ k < w.heap.size) ∨ w.heap.size ≤ k) g (r1.cut m).lasted ∧ Chg w w4 F) := ⟨h4.mono fun k _ a => by
            by_cases hk : k < w.heap.size
            · rcases a with ⟨a, _⟩ | a
              · exact .inl ⟨a, hk⟩
              · omega
            · exact .inr (by omega), HC3.out.trans c4 (fun _ _ a => a)⟩
          clear h4 c4
          go_wp2_with fail
          go_ret
          exact ⟨rfl, HR.out⟩

/-- how many noughts -/
def zeros (l : List Nat) : Nat := (l.filter (· == 0)).length
theorem zeros_le (l : List Nat) : zeros l ≤ l.length := List.length_filter_le _ _
theorem zeros_succ (l : List Nat) (k : Nat) {n : Nat} (h : l[k]? = some n) : zeros (l.take (k + 1)) = zeros (l.take k) + if n = 0 then 1 else 0 := by
  unfold zeros
  rw [List.take_add_one, h, List.filter_append, List.length_append]
  by_cases e : n = 0 <;> simp [e]
set_option maxRecDepth 100000 in
set_option maxHeartbeats 1600000 in
theorem refLasts_any (g : Nat) (r : RSt) (F : Nat → Prop) (w : World) (h : RefAt w F g r) (hl : r.piece.length ≤ 100000000) :
    Calls Try.prog 41 #[.pointer (some ⟨g, 0, none⟩)] w fun e w' => e = .returned (.int .i64 (zeros r.piece : Nat)) ∧ w = w' := by
  obtain ⟨ab, cb, ap, cp, _, _, hcp, hcm, hg, _, hp⟩ := h.cells
  have c1 : w.cell? ⟨g, 1, none⟩ = some (.slice ap r.piece.length cp) := cell_at hg rfl
  obtain ⟨l, hpl⟩ : ∃ l, r.piece = l := ⟨_, rfl⟩
  rw [hpl] at c1 hp hl ⊢
  obtain ⟨n, hn⟩ : ∃ n, l.length = n := ⟨_, rfl⟩
  rw [hn] at c1 hp hl
  have HP := Lib.hid hp
  have HN := Lib.hid hn
  clear h hg hp hn hpl hcp hcm
  go_enter Try.func41, Try.ntmps41
  go_wp2_with fail
  go_loop [3, 4] (fun t i => ∃ k : Nat, k ≤ n ∧ i = .int .i64 k ∧ t = .int .i64 (zeros (l.take k) : Nat)) (fun _ i => n - (intOf i).toNat)
  case atStart => exact ⟨0, Nat.zero_le _, rfl, rfl⟩
  case round =>
    obtain ⟨k, hk, rfl, rfl⟩ := hrel
    have hzl := zeros_le (l.take k)
    rw [List.length_take, HN.out] at hzl
    have hzl : zeros (l.take k) ≤ k := by omega
    by_cases hlt : k < n
    · obtain ⟨x, hx⟩ : ∃ x, l[k]? = some x := ⟨_, List.getElem?_eq_getElem (by rw [HN.out]; exact hlt)⟩
      have hs := zeros_succ l k hx
      obtain ⟨b, off, cap, he, _, hb2, _, _, hc⟩ := HP.out.at (by omega)
      simp only [Value.slice.injEq] at he
      obtain ⟨rfl, -, rfl⟩ := he
      have ck : w.cell? ⟨b, off + k, none⟩ = some (.int .i64 (x : Nat)) := (hc k _ (by simp [natCells, hx])).1
      have HS := Lib.hid hs
      clear hs hc hx
      by_cases hx0 : x = 0
      · subst hx0
        generalize zeros (l.take k) = z at *
        go_wp2_with fail
        go_round
        case rel => exact ⟨k + 1, by omega, by go_num, by rw [HS.out, if_pos rfl]; go_num⟩
        case measure => simp [intOf]; omega
      · have hb0 : ((x : Int) == 0) = false := by rw [beq_eq_false_iff_ne]; omega
        generalize zeros (l.take k) = z at *
        go_wp2_with fail
        go_round
        case rel => exact ⟨k + 1, by omega, by go_num, by rw [HS.out, if_neg hx0, Nat.add_zero]⟩
        case measure => simp [intOf]; omega
    · obtain rfl : k = n := by omega
      have e : l.take k = l := by rw [← HN.out]; exact List.take_length
      rw [e] at hzl ⊢
      obtain ⟨z, hz⟩ : ∃ z, zeros l = z := ⟨_, rfl⟩
      rw [hz] at hzl ⊢
      have HZ := Lib.hid hz
      clear hz e
      go_wp2_with fail
      go_ret
      exact ⟨by rw [HZ.out]; rfl, rfl⟩
end Go.Proofs.Ytpnmhpkpkejdiaa
