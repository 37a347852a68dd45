/- Layer 17: the laws' own op, whatever its kind; and fine. -/
import Derived.Test.YtecpgkcoehnpbaaLinkV
namespace Go.Proofs.Ytecpgkcoehnpbaa
open Go.RowKit

theorem op_any (w : World) (F : Nat → Prop) (P go gi gw N : Nat) (s : PSt) (c n : Int) (o : LOp) (h : PairAt w F P go gi gw s) (hi : Inv N s) (hN : N ≤ 1000) (hc : s.o.ch = c) (hn : s.o.inc = n) :
    Calls Try.prog 37 #[.pointer (some ⟨P, 0, none⟩), .agg #[.int .i64 o.k, .int .i64 o.a, .int .i64 o.b, .string o.x, .int .i64 o.p.ch, .int .i64 o.p.back, .int .i64 o.p.inc, .int .i64 o.p.seq, .int .i64 o.p.ack, .string o.p.load], .int .i64 c, .int .i64 n] w (OpPost w F P go gi gw (s.op o)) := by
  obtain ⟨k, a, b, x, p⟩ := o
  show Calls _ _ #[_, .agg #[.int .i64 k, .int .i64 a, .int .i64 b, .string x, .int .i64 p.ch, .int .i64 p.back, .int .i64 p.inc, .int .i64 p.seq, .int .i64 p.ack, .string p.load], _, _] _ _
  unfold PSt.op
  simp only
  by_cases k0 : k = 0
  · subst k0
    rw [if_pos rfl]
    unfold PSt.put
    by_cases hx : x.toList = []
    · rw [if_pos hx]; exact op_0_empty w F P go gi gw N s c n a b x p h hi hN hx
    · rw [if_neg hx]
      by_cases h6 : s.o.waits.length = 6
      · rw [if_pos h6]; exact op_0_full w F P go gi gw N s c n a b x p h hi hN hx h6
      · rw [if_neg h6]; exact op_0_ok w F P go gi gw N s c n a b x p h hi hN hx (by have := hi.w6; omega)
  rw [if_neg k0]
  by_cases k1 : k = 1
  · subst k1; rw [if_pos rfl]; exact op_1 w F P go gi gw N s c n a b x p h hi hN
  rw [if_neg k1]
  by_cases k2 : k = 2
  · subst k2; rw [if_pos rfl]; exact op_2 w F P go gi gw N s c n a b x p h hi hN
  rw [if_neg k2]
  by_cases k3 : k = 3
  · subst k3; rw [if_pos rfl]
    unfold PSt.lose
    by_cases ha : a < 0 ∨ (s.l.length : Int) ≤ a
    · rw [if_pos ha]; exact op_3_no w F P go gi gw N s c n a b x p h hi hN ha
    · rw [if_neg ha]
      exact op_3_yes w F P go gi gw N s c n a b x p h hi hN a.toNat _ (by omega) (List.getElem?_eq_getElem (by omega))
  rw [if_neg k3]
  by_cases k4 : k = 4
  · subst k4; rw [if_pos rfl]
    unfold PSt.twice
    by_cases h0 : a < 0
    · rw [if_pos h0]; exact op_4_no w F P go gi gw N s c n a b x p h hi hN (.inl h0)
    · rw [if_neg h0]
      cases hy : s.l[a.toNat]? with
      | none => exact op_4_no w F P go gi gw N s c n a b x p h hi hN (.inr (by have := List.getElem?_eq_none_iff.1 hy; omega))
      | some y => exact op_4_yes w F P go gi gw N s c n a b x p h hi hN a.toNat y (by omega) hy
  rw [if_neg k4]
  by_cases k5 : k = 5
  · subst k5; rw [if_pos rfl]
    unfold PSt.turn
    by_cases h0 : a < 0
    · rw [if_pos h0]; exact op_5_no w F P go gi gw N s c n a b x p h hi hN (.inl h0)
    · rw [if_neg h0]
      cases hy : s.l[a.toNat]? with
      | none => exact op_5_no w F P go gi gw N s c n a b x p h hi hN (.inr (by have := List.getElem?_eq_none_iff.1 hy; omega))
      | some y => exact op_5_yes w F P go gi gw N s c n a b x p h hi hN a.toNat y (by omega) hy
  rw [if_neg k5]
  by_cases k6 : k = 6
  · subst k6; rw [if_pos rfl]; exact op_6 w F P go gi gw N s c n a b x p h hi hN
  rw [if_neg k6]
  by_cases k7 : k = 7
  · subst k7
    by_cases h1 : p.ch = c
    · have e1 : (p.ch != c) = false := by rw [bne_eq_false_iff_eq]; exact h1
      by_cases h2 : p.inc = n
      · exact op_7_own w F P go gi gw N s c n a b x p h hi hN e1 (by rw [bne_eq_false_iff_eq]; exact h2)
      · exact op_7_inc w F P go gi gw N s c n a b x p h hi hN e1 (by rw [bne_iff_ne]; exact h2) fun bk y => h2 (y.2.1.trans hn)
    · exact op_7_ch w F P go gi gw N s c n a b x p h hi hN (by rw [bne_iff_ne]; exact h1) fun bk y => h1 (y.1.trans hc)
  · exact op_9 w F P go gi gw N s c n a b x p h hi hN k (beq_eq_false_iff_ne.2 k0) (beq_eq_false_iff_ne.2 k1) (beq_eq_false_iff_ne.2 k2) (beq_eq_false_iff_ne.2 k3) (beq_eq_false_iff_ne.2 k4) (beq_eq_false_iff_ne.2 k5) (beq_eq_false_iff_ne.2 k6) (beq_eq_false_iff_ne.2 k7)

theorem PairAt.texts {w : World} {F : Nat → Prop} {P go gi gw : Nat} {s : PSt} (h : PairAt w F P go gi gw s) : ∃ (G1 G2 : Nat → Prop) (a1 : Option Addr) (c1 : Nat) (a2 : Option Addr) (c2 : Nat), w.heap[P]? = some (pairObj go gi gw (.slice a1 s.sent.length c1) (.slice a2 s.got.length c2)) ∧
    Sl w G1 9 1 (.slice a1 s.sent.length c1) s.sent.length (strCells s.sent) ∧ Sl w G2 9 1 (.slice a2 s.got.length c2) s.got.length (strCells s.got) := by
  obtain ⟨col, v1, v2, h0, hp, h1, h2, h3, h4, h5, h6⟩ := h
  obtain ⟨a1, c1, rfl, _, _⟩ := h4.shape
  obtain ⟨a2, c2, rfl, _, _⟩ := h5.shape
  exact ⟨_, _, a1, c1, a2, c2, h0, h4, h5⟩
/-- the k-th text of a list -/
theorem str_at {w : World} {G : Nat → Prop} {ao : Option Addr} {cap : Nat} {l : List ByteArray} (h : Sl w G 9 1 (.slice ao l.length cap) l.length (strCells l)) {k : Nat} {x : ByteArray} (hk : l[k]? = some x) :
    ∃ b off, ao = some ⟨b, off, none⟩ ∧ w.cell? ⟨b, off + k, none⟩ = some (.string x) := by
  have hlt := (List.getElem?_eq_some_iff.1 hk).1
  obtain ⟨b, off, cap', he, _, _, _, _, hc⟩ := h.at (by omega)
  simp only [Value.slice.injEq] at he
  obtain ⟨rfl, -, rfl⟩ := he
  exact ⟨b, off, rfl, (hc k _ (by simp [strCells, hk])).1⟩
theorem quietL {P : Program} {f : FuncId} {args : Array Value} {w : World} {n : Nat} {v : Value} (h : Calls P f args (w.drewN n) fun e w' => e = .returned v ∧ w.drewN n = w') : Calls P f args (w.drewN n) fun e w'' => e = .returned v ∧ ∃ m, w'' = w.drewN m :=
  h.mono fun _ _ ⟨he, hm⟩ => ⟨he, n, hm.symm⟩
theorem Inv.gotAt {N : Nat} {s : PSt} (h : Inv N s) {k : Nat} {x : ByteArray} (hk : s.got[k]? = some x) : s.sent[k]? = some x := by
  have hl := (List.getElem?_eq_some_iff.1 hk).1
  have e : (s.got ++ s.i.loads)[k]? = some x := by rw [List.getElem?_append_left hl]; exact hk
  rw [h.loads, List.getElem?_take] at e
  split at e
  · exact e
  · cases e
theorem Inv.nextAt {N : Nat} {s : PSt} (h : Inv N s) {x : ByteArray} {r : List ByteArray} (hx : s.i.loads = x :: r) : s.sent[s.got.length]? = some x := by
  have e : (s.got ++ s.i.loads)[s.got.length]? = some x := by rw [List.getElem?_append_right (Nat.le_refl _), hx]; simp
  rw [h.loads, List.getElem?_take] at e
  split at e
  · exact e
  · cases e

set_option maxRecDepth 100000 in
set_option maxHeartbeats 3200000 in
/-- what always holds is what fine asks -/
theorem fine_any (w : World) (F : Nat → Prop) (P go gi gw N : Nat) (s : PSt) (h : PairAt w F P go gi gw s) (hi : Inv N s) (hN : N ≤ 1000) :
    Calls Try.prog 38 #[.pointer (some ⟨P, 0, none⟩)] w fun e w' => e = .returned (.bool true) ∧ Below w.heap.size w w' := by
  obtain ⟨G1, G2, a1, c1, a2, c2, hrow, hs1, hs2⟩ := h.texts
  have p0 : w.cell? ⟨P, 0, none⟩ = some (.pointer (some ⟨go, 0, none⟩)) := cell_at hrow rfl
  have p1 : w.cell? ⟨P, 1, none⟩ = some (.pointer (some ⟨gi, 0, none⟩)) := cell_at hrow rfl
  have p3 : w.cell? ⟨P, 3, none⟩ = some (.slice a1 s.sent.length c1) := cell_at hrow rfl
  have p4 : w.cell? ⟨P, 4, none⟩ = some (.slice a2 s.got.length c2) := cell_at hrow rfl
  have at_ : ∀ w', Below w.heap.size w w' → PairAt w' F P go gi gw s := fun w' hb => h.below hb (Nat.le_refl _)
  have HW : Hid (∀ n, Calls Try.prog 17 #[.pointer (some ⟨go, 0, none⟩)] (w.drewN n) fun e w' => e = .returned (.int .i64 (s.o.waits.length : Nat)) ∧ w.drewN n = w') := fun n => pair_waits (at_ _ (bl_drewN (Below.refl _ _) n))
  have HF : Hid (∀ n, Calls Try.prog 18 #[.pointer (some ⟨go, 0, none⟩)] (w.drewN n) fun e w' => e = .returned (.int .i64 (6 - (s.o.waits.length : Int))) ∧ w.drewN n = w') := fun n => pair_free (at_ _ (bl_drewN (Below.refl _ _) n)) hi
  have HL : Hid (∀ n, Calls Try.prog 19 #[.pointer (some ⟨gi, 0, none⟩)] (w.drewN n) fun e w' => e = .returned (.int .i64 (s.i.loads.length : Nat)) ∧ w.drewN n = w') := fun n => pair_inlen (at_ _ (bl_drewN (Below.refl _ _) n))
  have i1 := hi.w6; have i2 := hi.l6; have i3 := hi.gl; have i4 := hi.acked; have i5 := hi.sn
  have b1 : s.got.length ≤ s.sent.length := by omega
  have d1 : decide (s.sent.length < s.got.length) = false := by simp; omega
  have d2 : decide ((6 : Int) < (s.o.waits.length : Int)) = false := by simp; omega
  have d3 : decide ((6 : Int) < (s.i.loads.length : Int)) = false := by simp; omega
  have d4 : decide ((s.o.waits.length : Int) < (s.sent.length : Int) - (s.got.length : Int)) = false := by simp; omega
  have e1 : IntKind.i64.wrap ((s.sent.length : Int) - (s.got.length : Int)) = (s.sent.length : Int) - (s.got.length : Int) := IntWalk.i64_in _ (by omega)
  have e2 : IntKind.i64.wrap ((6 : Int) - (s.o.waits.length : Int)) = (6 : Int) - (s.o.waits.length : Int) := IntWalk.i64_in _ (by omega)
  have HH := Lib.hid h
  have HI := Lib.hid hi
  have HR := Lib.hid hrow
  have HS1 := Lib.hid hs1
  have HS2 := Lib.hid hs2
  clear h hi hrow hs1 hs2 at_
  go_enter Try.func38, Try.ntmps38
  go_wp2_with fail
  go_quiet ((first | (go_at_call 17; exact quietL (HW.out _)) | (go_at_call 18; exact quietL (HF.out _)) | (go_at_call 19; exact quietL (HL.out _))))
  clear p0 p1 p3 p4 d1 d2 d3 d4 e1 e2 HW HF HL
  have HB1 : Hid (Below w.heap.size w (w.drewN nq)) := bl_drewN (Below.refl _ _) nq
  generalize w.drewN nq = w1 at *
  have p4 : w1.cell? ⟨P, 4, none⟩ = some (.slice a2 s.got.length c2) := cell_at (below_heap HB1.out HR.out (heap_lt HR.out)) rfl
  go_wp2_with fail
  clear p4
  go_loopw [71] (fun i wr => ∃ j : Nat, j ≤ s.got.length ∧ i = .int .i64 j ∧ Hid (Below w.heap.size w wr)) (fun i _ => s.got.length - (intOf i).toNat)
  case atStart => exact ⟨0, by omega, rfl, HB1.out⟩
  case round =>
    obtain ⟨j, hj, rfl, HB⟩ := hrel
    clear HB1
    have hr := below_heap HB.out HR.out (heap_lt HR.out)
    by_cases hlt : j < s.got.length
    · obtain ⟨x, hx⟩ : ∃ x, s.got[j]? = some x := ⟨_, List.getElem?_eq_getElem hlt⟩
      obtain ⟨b2, o2, rfl, g2⟩ := str_at HS2.out hx
      obtain ⟨b1', o1, rfl, g1⟩ := str_at HS1.out (HI.out.gotAt hx)
      have k1 : wr.cell? ⟨b1', o1 + j, none⟩ = some (.string x) := (HB.out.cell (by exact block_lt_of_cell g1)).trans g1
      have k2 : wr.cell? ⟨b2, o2 + j, none⟩ = some (.string x) := (HB.out.cell (by exact block_lt_of_cell g2)).trans g2
      have p3 : wr.cell? ⟨P, 3, none⟩ = some (.slice (some ⟨b1', o1, none⟩) s.sent.length c1) := cell_at hr rfl
      have p4 : wr.cell? ⟨P, 4, none⟩ = some (.slice (some ⟨b2, o2, none⟩) s.got.length c2) := cell_at hr rfl
      have hlt2 : j < s.sent.length := by omega
      clear g1 g2 hr hx
      go_wp2_with fail
      go_quiet (fail)
      have HB2 : Hid (Below w.heap.size w (wr.drewN nq)) := bl_drewN HB.out nq
      go_wp2_with fail
      go_roundw
      case rel => exact ⟨j + 1, by omega, by go_num, HB2.out⟩
      case measure => simp [intOf]; omega
    · have p1 : wr.cell? ⟨P, 1, none⟩ = some (.pointer (some ⟨gi, 0, none⟩)) := cell_at hr rfl
      have p3 : wr.cell? ⟨P, 3, none⟩ = some (.slice a1 s.sent.length c1) := cell_at hr rfl
      have p4 : wr.cell? ⟨P, 4, none⟩ = some (.slice a2 s.got.length c2) := cell_at hr rfl
      have HPR := Lib.hid (HH.out.below HB.out (Nat.le_refl _))
      have HL : Hid (∀ n, Calls Try.prog 19 #[.pointer (some ⟨gi, 0, none⟩)] (wr.drewN n) fun e w' => e = .returned (.int .i64 (s.i.loads.length : Nat)) ∧ wr.drewN n = w') := fun n => pair_inlen (HPR.out.below (bl_drewN (Below.refl _ _) n) (Nat.le_refl _))
      cases hl : s.i.loads with
      | nil =>
        have HK := Lib.hid (pair_peek_none HPR.out hl)
        have HN : Hid (s.i.loads.length = 0) := by rw [hl]; rfl
        rw [HN.out] at HL
        clear hl hr
        go_wp2_with fail
        refine HK.out.mono ?_
        rintro e w2 ⟨rfl, rfl⟩
        go_wp2_with fail
        go_quiet ((go_at_call 19; exact quietL (HL.out _)))
        go_wp2_with fail
        go_ret
        exact ⟨rfl, bl_drewN HB.out _⟩
      | cons x r =>
        have HK := Lib.hid (pair_peek HPR.out x r hl)
        obtain ⟨b1', o1, rfl, g1⟩ := str_at HS1.out (HI.out.nextAt hl)
        have k1 : wr.cell? ⟨b1', o1 + s.got.length, none⟩ = some (.string x) := (HB.out.cell (by exact block_lt_of_cell g1)).trans g1
        have hpos : decide ((0 : Int) < (s.i.loads.length : Int)) = true := by simp [hl]
        have hpos2 : 0 < s.i.loads.length := by simp [hl]
        have hlt2 : s.got.length < s.sent.length := by have := i3; rw [hl] at this; simp at this; omega
        clear hl hr g1
        go_wp2_with fail
        refine HK.out.mono ?_
        rintro e w2 ⟨rfl, rfl⟩
        go_wp2_with fail
        go_quiet ((go_at_call 19; exact quietL (HL.out _)))
        go_wp2_with fail
        go_ret
        exact ⟨rfl, bl_drewN HB.out _⟩
end Go.Proofs.Ytecpgkcoehnpbaa
