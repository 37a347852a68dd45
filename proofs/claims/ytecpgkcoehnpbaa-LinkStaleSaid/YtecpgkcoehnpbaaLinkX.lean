/- Layer 17: the laws' list of ops as an argument, and great. -/
import Derived.Test.YtecpgkcoehnpbaaLinkW
import Derived.Test.YtecpgkcoehnpbaaPkArg
namespace Go.Proofs.Ytecpgkcoehnpbaa
open Go.ChangeShapes Go.WideShapes Go.ChangeAt Go.RowKit Go.Deep

theorem cells_lop : Try.prog.cellsOf 66 = 10 := by kernel_rfl
theorem under_lops : Try.prog.underlying 61 = some (.slice 66) := by kernel_rfl
def LOpOk (o : LOp) : Prop := inI64 o.k ∧ inI64 o.a ∧ inI64 o.b ∧ o.x.size ≤ 140737488351232 ∧ PkOk o.p

section
variable {H : Type} {enc : TypeId × Value → H} {W : World}
theorem rdLOp (fuel : Nat) (cs : List Value) (y : DataW H × List MemPlace) (h : DataW.trod enc Try.prog W 0 (fun _ => true) true fuel 66 cs = some y) (hw : ∀ n ∈ y.1.weights Try.prog 66, n ≤ 140737488351232) (_hp : ∀ x ∈ y.2, x.block < W.heap.size) : ∃ o : LOp, cs = lopCells o ∧ LOpOk o := by
  obtain ⟨xs, n, _, hx, hcl, hlen, hg⟩ := DataW.trod_struct Try.underlying66 h
  rw [cells_lop] at hcl
  match cs, hcl with
  | [c0, c1, c2, c3, c4, c5, c6, c7, c8, c9], _ =>
    match xs, hlen with
    | [y0, y1, y2, y3, y4], _ =>
      obtain ⟨n0, rfl, b0⟩ := rdInt (by simpa [cells_int] using hg 0 _ rfl) rfl
      obtain ⟨n1, rfl, b1⟩ := rdInt (by simpa [cells_int] using hg 1 _ rfl) rfl
      obtain ⟨n2, rfl, b2⟩ := rdInt (by simpa [cells_int] using hg 2 _ rfl) rfl
      obtain ⟨x, rfl, hs⟩ := rdStr (y := y3) (by simpa [cells_int, cells_str] using hg 3 _ rfl)
      have h4 : DataW.trod enc Try.prog W 0 (fun _ => true) true n 23 [c4, c5, c6, c7, c8, c9] = some y4 := by simpa [cells_int, cells_str, cells_pk] using hg 4 _ rfl
      subst hx
      obtain ⟨p, hp, hok⟩ := rdPk n _ _ h4 (fun k hk => hw k (by
        simp only [DataW.weights, Try.underlying66]
        exact DataW.weights_mem_each (j := 4) (t := 23) (d := y4.1) rfl rfl _ hk))
      simp only [pkCells, List.cons.injEq] at hp
      obtain ⟨rfl, rfl, rfl, rfl, rfl, rfl, -⟩ := hp
      refine ⟨⟨n0, n1, n2, x, p⟩, rfl, b0, b1, b2, ?_, hok⟩
      refine hw _ ?_
      simp only [DataW.weights, Try.underlying66]
      refine DataW.weights_mem_each (j := 3) (t := 9) (d := y3.1) rfl rfl _ ?_
      rw [hs, DataW.weights]
      exact List.mem_singleton.2 rfl
end

/-- more than is played -/
def Big17 (os : List LOp) : Prop := 200 < os.length ∨ ∃ o ∈ os, 100 < o.x.size ∨ 100 < o.p.load.size

set_option maxRecDepth 100000 in
set_option maxHeartbeats 1600000 in
theorem great17_any (ao : Option Addr) (b off n cap : Nat) (os : List LOp) (w : World) (hn : n ≤ maxLen) (hl : os.length = n) (hao : 0 < n → ao = some ⟨b, off, none⟩) (hb : 0 < n → b < w.heap.size) (hok : ∀ o ∈ os, LOpOk o)
    (hc : ∀ i o, os[i]? = some o → ∀ j u, (lopCells o)[j]? = some u → w.cell? ⟨b, off + i * 10 + j, none⟩ = some u) (big : Bool) (hbig : Big17 os ↔ big = true) :
    Calls Try.prog 35 #[.slice ao n cap] w fun e w' => e = .returned (.bool big) ∧ Below w.heap.size w w' := by
  unfold maxLen at hn
  have HAO := Lib.hid hao
  have HB := Lib.hid hb
  have HL := Lib.hid hl
  have HC := Lib.hid hc
  have HOK := Lib.hid hok
  have HBG := Lib.hid hbig
  clear hao hb hl hc hok hbig
  by_cases h200 : 200 < n
  · have hb1 : big = true := HBG.out.1 (.inl (by rw [HL.out]; exact h200))
    subst hb1
    go_enter Try.func35, Try.ntmps35
    go_wp2_with fail
    go_ret
    exact ⟨rfl, Below.refl _ _⟩
  · go_enter Try.func35, Try.ntmps35
    go_wp2_with fail
    go_loopw [10] (fun i wr => ∃ j : Nat, j ≤ n ∧ i = .int .i64 j ∧ Hid (∀ i o, i < j → os[i]? = some o → o.x.size ≤ 100 ∧ o.p.load.size ≤ 100) ∧ Hid (Below w.heap.size w wr)) (fun i _ => n - (intOf i).toNat)
    case atStart => exact ⟨0, by omega, rfl, fun i o hi => by omega, Below.refl _ _⟩
    case round =>
      obtain ⟨j, hj, rfl, HI, HW⟩ := hrel
      by_cases hlt : j < n
      · obtain rfl := HAO.out (by omega)
        obtain ⟨⟨ok, oa, ob, ox, op⟩, ho⟩ : ∃ o, os[j]? = some o := ⟨_, List.getElem?_eq_getElem (by rw [HL.out]; exact hlt)⟩
        have hc : ∀ k u, (lopCells ⟨ok, oa, ob, ox, op⟩)[k]? = some u → wr.cell? ⟨b, off + j * 10 + k, none⟩ = some u := fun k u hk => (HW.out.cell (by exact HB.out (by omega))).trans (HC.out j _ ho k u hk)
        have q0 : wr.cell? ⟨b, off + j * 10, none⟩ = some (.int .i64 ok) := hc 0 _ rfl
        have q1 : wr.cell? ⟨b, off + j * 10 + 1, none⟩ = some (.int .i64 oa) := hc 1 _ rfl
        have q2 : wr.cell? ⟨b, off + j * 10 + 2, none⟩ = some (.int .i64 ob) := hc 2 _ rfl
        have q3 : wr.cell? ⟨b, off + j * 10 + 3, none⟩ = some (.string ox) := hc 3 _ rfl
        have q4 : wr.cell? ⟨b, off + j * 10 + 4, none⟩ = some (.int .i64 op.ch) := hc 4 _ rfl
        have q5 : wr.cell? ⟨b, off + j * 10 + 5, none⟩ = some (.int .i64 op.back) := hc 5 _ rfl
        have q6 : wr.cell? ⟨b, off + j * 10 + 6, none⟩ = some (.int .i64 op.inc) := hc 6 _ rfl
        have q7 : wr.cell? ⟨b, off + j * 10 + 7, none⟩ = some (.int .i64 op.seq) := hc 7 _ rfl
        have q8 : wr.cell? ⟨b, off + j * 10 + 8, none⟩ = some (.int .i64 op.ack) := hc 8 _ rfl
        have q9 : wr.cell? ⟨b, off + j * 10 + 9, none⟩ = some (.string op.load) := hc 9 _ rfl
        obtain ⟨_, _, _, hx1, _, _, _, _, _, hx2⟩ := HOK.out _ (List.mem_of_getElem? ho)
        simp only at hx1 hx2
        have HO := Lib.hid ho
        have hz := HW.out.size
        clear hc ho
        by_cases hbg : 100 < ox.size
        · have hb1 : big = true := HBG.out.1 (.inr ⟨_, List.mem_of_getElem? HO.out, .inl hbg⟩)
          subst hb1
          go_wp2_with fail
          go_ret
          exact ⟨rfl, HW.out.alloc hz _⟩
        · by_cases hbg2 : 100 < op.load.size
          · have hb1 : big = true := HBG.out.1 (.inr ⟨_, List.mem_of_getElem? HO.out, .inr hbg2⟩)
            subst hb1
            go_wp2_with fail
            go_ret
            exact ⟨rfl, HW.out.alloc hz _⟩
          · have HI2 : Hid (∀ i o, i < j + 1 → os[i]? = some o → o.x.size ≤ 100 ∧ o.p.load.size ≤ 100) := by
              intro i o hi h
              by_cases hij : i < j
              · exact HI.out i o hij h
              · obtain rfl : i = j := by omega
                rw [HO.out] at h
                rw [← Option.some.inj h]; exact ⟨Nat.le_of_not_lt hbg, Nat.le_of_not_lt hbg2⟩
            go_wp2_with fail
            go_roundw
            case rel => exact ⟨j + 1, by omega, by go_num, HI2, HW.out.alloc hz _⟩
            case measure => simp [intOf]; omega
      · have hb0 : big = false := by
          cases hb : big with
          | false => rfl
          | true =>
            rcases HBG.out.2 hb with h | ⟨o, ho, h⟩
            · rw [HL.out] at h; omega
            · obtain ⟨i, hi⟩ := List.mem_iff_getElem?.1 ho
              have := HI.out i o (by have := (List.getElem?_eq_some_iff.1 hi).1; rw [HL.out] at this; omega) hi
              omega
        subst hb0
        go_wp2_with fail
        go_ret
        exact ⟨rfl, HW.out⟩

theorem comes_o (s : PSt) (k : Int) : (s.comes k).o.ch = s.o.ch ∧ (s.comes k).o.inc = s.o.inc := by
  unfold PSt.comes
  split
  · exact ⟨rfl, rfl⟩
  · split
    · exact ⟨rfl, rfl⟩
    · unfold PSt.got1; split <;> exact ⟨rfl, rfl⟩
theorem pop_o (s : PSt) : s.pop.o = s.o := by unfold PSt.pop; split <;> rfl
theorem op_o (s : PSt) (o : LOp) : (s.op o).o.ch = s.o.ch ∧ (s.op o).o.inc = s.o.inc := by
  unfold PSt.op
  split
  · unfold PSt.put; split
    · exact ⟨rfl, rfl⟩
    · split <;> exact ⟨rfl, rfl⟩
  · split
    · obtain ⟨a1, a2, _⟩ := outTicked_eq s.o
      exact ⟨a1, a2⟩
    · split
      · exact comes_o s _
      · split
        · unfold PSt.lose; split <;> exact ⟨rfl, rfl⟩
        · split
          · unfold PSt.twice; split
            · exact ⟨rfl, rfl⟩
            · split <;> exact ⟨rfl, rfl⟩
          · split
            · unfold PSt.turn; split
              · exact ⟨rfl, rfl⟩
              · split <;> exact ⟨rfl, rfl⟩
            · split
              · rw [pop_o]; exact ⟨rfl, rfl⟩
              · exact ⟨rfl, rfl⟩
end Go.Proofs.Ytecpgkcoehnpbaa
