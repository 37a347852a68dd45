/- Layer 15: the laws' list of ops as an argument, and great (as layer 14's: DiskG). -/
import Derived.Test.YtpnmhpkpkejdiaaLogI
import Derived.Test.YtpnmhpkpkejdiaaDiskG
namespace Go.Proofs.Ytpnmhpkpkejdiaa
open Go.ChangeShapes Go.WideShapes Go.ChangeAt Go.RowKit Go.Deep

theorem cells_lop : Try.prog.cellsOf 76 = 5 := by kernel_rfl
theorem under_lops : Try.prog.underlying 74 = some (.slice 76) := by kernel_rfl
section
variable {H : Type} {enc : TypeId × Value → H} {W : World}
set_option maxRecDepth 100000 in
theorem rdLOp (fuel : Nat) (cs : List Value) (y : DataW H × List MemPlace) (h : DataW.trod enc Try.prog W 0 (fun _ => true) true fuel 76 cs = some y) (hw : ∀ n ∈ y.1.weights Try.prog 76, n ≤ 140737488351232) (hp : ∀ x ∈ y.2, x.block < W.heap.size) : ∃ o : DOp, cs = dopCells o ∧ DOpOk W o := by
  obtain ⟨xs, n, _, hx, hcl, hlen, hg⟩ := DataW.trod_struct Try.underlying76 h
  rw [cells_lop] at hcl
  match cs, hcl with
  | [c0, c1, c2, c3, c4], _ =>
    match xs, hlen with
    | [y0, y1, y2, y3], _ =>
      obtain ⟨n0, rfl, b0⟩ := rdInt (by simpa [cells_int] using hg 0 _ rfl) rfl
      obtain ⟨n1, rfl, b1⟩ := rdInt (by simpa [cells_int] using hg 1 _ rfl) rfl
      obtain ⟨s, rfl, hs⟩ := rdStr (y := y2) (by simpa [cells_int, cells_strP] using hg 2 _ rfl)
      have h3 : DataW.trod enc Try.prog W 0 (fun _ => true) true n 48 [c3, c4] = some y3 := by simpa [cells_int, cells_strP, cells_plan] using hg 3 _ rfl
      subst hx
      obtain ⟨ko, kcap, keep, cut, he, k1, k2, k3⟩ := rdPlan n _ _ h3 (fun k hk => hw k (by
        simp only [DataW.weights, Try.underlying76]
        exact DataW.weights_mem_each (j := 3) (t := 48) (d := y3.1) rfl rfl _ hk)) (fun x hx => hp x (by simp [hx]))
      simp only [List.cons.injEq] at he
      obtain ⟨rfl, rfl, -⟩ := he
      refine ⟨⟨n0, n1, s, ko, kcap, keep, cut⟩, rfl, ?_, k1, k2, b0, b1, k3⟩
      refine hw _ ?_
      simp only [DataW.weights, Try.underlying76]
      refine DataW.weights_mem_each (j := 2) (t := 9) (d := y2.1) rfl rfl _ ?_
      rw [hs, DataW.weights]
      exact List.mem_singleton.2 rfl
end

/-- more than is played -/
def Big15 (os : List DOp) : Prop := 60 < os.length ∨ ∃ o ∈ os, 300 < o.s.size ∨ 100 < o.keep.length

set_option maxRecDepth 100000 in
set_option maxHeartbeats 1600000 in
theorem great15_any (ao : Option Addr) (b off n cap : Nat) (os : List DOp) (w : World) (hn : n ≤ maxLen) (hl : os.length = n) (hao : 0 < n → ao = some ⟨b, off, none⟩) (hb : 0 < n → b < w.heap.size) (hok : ∀ o ∈ os, o.s.size ≤ 140737488351232 ∧ o.keep.length ≤ maxLen)
    (hc : ∀ i o, os[i]? = some o → ∀ j u, (dopCells o)[j]? = some u → w.cell? ⟨b, off + i * 5 + j, none⟩ = some u) (big : Bool) (hbig : Big15 os ↔ big = true) :
    Calls Try.prog 49 #[.slice ao n cap] w fun e w' => e = .returned (.bool big) ∧ Below w.heap.size w w' := by
  unfold maxLen at hn hok
  have HAO := Lib.hid hao
  have HB := Lib.hid hb
  have HL := Lib.hid hl
  have HC := Lib.hid hc
  have HOK := Lib.hid hok
  have HBG := Lib.hid hbig
  clear hao hb hl hc hok hbig
  by_cases h100 : 60 < n
  · have hb1 : big = true := HBG.out.1 (.inl (by rw [HL.out]; exact h100))
    subst hb1
    go_enter Try.func49, Try.ntmps49
    go_wp2_with fail
    go_ret
    exact ⟨rfl, Below.refl _ _⟩
  · go_enter Try.func49, Try.ntmps49
    go_wp2_with fail
    go_loopw [10] (fun i wr => ∃ j : Nat, j ≤ n ∧ i = .int .i64 j ∧ Hid (∀ i o, i < j → os[i]? = some o → o.s.size ≤ 300 ∧ o.keep.length ≤ 100) ∧ Hid (Below w.heap.size w wr)) (fun i _ => n - (intOf i).toNat)
    case atStart => exact ⟨0, by omega, rfl, fun i o hi => by omega, Below.refl _ _⟩
    case round =>
      obtain ⟨j, hj, rfl, HI, HW⟩ := hrel
      by_cases hlt : j < n
      · obtain rfl := HAO.out (by omega)
        obtain ⟨⟨ok, on, os', oko, okc, okp, oc⟩, ho⟩ : ∃ o, os[j]? = some o := ⟨_, List.getElem?_eq_getElem (by rw [HL.out]; exact hlt)⟩
        have hc : ∀ k u, (dopCells ⟨ok, on, os', oko, okc, okp, oc⟩)[k]? = some u → wr.cell? ⟨b, off + j * 5 + k, none⟩ = some u := fun k u hk => (HW.out.cell (by exact HB.out (by omega))).trans (HC.out j _ ho k u hk)
        have q0 : wr.cell? ⟨b, off + j * 5, none⟩ = some (.int .i64 ok) := hc 0 _ rfl
        have q1 : wr.cell? ⟨b, off + j * 5 + 1, none⟩ = some (.int .i64 on) := hc 1 _ rfl
        have q2 : wr.cell? ⟨b, off + j * 5 + 2, none⟩ = some (.string os') := hc 2 _ rfl
        have q3 : wr.cell? ⟨b, off + j * 5 + 3, none⟩ = some (.slice oko okp.length okc) := hc 3 _ rfl
        have q4 : wr.cell? ⟨b, off + j * 5 + 4, none⟩ = some (.int .i64 oc) := hc 4 _ rfl
        obtain ⟨hx1, hx2⟩ := HOK.out _ (List.mem_of_getElem? ho)
        simp only at hx1 hx2
        obtain ⟨kl, hkl⟩ : ∃ kl, okp.length = kl := ⟨_, rfl⟩
        rw [hkl] at q3 hx2
        have HKL := Lib.hid hkl
        have HO := Lib.hid ho
        have hz := HW.out.size
        clear hc ho hkl
        by_cases hbg : 300 < os'.size
        · have hb1 : big = true := HBG.out.1 (.inr ⟨_, List.mem_of_getElem? HO.out, .inl hbg⟩)
          subst hb1
          go_wp2_with fail
          go_ret
          exact ⟨rfl, HW.out.alloc hz _⟩
        · by_cases hbg2 : 100 < kl
          · have hb1 : big = true := HBG.out.1 (.inr ⟨_, List.mem_of_getElem? HO.out, .inr (by show 100 < okp.length; rw [HKL.out]; exact hbg2)⟩)
            subst hb1
            go_wp2_with fail
            go_ret
            exact ⟨rfl, HW.out.alloc hz _⟩
          · have HI2 : Hid (∀ i o, i < j + 1 → os[i]? = some o → o.s.size ≤ 300 ∧ o.keep.length ≤ 100) := by
              intro i o hi h
              by_cases hij : i < j
              · exact HI.out i o hij h
              · obtain rfl : i = j := by omega
                rw [HO.out] at h
                rw [← Option.some.inj h]; exact ⟨Nat.le_of_not_lt hbg, by show okp.length ≤ 100; rw [HKL.out]; exact Nat.le_of_not_lt hbg2⟩
            go_wp2_with fail
            go_roundw
            case rel => exact ⟨j + 1, by omega, by go_num, HI2, HW.out.alloc hz _⟩
            case measure => simp [intOf]; omega
      · have hb0 : big = false := by
          cases hb : big with
          | false => rfl
          | true =>
            rcases HBG.out.2 hb with h | ⟨o, ho, h⟩
            · rw [HL.out] at h; omega
            · obtain ⟨i, hi⟩ := List.mem_iff_getElem?.1 ho
              have := HI.out i o (by have := (List.getElem?_eq_some_iff.1 hi).1; rw [HL.out] at this; omega) hi
              omega
        subst hb0
        go_wp2_with fail
        go_ret
        exact ⟨rfl, HW.out⟩
end Go.Proofs.Ytpnmhpkpkejdiaa
