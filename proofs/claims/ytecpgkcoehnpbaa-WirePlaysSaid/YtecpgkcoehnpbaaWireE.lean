/- Layer 16: the law's own functions great and same. -/
import Derived.Test.YtecpgkcoehnpbaaWireD
import Derived.Test.YtecpgkcoehnpbaaOpArg
namespace Go.Proofs.Ytecpgkcoehnpbaa
open Go.RowKit

/-- more than is played -/
def Big (os : List OpR) : Prop := 100 < os.length ∨ ∃ o ∈ os, 100 < o.n

set_option maxRecDepth 100000 in
set_option maxHeartbeats 1600000 in
theorem great_any (ao : Option Addr) (b off n cap : Nat) (os : List OpR) (w : World) (hn : n ≤ maxLen) (hl : os.length = n) (hao : 0 < n → ao = some ⟨b, off, none⟩) (hb : 0 < n → b < w.heap.size) (hok : ∀ o ∈ os, o.n ≤ maxLen)
    (hc : ∀ i o, os[i]? = some o → ∀ j u, (opCells o)[j]? = some u → w.cell? ⟨b, off + i * 4 + j, none⟩ = some u) (big : Bool) (hbig : Big os ↔ big = true) :
    Calls Try.prog 28 #[.slice ao n cap] w fun e w' => e = .returned (.bool big) ∧ Below w.heap.size w w' := by
  unfold maxLen at hn
  have HAO := Lib.hid hao
  have HB := Lib.hid hb
  have HL := Lib.hid hl
  have HC := Lib.hid hc
  have HOK := Lib.hid hok
  have HBG := Lib.hid hbig
  clear hao hb hl hc hok hbig
  by_cases h100 : 100 < n
  · have hb1 : big = true := HBG.out.1 (.inl (by rw [HL.out]; exact h100))
    subst hb1
    go_enter Try.func28, Try.ntmps28
    go_wp2_with fail
    go_ret
    exact ⟨rfl, Below.refl _ _⟩
  · go_enter Try.func28, Try.ntmps28
    go_wp2_with fail
    go_loopw [10] (fun i wr => ∃ j : Nat, j ≤ n ∧ i = .int .i64 j ∧ Hid (∀ i o, i < j → os[i]? = some o → o.n ≤ 100) ∧ Hid (Below w.heap.size w wr)) (fun i _ => n - (intOf i).toNat)
    case atStart => exact ⟨0, by omega, rfl, fun i o hi => by omega, Below.refl _ _⟩
    case round =>
      obtain ⟨j, hj, rfl, HI, HW⟩ := hrel
      by_cases hlt : j < n
      · obtain rfl := HAO.out (by omega)
        obtain ⟨⟨ok, oa, ob, oao, on, ocap, oblk, ooff, ol⟩, ho⟩ : ∃ o, os[j]? = some o := ⟨_, List.getElem?_eq_getElem (by rw [HL.out]; exact hlt)⟩
        have hc : ∀ k u, (opCells ⟨ok, oa, ob, oao, on, ocap, oblk, ooff, ol⟩)[k]? = some u → wr.cell? ⟨b, off + j * 4 + k, none⟩ = some u := fun k u hk => (HW.out.cell (by exact HB.out (by omega))).trans (HC.out j _ ho k u hk)
        have q0 : wr.cell? ⟨b, off + j * 4, none⟩ = some (.int .i64 ok) := hc 0 _ rfl
        have q1 : wr.cell? ⟨b, off + j * 4 + 1, none⟩ = some (.int .i64 oa) := hc 1 _ rfl
        have q2 : wr.cell? ⟨b, off + j * 4 + 2, none⟩ = some (.int .i64 ob) := hc 2 _ rfl
        have q3 : wr.cell? ⟨b, off + j * 4 + 3, none⟩ = some (.slice oao on ocap) := hc 3 _ rfl
        have hon : on ≤ maxLen := HOK.out _ (List.mem_of_getElem? ho)
        unfold maxLen at hon
        have HO := Lib.hid ho
        have hz := HW.out.size
        clear hc ho
        by_cases hbg : 100 < on
        · have hb1 : big = true := HBG.out.1 (.inr ⟨_, List.mem_of_getElem? HO.out, hbg⟩)
          subst hb1
          go_wp2_with fail
          go_ret
          exact ⟨rfl, HW.out.alloc hz _⟩
        · have HI2 : Hid (∀ i o, i < j + 1 → os[i]? = some o → o.n ≤ 100) := by
            intro i o hi h
            by_cases hij : i < j
            · exact HI.out i o hij h
            · obtain rfl : i = j := by omega
              rw [HO.out] at h
              rw [← Option.some.inj h]; exact Nat.le_of_not_lt hbg
          go_wp2_with fail
          go_roundw
          case rel => exact ⟨j + 1, by omega, by go_num, HI2, HW.out.alloc hz _⟩
          case measure => simp [intOf]; omega
      · have hb0 : big = false := by
          cases hb : big with
          | false => rfl
          | true =>
            rcases HBG.out.2 hb with h | ⟨o, ho, h⟩
            · rw [HL.out] at h; omega
            · obtain ⟨i, hi⟩ := List.mem_iff_getElem?.1 ho
              have := HI.out i o (by have := (List.getElem?_eq_some_iff.1 hi).1; rw [HL.out] at this; omega) hi
              omega
        subst hb0
        go_wp2_with fail
        go_ret
        exact ⟨rfl, HW.out⟩

set_option maxRecDepth 100000 in
set_option maxHeartbeats 1600000 in
/-- two slices that hold the same packets -/
theorem same_yes {F G : Nat → Prop} (l : List Pk) (v u : Value) (w : World) (hv : Sl w F 23 6 v l.length (pksCells l)) (hu : Sl w G 23 6 u l.length (pksCells l)) (hl : l.length ≤ 1000) :
    Calls Try.prog 33 #[v, u] w fun e w' => e = .returned (.bool true) ∧ Below w.heap.size w w' := by
  obtain ⟨av, cv, rfl, _, _⟩ := hv.shape
  obtain ⟨au, cu, rfl, _, _⟩ := hu.shape
  have HV := Lib.hid hv
  have HU := Lib.hid hu
  clear hv hu
  obtain ⟨n, hn⟩ : ∃ n, l.length = n := ⟨_, rfl⟩
  rw [hn] at hl ⊢
  have HN := Lib.hid hn
  clear hn
  go_enter Try.func33, Try.ntmps33
  go_wp2_with fail
  go_loopw [13] (fun i wr => ∃ j : Nat, j ≤ n ∧ i = .int .i64 j ∧ Hid (Below w.heap.size w wr)) (fun i _ => n - (intOf i).toNat)
  case atStart => exact ⟨0, by omega, rfl, Below.refl _ _⟩
  case round =>
    obtain ⟨j, hj, rfl, HW⟩ := hrel
    by_cases hlt : j < n
    · obtain ⟨p, hp⟩ : ∃ p, l[j]? = some p := ⟨_, List.getElem?_eq_getElem (by rw [HN.out]; exact hlt)⟩
      have hv := sl_below HV.out HW.out (Nat.le_refl _)
      have hu := sl_below HU.out HW.out (Nat.le_refl _)
      obtain ⟨b1, o1, c1, he1, _⟩ := hv.at (by rw [HN.out]; omega)
      obtain ⟨b2, o2, c2, he2, _⟩ := hu.at (by rw [HN.out]; omega)
      simp only [Value.slice.injEq] at he1 he2
      obtain ⟨rfl, -, rfl⟩ := he1
      obtain ⟨rfl, -, rfl⟩ := he2
      have hc1 := pk_cells hv hp
      have hc2 := pk_cells hu hp
      have q0 : wr.cell? ⟨b1, o1 + j * 6, none⟩ = some (.int .i64 p.ch) := hc1 0 _ rfl
      have q1 : wr.cell? ⟨b1, o1 + j * 6 + 1, none⟩ = some (.int .i64 p.back) := hc1 1 _ rfl
      have q2 : wr.cell? ⟨b1, o1 + j * 6 + 2, none⟩ = some (.int .i64 p.inc) := hc1 2 _ rfl
      have q3 : wr.cell? ⟨b1, o1 + j * 6 + 3, none⟩ = some (.int .i64 p.seq) := hc1 3 _ rfl
      have q4 : wr.cell? ⟨b1, o1 + j * 6 + 4, none⟩ = some (.int .i64 p.ack) := hc1 4 _ rfl
      have q5 : wr.cell? ⟨b1, o1 + j * 6 + 5, none⟩ = some (.string p.load) := hc1 5 _ rfl
      have r0 : wr.cell? ⟨b2, o2 + j * 6, none⟩ = some (.int .i64 p.ch) := hc2 0 _ rfl
      have r1 : wr.cell? ⟨b2, o2 + j * 6 + 1, none⟩ = some (.int .i64 p.back) := hc2 1 _ rfl
      have r2 : wr.cell? ⟨b2, o2 + j * 6 + 2, none⟩ = some (.int .i64 p.inc) := hc2 2 _ rfl
      have r3 : wr.cell? ⟨b2, o2 + j * 6 + 3, none⟩ = some (.int .i64 p.seq) := hc2 3 _ rfl
      have r4 : wr.cell? ⟨b2, o2 + j * 6 + 4, none⟩ = some (.int .i64 p.ack) := hc2 4 _ rfl
      have r5 : wr.cell? ⟨b2, o2 + j * 6 + 5, none⟩ = some (.string p.load) := hc2 5 _ rfl
      clear hc1 hc2 hv hu hp
      have hz := HW.out.size
      go_wp2_with fail
      go_quiet (fail)
      go_wp2_with fail
      go_roundw
      case rel => exact ⟨j + 1, by omega, by go_num, bl_drewN HW.out _⟩
      case measure => simp [intOf]; omega
    · go_wp2_with fail
      go_ret
      exact ⟨rfl, HW.out⟩
end Go.Proofs.Ytecpgkcoehnpbaa
