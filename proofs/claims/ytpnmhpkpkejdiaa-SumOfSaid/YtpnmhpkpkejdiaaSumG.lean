/- The walk of the law SumOf. -/
import Derived.Test.YtpnmhpkpkejdiaaSumF
namespace Go.Proofs.Ytpnmhpkpkejdiaa
open Go.RowKit CrcPlain

theorem append_size (a s : ByteArray) : (a ++ s).size = a.size + s.size := by simp
theorem append_data (a s : ByteArray) : (a ++ s).data.toList = a.data.toList ++ s.data.toList := by simp

set_option maxRecDepth 100000 in
set_option maxHeartbeats 800000 in
theorem sumOf_law (b off n cap : Nat) (ss : List ByteArray) (w : World) (hn : n ≤ maxLen) (hl : ss.length = n) (hs : ∀ s ∈ ss, s.size ≤ 140737488351232) (hb : 0 < n → b < w.heap.size)
    (hc : ∀ j, j < n → w.cell? ⟨b, off + j, none⟩ = some (.string (ss.getD j ByteArray.empty))) :
    Calls Try.prog 3 #[.slice (some ⟨b, off, none⟩) n cap] w fun e w' => e = .returned (.bool true) ∧ Below w.heap.size w w' := by
  unfold maxLen at hn
  have HL := Lib.hid hl
  have HS := Lib.hid hs
  have HC := Lib.hid hc
  have HB := Lib.hid hb
  clear hl hs hc hb
  go_enter Try.func3, Try.ntmps3
  go_wp2_with fail
  refine (sumAwake w).mono ?_
  rintro e w1 ⟨rfl, hb1⟩
  have HB1 := Lib.hid hb1
  clear hb1
  go_wp2_with fail
  go_loop [3, 10] (fun t i => ∃ (j : Nat) (acc : ByteArray), j ≤ n ∧ i = .int .i64 j ∧ t = .string acc ∧ Hid (acc.data.toList = flat (ss.take j)) ∧ acc.size ≤ 3000) (fun _ i => n - (intOf i).toNat)
  case atStart => exact ⟨0, ByteArray.empty, by omega, rfl, rfl, rfl, by decide⟩
  case round =>
    obtain ⟨j, acc, hj, rfl, rfl, HA, ha⟩ := hrel
    by_cases hlt : j < n
    · have hc : w1.cell? ⟨b, off + j, none⟩ = some (.string (ss.getD j ByteArray.empty)) := (HB1.out.cell (by exact HB.out (by omega))).trans (HC.out j hlt)
      have hj' : j < ss.length := by rw [HL.out]; exact hlt
      have hsz : (ss.getD j ByteArray.empty).size ≤ 140737488351232 := by
        rw [List.getD, List.getElem?_eq_getElem hj']
        exact HS.out _ (List.getElem_mem hj')
      have HF : Hid (flat (ss.take (j + 1)) = flat (ss.take j) ++ (ss.getD j ByteArray.empty).data.toList) := flat_snoc ss j hj'
      clear hj'
      generalize ss.getD j ByteArray.empty = s at *
      by_cases hbig : 3000 < acc.size + s.size
      · go_wp2_with fail
        go_ret
        exact ⟨rfl, HB1.out⟩
      · go_wp2_with fail
        go_round
        case rel => exact ⟨j + 1, acc ++ s, by omega, by go_num, rfl, by show _ = _; rw [HF.out, append_data, HA.out], by rw [append_size]; omega⟩
        case measure => simp [intOf]; omega
    · have HJ : Hid (j = n) := by show _ = _; omega
      by_cases h60 : 60 < n
      · go_wp2_with fail
        go_ret
        exact ⟨rfl, HB1.out⟩
      · go_wp2_with fail
        refine (of_any b off n cap ss w1 (by unfold maxLen; omega) HL.out (fun s h => Nat.le_trans (HS.out s h) (by unfold maxLen; omega)) (fun i hi => (HB1.out.cell (by exact HB.out (by omega))).trans (HC.out i hi))).mono ?_
        rintro e w2 ⟨rfl, rfl⟩
        go_wp2_with fail
        refine (refOf_any acc w1 (by unfold maxLen; omega)).mono ?_
        rintro e w2 ⟨rfl, rfl⟩
        have heq : acc.data.toList = flat ss := by rw [HA.out, HJ.out, ← HL.out, List.take_length]
        rw [heq]
        clear heq
        go_wp2_with fail
        go_ret
        exact ⟨rfl, HB1.out⟩

set_option maxHeartbeats 400000 in
theorem of_none (ao : Option Addr) (cap : Nat) (w : World) : Calls Try.prog 17 #[.slice ao 0 cap] w fun e w' => e = .returned (.int .i64 (sumN [] : Nat)) ∧ w = w' := by
  have hs : sumN [] = 0 := rfl
  rw [hs]
  clear hs
  have hnr : bits .xor .u32 IntKind.u32.max 4294967295 = 0 := by kernel_rfl
  have hw0 : wrap64 0 = 0 := by unfold wrap64; omega
  go_enter Try.func17, Try.ntmps17
  go_wp2_with fail
  go_loop [3, 9] (fun r i => i = .int .i64 0 ∧ r = .int .u32 4294967295) (fun _ _ => 0)
  case atStart => exact ⟨rfl, rfl⟩
  case round =>
    obtain ⟨rfl, rfl⟩ := hrel
    go_wp2_with fail
    go_ret
    exact ⟨rfl, rfl⟩

/-- of no texts -/
theorem sumOf_none (ao : Option Addr) (cap : Nat) (w : World) :
    Calls Try.prog 3 #[.slice ao 0 cap] w fun e w' => e = .returned (.bool true) ∧ Below w.heap.size w w' := by
  go_enter Try.func3, Try.ntmps3
  go_wp2_with fail
  refine (sumAwake w).mono ?_
  rintro e w1 ⟨rfl, hb1⟩
  have HB1 := Lib.hid hb1
  clear hb1
  go_wp2_with fail
  go_loop [3, 10] (fun t i => i = .int .i64 0 ∧ t = .string ByteArray.empty) (fun _ _ => 0)
  case atStart => exact ⟨rfl, rfl⟩
  case round =>
    obtain ⟨rfl, rfl⟩ := hrel
    go_wp2_with fail
    refine (of_none ao cap w1).mono ?_
    rintro e w2 ⟨rfl, rfl⟩
    go_wp2_with fail
    refine (refOf_any ByteArray.empty w1 (by decide)).mono ?_
    rintro e w2 ⟨rfl, rfl⟩
    have heq : ByteArray.empty.data.toList = [] := rfl
    rw [heq]
    clear heq
    go_wp2_with fail
    go_ret
    exact ⟨rfl, HB1.out⟩
end Go.Proofs.Ytpnmhpkpkejdiaa
