/- Plain: a frame in which one byte of sum or text is turned is told. -/
import Derived.Test.YtpnmhpkpkejdiaaSumH
namespace Go.Proofs.Ytpnmhpkpkejdiaa
open Go.RowKit CrcPlain

theorem numL_inj {a b : List UInt8} (ha : a.length = 4) (hb : b.length = 4) (h : numL a = numL b) : a = b := by
  rw [← be4_numL a ha, ← be4_numL b hb, h]

theorem frameL_split (l : List UInt8) : frameL l = be4 l.length ++ (be4 (sumN (be4 l.length ++ l)) ++ l) := by simp [frameL]

theorem openL_turned (l : List UInt8) (hl : l.length ≤ 1048576) (i : Nat) (hi : i < l.length + 4) (c : UInt8) (hc : (frameL l)[4 + i]? ≠ some c) :
    openL ((frameL l).set (4 + i) c) = ([], (frameL l).set (4 + i) c, 5) := by
  have hs : (frameL l).set (4 + i) c = be4 l.length ++ (be4 (sumN (be4 l.length ++ l)) ++ l).set i c := by
    rw [frameL_split, List.set_append_right _ _ (by rw [be4_length]; omega)]
    congr 2
    rw [be4_length]; omega
  have hget : (be4 (sumN (be4 l.length ++ l)) ++ l)[i]? ≠ some c := by
    intro h
    apply hc
    rw [frameL_split, List.getElem?_append_right (by rw [be4_length]; omega), be4_length]
    rw [show 4 + i - 4 = i from by omega]; exact h
  rw [hs]
  generalize hm : (be4 (sumN (be4 l.length ++ l)) ++ l).set i c = m
  have hml : m.length = l.length + 4 := by rw [← hm, List.length_set, List.length_append, be4_length]; omega
  have h4 : (be4 l.length ++ m).take 4 = be4 l.length := List.take_left' rfl
  have d4 : (be4 l.length ++ m).drop 4 = m := List.drop_left' rfl
  have d8 : (be4 l.length ++ m).drop 8 = m.drop 4 := by rw [show (8 : Nat) = 4 + 4 from rfl, ← List.drop_drop, d4]
  have hlen : (be4 l.length ++ m).length = l.length + 8 := by rw [List.length_append, be4_length, hml]; omega
  have hn : numL (be4 l.length) = l.length := numL_be4 _ (by omega)
  have hd : (m.drop 4).length = l.length := by rw [List.length_drop, hml]; omega
  have key : sumN (be4 l.length ++ (m.drop 4).take l.length) ≠ numL (m.take 4) := by
    rw [List.take_of_length_le (by omega)]
    by_cases h : i < 4
    · have e1 : m.drop 4 = l := by
        rw [← hm, List.set_append_left _ _ (by rw [be4_length]; omega)]
        exact List.drop_left' (by rw [List.length_set]; rfl)
      have e2 : m.take 4 = (be4 (sumN (be4 l.length ++ l))).set i c := by
        rw [← hm, List.set_append_left _ _ (by rw [be4_length]; omega)]
        exact List.take_left' (by rw [List.length_set]; rfl)
      rw [e1, e2]
      intro hk
      have h1 : numL (be4 (sumN (be4 l.length ++ l))) = numL ((be4 (sumN (be4 l.length ++ l))).set i c) := by rw [← hk, numL_be4 _ (sum_lt _)]
      have h2 := numL_inj rfl (by rw [List.length_set]; rfl) h1
      apply hget
      rw [List.getElem?_append_left (by rw [be4_length]; omega), h2, List.getElem?_set_self (by rw [be4_length]; omega)]
    · have e1 : m.drop 4 = l.set (i - 4) c := by
        rw [← hm, List.set_append_right _ _ (by rw [be4_length]; omega)]
        exact List.drop_left' rfl
      have e2 : m.take 4 = be4 (sumN (be4 l.length ++ l)) := by
        rw [← hm, List.set_append_right _ _ (by rw [be4_length]; omega)]
        exact List.take_left' rfl
      rw [e1, e2, numL_be4 _ (sum_lt _)]
      intro hk
      have hi4 : i - 4 < l.length := by omega
      have hget2 : l[i - 4]? ≠ some c := by
        intro h'
        apply hget
        rw [List.getElem?_append_right (by rw [be4_length]; omega), be4_length]; exact h'
      have s1 : l.set (i - 4) c = l.take (i - 4) ++ c :: l.drop (i - 4 + 1) := by rw [List.set_eq_take_append_cons_drop, if_pos hi4]
      have s2 : l = l.take (i - 4) ++ l[i - 4] :: l.drop (i - 4 + 1) := by
        rw [← List.drop_eq_getElem_cons hi4, List.take_append_drop]
      have hk2 : sumN ((be4 l.length ++ l.take (i - 4)) ++ c :: l.drop (i - 4 + 1)) = sumN ((be4 l.length ++ l.take (i - 4)) ++ l[i - 4] :: l.drop (i - 4 + 1)) := by
        rw [List.append_assoc, List.append_assoc, ← s1, ← s2]; exact hk
      have := sum_turn _ _ _ _ hk2
      apply hget2
      rw [List.getElem?_eq_getElem hi4, this]
  unfold openL
  rw [if_neg (by omega), h4, hn, if_neg (by omega), d8, if_neg (by omega), d4, if_pos key]

theorem u8_xor_ne (b c : UInt8) (hc : c ≠ 0) : b ^^^ c ≠ b := by
  intro h
  apply hc
  have h2 : b ^^^ (b ^^^ c) = b ^^^ b := by rw [h]
  simpa [← UInt8.xor_assoc] using h2
end Go.Proofs.Ytpnmhpkpkejdiaa
