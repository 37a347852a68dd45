/- Plain facts on four bytes and a number, and on frames: no program in sight. -/
import Derived.Test.YtpnmhpkpkejdiaaSumF
namespace Go.Proofs.Ytpnmhpkpkejdiaa
open Go.RowKit CrcPlain

theorem be4_numL (l : List UInt8) (h : l.length = 4) : be4 (numL l) = l := by
  match l, h with
  | [a, b, c, d], _ =>
    have ha := a.toNat_lt; have hb := b.toNat_lt; have hc := c.toNat_lt; have hd := d.toNat_lt
    have e : numL [a, b, c, d] = ((a.toNat * 256 + b.toNat) * 256 + c.toNat) * 256 + d.toNat := by simp [numL]
    rw [e]
    unfold be4
    have e1 : (((a.toNat * 256 + b.toNat) * 256 + c.toNat) * 256 + d.toNat) / 16777216 = a.toNat := by omega
    have e2 : (((a.toNat * 256 + b.toNat) * 256 + c.toNat) * 256 + d.toNat) / 65536 % 256 = b.toNat := by omega
    have e3 : (((a.toNat * 256 + b.toNat) * 256 + c.toNat) * 256 + d.toNat) / 256 % 256 = c.toNat := by omega
    have e4 : (((a.toNat * 256 + b.toNat) * 256 + c.toNat) * 256 + d.toNat) % 256 = d.toNat := by omega
    rw [e1, e2, e3, e4]
    simp

theorem numL_be4 (n : Nat) (h : n < 4294967296) : numL (be4 n) = n := by
  simp only [numL, be4, List.foldl_cons, List.foldl_nil, UInt8.toNat_ofNat']
  omega

theorem frameL_length (l : List UInt8) : (frameL l).length = l.length + 8 := by simp [frameL, be4_length]; omega
theorem frameL_take4 (l : List UInt8) : (frameL l).take 4 = be4 l.length := by
  simp only [frameL, List.append_assoc]; exact List.take_left' rfl
theorem frameL_drop4 (l : List UInt8) : (frameL l).drop 4 = be4 (sumN (be4 l.length ++ l)) ++ l := by
  simp only [frameL, List.append_assoc]; exact List.drop_left' rfl
theorem frameL_drop8 (l : List UInt8) : (frameL l).drop 8 = l := by
  rw [show (8 : Nat) = 4 + 4 from rfl, ← List.drop_drop, frameL_drop4]; exact List.drop_left' rfl

/-- a frame is opened again, whatever stands behind it -/
theorem openL_frame (l behind : List UInt8) (h : l.length ≤ 1048576) : openL (frameL l ++ behind) = (l, behind, 0) := by
  have hl : (frameL l ++ behind).length = l.length + 8 + behind.length := by rw [List.length_append, frameL_length]
  have h4 : (frameL l ++ behind).take 4 = be4 l.length := by
    rw [List.take_append_of_le_length (by rw [frameL_length]; omega)]; exact frameL_take4 l
  have h44 : ((frameL l ++ behind).drop 4).take 4 = be4 (sumN (be4 l.length ++ l)) := by
    rw [List.drop_append_of_le_length (by rw [frameL_length]; omega), frameL_drop4, List.append_assoc]; exact List.take_left' rfl
  have h8 : (frameL l ++ behind).drop 8 = l ++ behind := by
    rw [List.drop_append_of_le_length (by rw [frameL_length]; omega), frameL_drop8]
  have hn : numL ((frameL l ++ behind).take 4) = l.length := by rw [h4]; exact numL_be4 _ (by omega)
  unfold openL
  rw [if_neg (by omega), hn, if_neg (by omega), h8, if_neg (by rw [List.length_append]; omega), h4, h44, List.take_left, numL_be4 _ (sum_lt _), if_neg (by simp), List.drop_left]

/-- what the reference compares -/
theorem frame_iff (l : List UInt8) (h8 : 8 ≤ l.length) (hn : numL (l.take 4) ≤ (l.drop 8).length) :
    frameL ((l.drop 8).take (numL (l.take 4))) = l.take (8 + numL (l.take 4)) ↔ sumN (l.take 4 ++ (l.drop 8).take (numL (l.take 4))) = numL ((l.drop 4).take 4) := by
  have e1 : ((l.drop 8).take (numL (l.take 4))).length = numL (l.take 4) := by rw [List.length_take]; omega
  have e2 : be4 (numL (l.take 4)) = l.take 4 := be4_numL _ (by rw [List.length_take]; omega)
  have e3 : l.take (8 + numL (l.take 4)) = l.take 4 ++ ((l.drop 4).take 4 ++ (l.drop 8).take (numL (l.take 4))) := by
    have d8 : l.drop 8 = (l.drop 4).drop 4 := by rw [List.drop_drop]
    rw [d8, ← List.take_add, ← List.take_add]; congr 1; omega
  have e4 : ((l.drop 4).take 4).length = 4 := by rw [List.length_take, List.length_drop]; omega
  unfold frameL
  rw [e1, e2, e3, List.append_assoc]
  constructor
  · intro h
    have h1 := (List.append_inj h rfl).2
    have h2 := (List.append_inj h1 (by rw [be4_length, e4])).1
    rw [← h2, numL_be4 _ (sum_lt _)]
  · intro h
    rw [h, be4_numL _ e4]

theorem open_framed (s behind : ByteArray) (h1 : s.size ≤ 1048576) (h2 : behind.size ≤ 1048576) (w : World) :
    Calls Try.prog 20 #[.string (⟨(frameL s.data.toList).toArray⟩ ++ behind)] w fun e w' => e = .returned (.tuple #[.string s, .string behind, .int .i64 0]) ∧ Below w.heap.size w w' := by
  have hd : (ByteArray.mk (frameL s.data.toList).toArray ++ behind).data.toList = frameL s.data.toList ++ behind.data.toList := by simp
  have hsz : (ByteArray.mk (frameL s.data.toList).toArray ++ behind).size ≤ 140737488351232 := by
    rw [ByteArray.size_append]
    have : (ByteArray.mk (frameL s.data.toList).toArray).size = s.size + 8 := by
      show (frameL s.data.toList).length = _
      rw [frameL_length]; rfl
    omega
  have h := open_any _ hsz w
  rw [hd, openL_frame _ _ h1] at h
  rw [str_of s, str_of behind]
  exact h

theorem open_raw (s : ByteArray) (hs : s.size ≤ 140737488351232) (w : World) :
    Calls Try.prog 20 #[.string s] w fun e w' => e = .returned (.tuple #[.string ⟨(openL s.data.toList).1.toArray⟩, .string ⟨(openL s.data.toList).2.1.toArray⟩, .int .i64 ((openL s.data.toList).2.2 : Nat)]) ∧ Below w.heap.size w w' := open_any s hs w
end Go.Proofs.Ytpnmhpkpkejdiaa
