/- Layer 15, in plain words: a disk of records alone; a record torn; what opening makes of them. -/
import Derived.Test.YtpnmhpkpkejdiaaLogF
namespace Go.Proofs.Ytpnmhpkpkejdiaa

/-- a disk of records alone -/
def stClean (c : Int) (ls : List ByteArray) : DSt := ⟨-1, false, txt (bytesL ls), [], c⟩
/-- .. down, behind a record that does not last -/
def stTorn (c : Int) (ls : List ByteArray) (x : ByteArray) : DSt := ⟨-1, true, txt (bytesL ls), [txt (frameL x.data.toList)], c⟩
theorem clean_all (c : Int) (ls : List ByteArray) : (stClean c ls).all = bytesL ls := by
  show (txt (bytesL ls)).data.toList ++ [] = _
  rw [List.append_nil, txt_data]
theorem clean_bytes (c : Int) (ls : List ByteArray) : (stClean c ls).bytes = txt (bytesL ls) := by
  unfold DSt.bytes
  rw [clean_all]; rfl
theorem clean_only (c : Int) (ls : List ByteArray) : (stClean c ls).only (stClean c ls).bytes = stClean c ls := by rw [clean_bytes]; rfl
theorem clean_ok {N : Nat} (c : Int) (ls : List ByteArray) (h1 : ((bytesL ls).length : Int) ≤ c) (h2 : c ≤ 16777216) : DOk N (stClean c ls) :=
  ⟨by show (0 : Int) ≤ c; omega, h2, by rw [clean_all]; exact h1, Nat.zero_le _, by show (-1 : Int) ≤ -1; omega, by show (-1 : Int) ≤ _; omega⟩
theorem dst0_clean (c : Int) (h : 0 ≤ c ∧ c ≤ 16777216) : dst0 c = stClean c [] := by
  have e : capOf c = c := by unfold capOf; omega
  unfold dst0 stClean
  rw [e]; rfl
theorem open_clean (c : Int) (ls : List ByteArray) (h : ∀ x ∈ ls, x.size ≤ 1048576) : openD (stClean c ls) = (0, stClean c ls) ∧ recsOf (stClean c ls).bytes = ls := by
  have := openD_clean (s := stClean c ls) ls rfl rfl h (clean_all c ls)
  rw [clean_only] at this
  exact this
theorem app_clean (c : Int) (ls : List ByteArray) (x : ByteArray) (h : ((bytesL ls).length : Int) + 8 + (x.size : Nat) ≤ c) : appD (stClean c ls) x = (0, stClean c (ls ++ [x])) := by
  have e := appD_clean (s := stClean c ls) x rfl rfl (by rw [clean_all]; exact h)
  rw [e]
  have e2 : ((stClean c ls).more (txt (frameL x.data.toList))).bytes = txt (bytesL (ls ++ [x])) := by
    unfold DSt.bytes
    rw [more_frame_all, clean_all, bytesL_snoc]; rfl
  rw [e2]
  rfl
theorem app_torn (c : Int) (ls : List ByteArray) (x : ByteArray) (h : ((bytesL ls).length : Int) + 8 + (x.size : Nat) ≤ c) : appD ((stClean c ls).fuse 1) x = (8, stTorn c ls x) := by
  have hfs := txt_frame_size x
  have ha : ((stClean c ls).fuse 1).all = bytesL ls := clean_all c ls
  have hl : ((stClean c ls).fuse 1).left = 1 := by show max (1 : Int) (-1) = 1; decide
  have e1 : ((stClean c ls).fuse 1).append (txt (frameL x.data.toList)) = (0, ⟨0, false, txt (bytesL ls), [txt (frameL x.data.toList)], c⟩) := by
    unfold DSt.append
    rw [if_neg (show ¬ ((stClean c ls).fuse 1).down = true by show ¬ (false = true); decide)]
    rw [if_neg (show ¬ ((stClean c ls).fuse 1).cap - (((stClean c ls).fuse 1).all.length : Int) < ((txt (frameL x.data.toList)).size : Nat) by rw [ha, hfs]; show ¬ (c - _ < _); omega)]
    rw [if_neg (show ¬ ((stClean c ls).fuse 1).left = 0 by rw [hl]; decide), if_neg (frame_ne x)]
    unfold DSt.burnt
    rw [if_neg (show ¬ ((stClean c ls).fuse 1).left = 0 by rw [hl]; decide), if_pos (show 0 < ((stClean c ls).fuse 1).left by rw [hl]; decide), hl]
    rfl
  unfold appD
  rw [e1]
  simp only [if_true]
  rfl
theorem frame_prefix (x : List UInt8) (n : Nat) (hn : n < x.length + 8) (hx : x.length ≤ 1048576) : (openL ((frameL x).take n)).2.2 ≠ 0 := by
  have hl : ((frameL x).take n).length = n := by rw [List.length_take, frameL_length]; omega
  unfold openL
  rw [hl]
  by_cases h8 : n < 8
  · rw [if_pos h8]; exact (show (3 : Nat) ≠ 0 by decide)
  · rw [if_neg h8]
    have h4 : ((frameL x).take n).take 4 = be4 x.length := by rw [List.take_take, Nat.min_eq_left (by omega), frameL_take4]
    rw [h4, numL_be4 _ (by omega), if_neg (by omega), if_pos (by rw [List.length_drop, hl]; omega)]
    exact (show (3 : Nat) ≠ 0 by decide)
/-- records, and what is no frame behind them, opened -/
theorem open_tail {s : DSt} (ls : List ByteArray) (j : List UInt8) (hd : s.down = false) (hl : s.left = -1) (h : ∀ x ∈ ls, x.size ≤ 1048576) (ha : s.all = bytesL ls ++ j) (hj : (openL j).2.2 ≠ 0) : openD s = (0, stClean s.cap ls) ∧ recsOf s.bytes = ls := by
  have hr := recs_frames ls s.bytes j h (by rw [bytes_data, ha]) hj
  refine ⟨?_, hr.1⟩
  have hal : s.all.length = (bytesL ls).length + j.length := by rw [ha, List.length_append]
  have e1 : s.all.take (bytesL ls).length = bytesL ls := by rw [ha]; exact List.take_left
  have ho : openD s = if recLen s.bytes < s.bytes.size then s.trunc (recLen s.bytes : Nat) else s.sync := by
    unfold openD
    exact if_neg (by rw [hd]; decide)
  rw [ho, hr.2.2, bytes_size]
  have hx := bytes_take s (bytesL ls).length (by omega)
  rw [e1] at hx
  have ht := trunc_free (n := (bytesL ls).length) hl hd (by omega)
  have hsy := sync_free hl hd
  have hbd := bytes_data s
  by_cases hlt : (bytesL ls).length < s.all.length
  · rw [if_pos hlt, ht]
    generalize s.bytes.extract 0 (bytesL ls).length = y at *
    have ey : y = txt (bytesL ls) := by rw [← hx]; exact (txt_of y).symm
    rw [ey]
    unfold DSt.only stClean
    rw [hl, hd]
  · have hj0 : j = [] := List.eq_nil_of_length_eq_zero (by omega)
    rw [if_neg hlt, hsy]
    have ey : s.bytes = txt (bytesL ls) := by
      rw [ha, hj0, List.append_nil] at hbd
      rw [← hbd]; exact (txt_of _).symm
    rw [ey]
    unfold DSt.only stClean
    rw [hl, hd]
/-- the torn disk, crashed -/
theorem torn_crash (c : Int) (ls : List ByteArray) (x : ByteArray) (n : Nat) : ((stTorn c ls x).crash [true] (n : Nat)).all = bytesL ls ++ (frameL x.data.toList).take n ∧ ((stTorn c ls x).crash [true] (n : Nat)).down = false ∧ ((stTorn c ls x).crash [true] (n : Nat)).left = -1 ∧ ((stTorn c ls x).crash [true] (n : Nat)).cap = c := by
  refine ⟨?_, rfl, rfl, rfl⟩
  rw [crash_all]
  have et : tailTo (stTorn c ls x).pieces [true] (stTorn c ls x).pieces.length = frameL x.data.toList := by
    rw [tailTo_keep _ _ _ (Nat.le_refl _) (fun i hi => by
      have hi' : i < 1 := hi
      obtain rfl : i = 0 := by omega
      rfl), List.take_length]
    show ((txt (frameL x.data.toList)).data.toList ++ [] : List UInt8) = _
    rw [List.append_nil, txt_data]
  show (txt (bytesL ls)).data.toList ++ _ = _
  rw [txt_data]
  congr 1
  unfold crashTail
  simp only
  rw [et]
  by_cases h : (0 : Int) ≤ (n : Nat) ∧ ((n : Nat) : Int) < ((frameL x.data.toList).length : Int)
  · rw [if_pos h, Int.toNat_natCast]
  · rw [if_neg h, List.take_of_length_le (by omega)]
/-- what the torn disk holds when it is opened -/
theorem torn_open (c : Int) (ls : List ByteArray) (x : ByteArray) (n : Nat) (h : ∀ y ∈ ls, y.size ≤ 1048576) (hx : x.size ≤ 1048576) :
    openD ((stTorn c ls x).crash [true] (n : Nat)) = (0, stClean c (if n < 8 + x.size then ls else ls ++ [x])) ∧ recsOf ((stTorn c ls x).crash [true] (n : Nat)).bytes = if n < 8 + x.size then ls else ls ++ [x] := by
  obtain ⟨a1, a2, a3, a4⟩ := torn_crash c ls x n
  have hfl := frameL_length x.data.toList
  rw [all_size] at hfl
  by_cases hn : n < 8 + x.size
  · rw [if_pos hn]
    have := open_tail ls _ a2 a3 h a1 (frame_prefix x.data.toList n (by rw [all_size]; omega) (by rw [all_size]; exact hx))
    rw [a4] at this
    exact this
  · rw [if_neg hn]
    rw [List.take_of_length_le (by omega), ← bytesL_snoc] at a1
    have := open_tail (ls ++ [x]) [] a2 a3 (fun y hy => by
      rcases List.mem_append.1 hy with hy | hy
      · exact h y hy
      · rw [List.mem_singleton.1 hy]; exact hx) (by rw [a1, List.append_nil]) open_nil
    rw [a4] at this
    exact this
end Go.Proofs.Ytpnmhpkpkejdiaa
