/- The walks of layer 2: frames. -/
import Derived.Test.YtpnmhpkpkejdiaaSumE
import Derived.Deep.RegionWith
namespace Go.Proofs.Ytpnmhpkpkejdiaa
open Go.RowKit CrcPlain

/-- a text's frame -/
def frameL (l : List UInt8) : List UInt8 := be4 l.length ++ be4 (sumN (be4 l.length ++ l)) ++ l
theorem be4_length (n : Nat) : (be4 n).length = 4 := rfl

theorem be4_size (n : Nat) : (ByteArray.mk (be4 n).toArray).size ≤ maxLen := by show 4 ≤ maxLen; unfold maxLen; omega
theorem flat2 (n : Nat) (s : ByteArray) : flat [⟨(be4 n).toArray⟩, s] = be4 n ++ s.data.toList := by simp [flat]

set_option maxRecDepth 100000 in
set_option maxHeartbeats 400000 in
theorem frame_any (s : ByteArray) (hs : s.size < 2147483648) (w : World) :
    Calls Try.prog 19 #[.string s] w fun e w' => e = .returned (.string ⟨(frameL s.data.toList).toArray⟩) ∧ Below w.heap.size w w' := by
  go_enter Try.func19, Try.ntmps19
  go_wp2_with fail
  refine (four_any s.size (by omega) w).mono ?_
  rintro e w1 ⟨rfl, hb1⟩
  go_wp2_with fail
  refine (of2 _ s w1 (be4_size _) (by unfold maxLen; omega)).mono ?_
  rintro e w2 ⟨rfl, rfl⟩
  have hsl := sum_lt (flat [⟨(be4 s.size).toArray⟩, s])
  generalize hg : sumN (flat [⟨(be4 s.size).toArray⟩, s]) = c at *
  have HG := Lib.hid hg
  clear hg
  go_wp2_with fail
  refine (four_any c hsl _).mono ?_
  rintro e w2 ⟨rfl, hb2⟩
  have l1 := be4_length s.size
  have l2 := be4_length c
  go_wp2_with fail
  go_ret
  refine ⟨?_, (((hb1.alloc (by simpa using hb1.size) _).trans (hb2.mono (by have := hb1.size; simp; omega))))⟩
  have e : frameL s.data.toList = be4 s.size ++ be4 c ++ s.data.toList := by
    unfold frameL
    rw [show s.data.toList.length = s.size from rfl, ← flat2, HG.out]
  rw [e]
  refine congrArg (fun x => Ending.returned (.string x)) ?_
  apply ByteArray.ext
  simp

/-- a string of bytes -/
def str (l : List UInt8) : Value := .string ⟨l.toArray⟩
theorem str_of (s : ByteArray) : Value.string s = str s.data.toList := by unfold str; simp

theorem str_extract (s : ByteArray) (a b : Nat) : Value.string (s.extract a b) = str ((s.data.toList.drop a).take (b - a)) := by
  rw [str_of]; congr 1; simp [List.extract_eq_take_drop]
theorem below_drawn (B : Nat) (w : World) (n : Nat) : Below B w (w.drewN n) := ⟨rfl, rfl, rfl, Nat.le_refl _, fun _ _ => rfl⟩
theorem str_inj {a b : List UInt8} (h : str a = str b) : a = b := by
  unfold str at h
  injection h with h
  have h2 := congrArg (fun x : ByteArray => x.data.toList) h
  simpa using h2
theorem data_extract (s : ByteArray) (a b : Nat) : (s.extract a b).data.toList = (s.data.toList.drop a).take (b - a) := by
  have h := str_extract s a b
  rw [str_of] at h
  exact str_inj h
theorem data_extract_end (s : ByteArray) (a b : Nat) (h : s.size ≤ b) : (s.extract a b).data.toList = s.data.toList.drop a := by
  rw [data_extract, List.take_of_length_le (by simp; omega)]
theorem str_extract_end (s : ByteArray) (a b : Nat) (h : s.size ≤ b) : Value.string (s.extract a b) = str (s.data.toList.drop a) := by
  rw [str_of, data_extract_end s a b h]
theorem bl_drewN {B : Nat} {a w : World} (h : Below B a w) (n : Nat) : Below B a (w.drewN n) := h.trans (below_drawn B w n)

/-- what stands at the head of bytes: the text of a frame, what stands behind it, the error's number -/
def openL (l : List UInt8) : List UInt8 × List UInt8 × Nat :=
  if l.length < 8 then ([], l, 3)
  else if 1048576 < numL (l.take 4) then ([], l, 6)
  else if (l.drop 8).length < numL (l.take 4) then ([], l, 3)
  else if sumN (l.take 4 ++ (l.drop 8).take (numL (l.take 4))) ≠ numL ((l.drop 4).take 4) then ([], l, 5)
  else ((l.drop 8).take (numL (l.take 4)), (l.drop 8).drop (numL (l.take 4)), 0)

/-- a callee that changes nothing, in a region that draws its order -/
theorem quietL {P : Program} {f : FuncId} {args : Array Value} {w : World} {n : Nat} {v : Value}
    (h : Calls P f args (w.drewN n) fun e w' => e = .returned v ∧ w.drewN n = w') : Calls P f args (w.drewN n) fun e w'' => e = .returned v ∧ ∃ m, w'' = w.drewN m :=
  h.mono fun _ _ ⟨he, hm⟩ => ⟨he, n, hm.symm⟩

/-- Of two texts that lie in a row of two -/
theorem of2at (b : Nat) (s t : ByteArray) (w : World) (h : s.size ≤ maxLen) (h' : t.size ≤ maxLen) (h0 : w.cell? ⟨b, 0, none⟩ = some (.string s)) (h1 : w.cell? ⟨b, 1, none⟩ = some (.string t)) :
    Calls Try.prog 17 #[.slice (some ⟨b, 0, none⟩) 2 2] w fun e w' => e = .returned (.int .i64 (sumN (flat [s, t]) : Nat)) ∧ w = w' := by
  refine of_any b 0 2 2 [s, t] w (by unfold maxLen; omega) rfl (by simpa using ⟨h, h'⟩) ?_
  intro j hj
  obtain rfl | rfl : j = 0 ∨ j = 1 := by omega
  · simpa [List.getD] using h0
  · simpa [List.getD] using h1

theorem of2c (s t : ByteArray) (c : Nat) (w : World) (h : s.size ≤ maxLen) (h' : t.size ≤ maxLen) (hc : sumN (flat [s, t]) = c) :
    Calls Try.prog 17 #[.slice (some ⟨w.heap.size, 0, none⟩) 2 2] (w.alloc (.cells #[.string s, .string t] 9)) fun e w' => e = .returned (.int .i64 (c : Nat)) ∧ w.alloc (.cells #[.string s, .string t] 9) = w' := by
  rw [← hc]; exact of2 s t w h h'

set_option maxRecDepth 100000 in
set_option maxHeartbeats 1600000 in
theorem open_any (s : ByteArray) (hs : s.size ≤ 140737488351232) (w : World) :
    Calls Try.prog 20 #[.string s] w fun e w' => e = .returned (.tuple #[str (openL s.data.toList).1, str (openL s.data.toList).2.1, .int .i64 ((openL s.data.toList).2.2 : Nat)]) ∧ Below w.heap.size w w' := by
  have hsl : s.data.toList.length = s.size := rfl
  by_cases h8 : s.size < 8
  · have ho : openL s.data.toList = ([], s.data.toList, 3) := by unfold openL; rw [if_pos (by omega)]
    rw [ho]
    clear hsl ho
    go_enter Try.func20, Try.ntmps20
    go_wp2_with fail
    go_ret3
    exact ⟨by rw [str_of s]; rfl, Below.refl _ _⟩
  have hd8 : (s.data.toList.drop 8).length = s.size - 8 := by rw [List.length_drop]; rfl
  by_cases hbig : 1048576 < numL (s.data.toList.take 4)
  · have ho : openL s.data.toList = ([], s.data.toList, 6) := by unfold openL; rw [if_neg (by omega), if_pos hbig]
    rw [ho]
    clear hsl ho hd8
    go_enter Try.func20, Try.ntmps20
    go_wp2_with fail
    go_quiet ((go_at_call 55; exact quietL (number_any _ (by first | (simp; omega) | omega) (by unfold maxLen; first | (simp; omega) | omega) _)))
    go_wp2_with fail
    go_ret3
    exact ⟨by rw [str_of s]; rfl, below_drawn _ _ _⟩
  by_cases hshort : s.size - 8 < numL (s.data.toList.take 4)
  · have ho : openL s.data.toList = ([], s.data.toList, 3) := by unfold openL; rw [if_neg (by omega), if_neg hbig, if_pos (by omega)]
    rw [ho]
    clear hsl ho hd8
    go_enter Try.func20, Try.ntmps20
    go_wp2_with fail
    go_quiet ((go_at_call 55; exact quietL (number_any _ (by first | (simp; omega) | omega) (by unfold maxLen; first | (simp; omega) | omega) _)))
    go_wp2_with fail
    go_ret3
    exact ⟨by rw [str_of s]; rfl, below_drawn _ _ _⟩
  have ho : openL s.data.toList = if sumN (flat [s.extract 0 4, (s.extract 8 s.size).extract 0 (numL (s.data.toList.take 4))]) ≠ numL ((s.extract 4 s.size).data.toList.take 4) then ([], s.data.toList, 5)
      else ((s.data.toList.drop 8).take (numL (s.data.toList.take 4)), (s.data.toList.drop 8).drop (numL (s.data.toList.take 4)), 0) := by
    have e1 : flat [s.extract 0 4, (s.extract 8 s.size).extract 0 (numL (s.data.toList.take 4))] = s.data.toList.take 4 ++ (s.data.toList.drop 8).take (numL (s.data.toList.take 4)) := by
      simp only [flat, List.map_cons, List.map_nil, List.flatten_cons, List.flatten_nil, List.append_nil]
      rw [data_extract, data_extract, data_extract_end _ _ _ (Nat.le_refl _)]
      simp
    rw [e1, data_extract_end _ _ _ (Nat.le_refl _)]
    unfold openL
    rw [if_neg (by omega), if_neg hbig, if_neg (by omega)]
  have HO := Lib.hid ho
  clear ho
  clear hsl hd8
  go_enter Try.func20, Try.ntmps20
  go_wp2_with fail
  go_quiet ((go_at_call 55; exact quietL (number_any _ (by first | (simp; omega) | omega) (by unfold maxLen; first | (simp; omega) | omega) _)))
  generalize numL (s.data.toList.take 4) = n at *
  generalize hgw : numL ((s.extract 4 s.size).data.toList.take 4) = want at *
  have HGW := Lib.hid hgw
  clear hgw
  go_wp2_with fail
  have hsz1 : (s.extract 0 4).size ≤ maxLen := by unfold maxLen; simp; omega
  have hsz2 : ((s.extract 8 s.size).extract 0 n).size ≤ maxLen := by unfold maxLen; simp; omega
  have HZ1 := Lib.hid hsz1
  have HZ2 := Lib.hid hsz2
  clear hsz1 hsz2
  generalize hgc : sumN (flat [s.extract 0 4, (s.extract 8 s.size).extract 0 n]) = c at *
  have HGC := Lib.hid hgc
  clear hgc
  go_region_with (go_at_call 17; refine (of2c _ _ _ (w.drewN _) HZ1.out HZ2.out HGC.out).mono ?_; rintro e w' ⟨rfl, rfl⟩)
  all_goals
    by_cases hc : c = want
    · have hne : ((c : Int) != (want : Int)) = false := by rw [bne_eq_false_iff_eq]; omega
      have HC := Lib.hid hc
      clear hc
      go_wp2_with fail
      go_quiet (fail)
      go_wp2_with fail
      go_ret3
      refine ⟨?_, ?_⟩
      · rw [HO.out, if_neg (by simp [HC.out])]
        have e1 : Value.string ((s.extract 8 s.size).extract 0 n) = str ((s.data.toList.drop 8).take n) := by
          rw [str_extract, data_extract_end _ _ _ (Nat.le_refl _)]; simp
        have e2 : ∀ m, (s.extract 8 s.size).size ≤ m → Value.string ((s.extract 8 s.size).extract n m) = str ((s.data.toList.drop 8).drop n) := fun m hm => by
          rw [str_extract_end _ _ _ hm, data_extract_end _ _ _ (Nat.le_refl _)]
        rw [← e1, ← e2 (s.size - 8) (by simp)]
        rfl
      · repeat (first | exact Below.refl _ _ | refine bl_drewN ?_ _ | refine Below.drew ?_ | refine Below.alloc ?_ (by first | exact Nat.le_refl _ | simp) _)
    · have hne : ((c : Int) != (want : Int)) = true := by rw [bne_iff_ne]; omega
      have HC := Lib.hid hc
      clear hc
      go_wp2_with fail
      go_ret3
      refine ⟨?_, ?_⟩
      · rw [HO.out, if_pos HC.out, str_of s]
        rfl
      · repeat (first | exact Below.refl _ _ | refine bl_drewN ?_ _ | refine Below.drew ?_ | refine Below.alloc ?_ (by first | exact Nat.le_refl _ | simp) _)
end Go.Proofs.Ytpnmhpkpkejdiaa
