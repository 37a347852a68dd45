/- The walks of layer 2: the reference's Frame and Open. -/
import Derived.Test.YtpnmhpkpkejdiaaSumP
import Derived.Deep.RegionWith
namespace Go.Proofs.Ytpnmhpkpkejdiaa
open Go.RowKit CrcPlain

set_option maxRecDepth 100000 in
set_option maxHeartbeats 800000 in
theorem refFrame_any (s : ByteArray) (hs : s.size < 2147483648) (w : World) :
    Calls Try.prog 22 #[.string s] w fun e w' => e = .returned (.string ⟨(frameL s.data.toList).toArray⟩) ∧ Below w.heap.size w w' := by
  go_enter Try.func22, Try.ntmps22
  go_wp2_with fail
  refine (put_any s.size hs w).mono ?_
  rintro e w1 ⟨rfl, hb1⟩
  have HB1 := Lib.hid hb1
  clear hb1
  have l1 := be4_length s.size
  go_wp2_with fail
  refine (refOf_any _ w1 ?_).mono ?_
  · rw [show (ByteArray.mk (be4 s.size).toArray ++ s).size = 4 + s.size from by rw [ByteArray.size_append]; rfl]; unfold maxLen; omega
  rintro e w2 ⟨rfl, rfl⟩
  have hsl := sum_lt (ByteArray.mk (be4 s.size).toArray ++ s).data.toList
  generalize hg : sumN (ByteArray.mk (be4 s.size).toArray ++ s).data.toList = c at *
  have HG : Hid (sumN (be4 s.size ++ s.data.toList) = c) := by show _ = _; rw [← hg]; simp
  clear hg
  have l2 := be4_length c
  have e : Hid (frameL s.data.toList = be4 s.size ++ be4 c ++ s.data.toList) := by
    show _ = _
    unfold frameL
    rw [show s.data.toList.length = s.size from rfl, HG.out]
  by_cases hb : c < 2147483648
  · have hd : decide ((2147483648 : Int) ≤ (c : Int)) = false := by simp; omega
    have HBB := Lib.hid hb
    have HSL := Lib.hid hsl
    clear hb hsl
    go_wp2_with fail
    refine (put_any s.size hs w1).mono ?_
    rintro e w2 ⟨rfl, hb2⟩
    have HB2 := Lib.hid hb2
    clear hb2
    go_wp2_with fail
    refine (put_any c HBB.out w2).mono ?_
    rintro e w3 ⟨rfl, hb3⟩
    have HB3 := Lib.hid hb3
    clear hb3
    go_wp2_with fail
    go_ret
    refine ⟨?_, HB1.out.trans ((HB2.out.trans (HB3.out.mono HB2.out.size)).mono HB1.out.size)⟩
    rw [e.out]
    refine congrArg (fun x => Ending.returned (.string x)) ?_
    apply ByteArray.ext
    simp
  · have hd : decide ((2147483648 : Int) ≤ (c : Int)) = true := by simp; omega
    have hb' : 2147483648 ≤ c := by omega
    have HBB := Lib.hid hb'
    have HSL := Lib.hid hsl
    have hw : wrap64 ((c : Int) - 4294967296) = (c : Int) - 4294967296 := by unfold wrap64; omega
    clear hb hb' hsl
    go_wp2_with fail
    refine (put_any s.size hs w1).mono ?_
    rintro e w2 ⟨rfl, hb2⟩
    have HB2 := Lib.hid hb2
    clear hb2
    go_wp2_with fail
    refine (put_neg c HBB.out HSL.out w2).mono ?_
    rintro e w3 ⟨rfl, hb3⟩
    have HB3 := Lib.hid hb3
    clear hb3
    go_wp2_with fail
    go_ret
    refine ⟨?_, HB1.out.trans ((HB2.out.trans (HB3.out.mono HB2.out.size)).mono HB1.out.size)⟩
    rw [e.out]
    refine congrArg (fun x => Ending.returned (.string x)) ?_
    apply ByteArray.ext
    simp

theorem signed_small {n : Nat} (h : n < 2147483648) : signed n = n := by unfold signed; rw [if_pos h]
theorem signed_neg {n : Nat} (h : ¬ n < 2147483648) (h2 : n < 4294967296) : signed n < 0 := by unfold signed; rw [if_neg h]; omega

set_option maxRecDepth 100000 in
set_option maxHeartbeats 1600000 in
theorem refOpen_any (s : ByteArray) (hs : s.size ≤ 140737488351232) (w : World) :
    Calls Try.prog 21 #[.string s] w fun e w' => e = .returned (.tuple #[str (openL s.data.toList).1, str (openL s.data.toList).2.1, .int .i64 ((openL s.data.toList).2.2 : Nat)]) ∧ Below w.heap.size w w' := by
  have hsl : s.data.toList.length = s.size := rfl
  by_cases h8 : s.size < 8
  · have ho : openL s.data.toList = ([], s.data.toList, 3) := by unfold openL; rw [if_pos (by omega)]
    rw [ho]
    clear hsl ho
    go_enter Try.func21, Try.ntmps21
    go_wp2_with fail
    go_ret3
    exact ⟨by rw [str_of s]; rfl, Below.refl _ _⟩
  have hd8 : (s.data.toList.drop 8).length = s.size - 8 := by rw [List.length_drop]; rfl
  have hN := numL_take_lt s 4 (by omega)
  have hget := get_any s (by omega) (by unfold maxLen; omega) w
  by_cases hbig : 1048576 < numL (s.data.toList.take 4)
  · have ho : openL s.data.toList = ([], s.data.toList, 6) := by unfold openL; rw [if_neg (by omega), if_pos hbig]
    rw [ho]
    have HGET := Lib.hid hget
    clear hsl ho hd8 hget
    by_cases hneg : numL (s.data.toList.take 4) < 2147483648
    · rw [signed_small hneg] at HGET
      generalize numL (s.data.toList.take 4) = n at *
      have hd : decide ((1048576 : Int) < (n : Int)) = true := by simp; omega
      have hd0 : decide ((n : Int) < 0) = false := by simp
      clear hneg hN hbig
      go_enter Try.func21, Try.ntmps21
      go_wp2_with fail
      refine HGET.out.mono ?_
      rintro e w1 ⟨rfl, rfl⟩
      go_wp2_with fail
      go_ret3
      exact ⟨by rw [str_of s]; rfl, Below.refl _ _⟩
    · have hsn := signed_neg hneg hN
      generalize signed (numL (s.data.toList.take 4)) = n at *
      clear hneg hN hbig
      go_enter Try.func21, Try.ntmps21
      go_wp2_with fail
      refine HGET.out.mono ?_
      rintro e w1 ⟨rfl, rfl⟩
      go_wp2_with fail
      go_ret3
      exact ⟨by rw [str_of s]; rfl, Below.refl _ _⟩
  have hneg : numL (s.data.toList.take 4) < 2147483648 := by omega
  rw [signed_small hneg] at hget
  by_cases hshort : s.size - 8 < numL (s.data.toList.take 4)
  · have ho : openL s.data.toList = ([], s.data.toList, 3) := by unfold openL; rw [if_neg (by omega), if_neg hbig, if_pos (by omega)]
    rw [ho]
    have HGET := Lib.hid hget
    clear hsl ho hd8 hget
    generalize numL (s.data.toList.take 4) = n at *
    clear hN hneg
    go_enter Try.func21, Try.ntmps21
    go_wp2_with fail
    refine HGET.out.mono ?_
    rintro e w1 ⟨rfl, rfl⟩
    go_wp2_with fail
    go_ret3
    exact ⟨by rw [str_of s]; rfl, Below.refl _ _⟩
  have HIFF := Lib.hid (frame_iff s.data.toList (by omega) (by omega))
  have HO : Hid (openL s.data.toList = if sumN (s.data.toList.take 4 ++ (s.data.toList.drop 8).take (numL (s.data.toList.take 4))) ≠ numL ((s.data.toList.drop 4).take 4) then ([], s.data.toList, 5)
      else ((s.data.toList.drop 8).take (numL (s.data.toList.take 4)), (s.data.toList.drop 8).drop (numL (s.data.toList.take 4)), 0)) := by
    show _ = _
    unfold openL
    rw [if_neg (by omega), if_neg hbig, if_neg (by omega)]
  have HGET := Lib.hid hget
  clear hsl hd8 hget hN hneg
  generalize numL (s.data.toList.take 4) = n at *
  go_enter Try.func21, Try.ntmps21
  go_wp2_with fail
  refine HGET.out.mono ?_
  rintro e w1 ⟨rfl, rfl⟩
  go_wp2_with fail
  have hb1 : 8 + n ≤ s.size := by omega
  have hb2 : (8 : Int) + n ≤ s.size := by omega
  have hb3 : IntKind.i64.wrap ((8 : Int) + n) = 8 + n := IntWalk.i64_in _ (by omega)
  have hb4 : ((8 : Int) + n).toNat = 8 + n := by omega
  have hb5 : (0 : Int) ≤ 8 + n := by omega
  have hb6 : (8 : Int) ≤ 8 + n := by omega
  have ex : (s.extract 8 (8 + n)).data.toList = (s.data.toList.drop 8).take n := by rw [data_extract]; congr 1; omega
  have HFR : Hid (∀ W : World, Calls Try.prog 22 #[.string (s.extract 8 (8 + n))] W fun e w' => e = .returned (.string ⟨(frameL ((s.data.toList.drop 8).take n)).toArray⟩) ∧ Below W.heap.size W w') := by
    intro W
    have := refFrame_any (s.extract 8 (8 + n)) (by simp; omega) W
    rw [ex] at this
    exact this
  clear ex
  generalize frameL ((s.data.toList.drop 8).take n) = fr at *
  have e0 : (s.extract 0 (8 + n)).toList = s.data.toList.take (8 + n) := by rw [ByteArray.toList_eq, data_extract]; simp
  by_cases hc : fr = s.data.toList.take (8 + n)
  · have heq : (fr == (s.extract 0 (8 + n)).toList) = true := by rw [e0, hc]; simp
    have HC := Lib.hid hc
    clear hc e0
    go_region_with (go_at_call 22; refine (HFR.out _).mono ?_; rintro e w' ⟨rfl, hb⟩)
    all_goals
      have HB := Lib.hid hb
      clear hb
      go_wp2_with fail
      go_quiet (fail)
      go_wp2_with fail
      go_ret3
      refine ⟨?_, ?_⟩
      · rw [HO.out, if_neg (by simp [HIFF.out.1 HC.out])]
        have e1 : Value.string (s.extract 8 (8 + n)) = str ((s.data.toList.drop 8).take n) := by rw [str_extract]; congr 2; omega
        have e2 : Value.string (s.extract (8 + n) s.size) = str ((s.data.toList.drop 8).drop n) := by rw [str_extract_end _ _ _ (Nat.le_refl _), List.drop_drop]
        rw [← e1, ← e2]
        rfl
      · exact bl_drewN (((Below.refl _ _).drew).trans HB.out) _
  · have heq : (fr == (s.extract 0 (8 + n)).toList) = false := by rw [e0]; simpa using hc
    have HC := Lib.hid hc
    clear hc e0
    go_region_with (go_at_call 22; refine (HFR.out _).mono ?_; rintro e w' ⟨rfl, hb⟩)
    all_goals
      have HB := Lib.hid hb
      clear hb
      go_wp2_with fail
      go_ret3
      refine ⟨?_, ?_⟩
      · rw [HO.out, if_pos (fun h => HC.out (HIFF.out.2 h)), str_of s]
        rfl
      · exact ((Below.refl _ _).drew).trans HB.out

theorem refOpen_raw (s : ByteArray) (hs : s.size ≤ 140737488351232) (w : World) :
    Calls Try.prog 21 #[.string s] w fun e w' => e = .returned (.tuple #[.string ⟨(openL s.data.toList).1.toArray⟩, .string ⟨(openL s.data.toList).2.1.toArray⟩, .int .i64 ((openL s.data.toList).2.2 : Nat)]) ∧ Below w.heap.size w w' := refOpen_any s hs w

end Go.Proofs.Ytpnmhpkpkejdiaa
