/- Layer 14: the walk of Crash. -/
import Derived.Test.YtpnmhpkpkejdiaaDiskD
namespace Go.Proofs.Ytpnmhpkpkejdiaa
open Go.RowKit

/-- a list of bools lies in memory -/
def BoolsAt (w : World) (ao : Option Addr) (l : List Bool) : Prop := ∀ i b, l[i]? = some b → ∃ blk off, ao = some ⟨blk, off, none⟩ ∧ w.cell? ⟨blk, off + i, none⟩ = some (.bool b)
theorem BoolsAt.below {w w' : World} {ao : Option Addr} {l : List Bool} (h : BoolsAt w ao l) (hb : Below w.heap.size w w') : BoolsAt w' ao l := fun i b hi => by
  obtain ⟨blk, off, e, hc⟩ := h i b hi
  exact ⟨blk, off, e, (hb.cell (by exact block_lt_of_cell hc)).trans hc⟩

/-- what becomes of a piece -/
def spoilt (keep : List Bool) (i : Nat) (x : ByteArray) : List UInt8 := if keep.getD i false then x.data.toList else List.replicate x.size 0
def tailTo (l : List ByteArray) (keep : List Bool) (k : Nat) : List UInt8 := ((List.range k).map (fun i => spoilt keep i (l.getD i ByteArray.empty))).flatten
theorem tailTo_succ (l : List ByteArray) (keep : List Bool) (k : Nat) {x : ByteArray} (hx : l[k]? = some x) : tailTo l keep (k + 1) = tailTo l keep k ++ spoilt keep k x := by
  unfold tailTo
  rw [List.range_succ, List.map_append, List.flatten_append]
  simp [List.getD, hx]
theorem spoilt_length (keep : List Bool) (i : Nat) (x : ByteArray) : (spoilt keep i x).length = x.size := by
  unfold spoilt; split
  · exact Array.length_toList
  · exact List.length_replicate
theorem tailTo_length (l : List ByteArray) (keep : List Bool) (k : Nat) (hk : k ≤ l.length) : (tailTo l keep k).length = ((l.take k).map (·.size)).sum := by
  induction k with
  | zero => rfl
  | succ k ih =>
    obtain ⟨x, hx⟩ : ∃ x, l[k]? = some x := ⟨_, List.getElem?_eq_getElem hk⟩
    rw [tailTo_succ l keep k hx, List.length_append, ih (by omega), spoilt_length, List.take_add_one, hx]
    simp
theorem tail_length (s : DSt) : s.tail.length = (s.pieces.map (·.size)).sum := by
  unfold DSt.tail
  rw [List.length_flatten, List.map_map]
  congr 1
theorem sum_take_le (l : List ByteArray) (k : Nat) : ((l.take k).map (·.size)).sum ≤ (l.map (·.size)).sum := by
  conv => rhs; rw [← List.take_append_drop k l]
  rw [List.map_append, List.sum_append]
  omega

def crashTail (s : DSt) (keep : List Bool) (cut : Int) : List UInt8 :=
  let t := tailTo s.pieces keep s.pieces.length
  if 0 ≤ cut ∧ cut < (t.length : Int) then t.take cut.toNat else t
def DSt.crash (s : DSt) (keep : List Bool) (cut : Int) : DSt := ⟨-1, false, ⟨(s.lasts.data.toList ++ crashTail s keep cut).toArray⟩, [], s.cap⟩
theorem repeat_nought (n : Nat) : Lib.repeatL [0] n = List.replicate n (0 : UInt8) := by
  induction n with
  | zero => rfl
  | succ n ih => show [0] ++ Lib.repeatL [0] n = _; rw [ih]; rfl
theorem add_bytes (a b : List UInt8) (h : a.length + b.length ≤ 9223372036854775807) (w0 : World) : Sem.run Try.prog (Op.stringOp .add ⟨a.toArray⟩ ⟨b.toArray⟩) w0 = .ok (.string ⟨(a ++ b).toArray⟩) w0 := by
  have e1 : (⟨a.toArray⟩ : ByteArray).size = a.length := List.size_toArray
  have e2 : (⟨b.toArray⟩ : ByteArray).size = b.length := List.size_toArray
  have := run_string_add_sum (P := Try.prog) w0 ⟨a.toArray⟩ ⟨b.toArray⟩ (by omega)
  rw [ByteArray.mk_append_mk] at this
  exact this

theorem crash_store {w : World} {F : Nat → Prop} {g : Nat} {s : DSt} (h : DiskAt w F g s) (y : ByteArray) :
    DiskAt ((((w.setCell ⟨g, 2, none⟩ (.string y)).setCell ⟨g, 3, none⟩ (.slice none 0 0)).setCell ⟨g, 0, none⟩ (.int .i64 (-1))).setCell ⟨g, 1, none⟩ (.bool false)) F g ⟨-1, false, y, [], s.cap⟩ ∧
      Chg w ((((w.setCell ⟨g, 2, none⟩ (.string y)).setCell ⟨g, 3, none⟩ (.slice none 0 0)).setCell ⟨g, 0, none⟩ (.int .i64 (-1))).setCell ⟨g, 1, none⟩ (.bool false)) F := by
  obtain ⟨hF, v, hg, _⟩ := h
  exact ⟨⟨hF, _, heap_setCell_same (i := 1) (heap_setCell_same (i := 0) (heap_setCell_same (i := 3) (heap_setCell_same (i := 2) hg _) _) _) _, Sl.nil _ _ _ _⟩, ((((Chg.refl w F).setCell (fun _ => hF) _).setCell (fun _ => hF) _).setCell (fun _ => hF) _).setCell (fun _ => hF) _⟩
theorem extract_take (t : List UInt8) (m : Nat) (hm : m ≤ t.length) : (⟨t.toArray⟩ : ByteArray).extract 0 m = ⟨(t.take m).toArray⟩ := by
  apply ByteArray.ext
  rw [ByteArray.data_extract]
  simp
theorem bytes_toList (x : ByteArray) : (⟨x.data.toList.toArray⟩ : ByteArray) = x := by apply ByteArray.ext; simp

set_option maxRecDepth 100000 in
set_option maxHeartbeats 3200000 in
theorem crash_any (g N : Nat) (s : DSt) (F : Nat → Prop) (w : World) (keep : List Bool) (ko : Option Addr) (kcap : Nat) (cut : Int) (h : DiskAt w F g s) (ok : DOk N s) (hN : N ≤ 100000) (hk : BoolsAt w ko keep) (hkn : keep.length ≤ 100000) :
    Calls Try.prog 33 #[.pointer (some ⟨g, 0, none⟩), .agg #[.slice ko keep.length kcap, .int .i64 cut]] w fun e w' => e = .returned (.tuple #[]) ∧ DiskAt w' (fun k => (F k ∧ k < w.heap.size) ∨ w.heap.size ≤ k) g (s.crash keep cut) ∧ Chg w w' F := by
  have o0 := ok.c0; have o1 := ok.c1; have o2 := ok.all; have o3 := ok.pieces
  have htl : s.tail.length ≤ 16777216 := by
    have : s.all.length = s.lasts.data.toList.length + s.tail.length := List.length_append
    omega
  have hls : s.lasts.size ≤ 16777216 := by
    have : s.all.length = s.lasts.data.toList.length + s.tail.length := List.length_append
    have e : s.lasts.data.toList.length = s.lasts.size := Array.length_toList
    omega
  obtain ⟨ao, cap, h4, h5, h2, h3⟩ := h.cells
  obtain ⟨wb, hwb⟩ : ∃ wb, w.alloc (.cells #[.slice ko keep.length kcap, .int .i64 cut] 48) = wb := ⟨_, rfl⟩
  have hbx : wb.heap[w.heap.size]? = some (.cells #[.slice ko keep.length kcap, .int .i64 cut] 48) := by rw [← hwb]; exact heap_alloc_new w _
  have hb0 : Below w.heap.size w wb := by rw [← hwb]; exact (Below.refl _ _).alloc (Nat.le_refl _) _
  have g3 : wb.cell? ⟨g, 3, none⟩ = some (.slice ao s.pieces.length cap) := cell_at (below_heap hb0 h2 (heap_lt h2)) rfl
  have hglt := heap_lt h2
  have HBX := Lib.hid hbx
  have HB0 := Lib.hid hb0
  have HH := Lib.hid h
  have H2 := Lib.hid h2
  have H3 := Lib.hid h3
  have HK := Lib.hid hk
  have HTL := Lib.hid htl
  have HP : Hid (∀ k, k ≤ s.pieces.length → (tailTo s.pieces keep k).length ≤ 16777216) := fun k hk => by
    rw [tailTo_length _ _ _ hk]
    have := sum_take_le s.pieces k
    have e := tail_length s
    omega
  have hXb : w.heap.size < wb.heap.size := heap_lt hbx
  clear h h2 h3 hk htl ok hbx hb0 o2
  go_enter Try.func33, Try.ntmps33
  go_wp2_with fail
  try rw [hwb]
  clear hwb g3
  go_loopw [4, 14] (fun t i wr => ∃ k : Nat, k ≤ s.pieces.length ∧ i = .int .i64 k ∧ t = .string ⟨(tailTo s.pieces keep k).toArray⟩ ∧ Hid (Below wb.heap.size wb wr)) (fun _ i _ => s.pieces.length - (intOf i).toNat)
  case atStart => exact ⟨0, by omega, rfl, rfl, Below.refl _ _⟩
  case round =>
    obtain ⟨k, hk, rfl, rfl, HB⟩ := hrel
    have HBW : Hid (Below w.heap.size w wr) := HB0.out.trans (HB.out.mono HB0.out.size)
    have hx0 := below_heap HB.out HBX.out hXb
    have b0 : wr.cell? ⟨w.heap.size, 0, none⟩ = some (.slice ko keep.length kcap) := cell_at hx0 rfl
    have b1 : wr.cell? ⟨w.heap.size, 1, none⟩ = some (.int .i64 cut) := cell_at hx0 rfl
    by_cases hlt : k < s.pieces.length
    · obtain ⟨x, hx⟩ : ∃ x, s.pieces[k]? = some x := ⟨_, List.getElem?_eq_getElem hlt⟩
      obtain ⟨pb, po, rfl, hpc⟩ := str_at (sl_below H3.out HBW.out (Nat.le_refl _)) hx
      have hT1 := tailTo_succ s.pieces keep k hx
      have hl1 := HP.out (k + 1) hlt
      rw [hT1, List.length_append, spoilt_length] at hl1
      have hxs : x.size ≤ 16777216 := by omega
      by_cases hkp : keep.getD k false = true
      · have hkl : k < keep.length := by
          apply Classical.byContradiction
          intro hn
          rw [List.getD_eq_getElem?_getD, List.getElem?_eq_none (by omega)] at hkp
          cases hkp
        have hkk : keep[k]? = some true := by
          rw [List.getD_eq_getElem?_getD, List.getElem?_eq_getElem hkl] at hkp
          rw [List.getElem?_eq_getElem hkl]; exact congrArg some hkp
        obtain ⟨kb, koff, rfl, hkc⟩ := HK.out k true hkk
        have kc : wr.cell? ⟨kb, koff + k, none⟩ = some (.bool true) := (HBW.out.cell (by exact block_lt_of_cell hkc)).trans hkc
        have hsp : spoilt keep k x = x.data.toList := if_pos hkp
        rw [hsp] at hT1
        have hadd := add_bytes (tailTo s.pieces keep k) x.data.toList (by have e : x.data.toList.length = x.size := Array.length_toList; omega)
        rw [← hT1] at hadd
        have exx : (⟨x.data.toList.toArray⟩ : ByteArray) = x := by apply ByteArray.ext; simp
        rw [exx] at hadd
        generalize (⟨(tailTo s.pieces keep k).toArray⟩ : ByteArray) = t0 at *
        have HT1 : Hid ((⟨(tailTo s.pieces keep (k + 1)).toArray⟩ : ByteArray) = ⟨(tailTo s.pieces keep (k + 1)).toArray⟩) := rfl
        clear hkk hkp hkc hsp hT1 exx hx hx0 hl1 HT1
        go_wp2_with fail
        go_roundw
        case rel => exact ⟨k + 1, by omega, by go_num, rfl, HB.out⟩
        case measure => simp [intOf]; omega
      · have HREP := fun w0 : World => Try.strings_Repeat ⟨#[0]⟩ x.size w0 (by omega) (by show 1 * x.size ≤ _; omega)
        have erep : (⟨(Lib.repeatL (⟨#[0]⟩ : ByteArray).data.toList x.size).toArray⟩ : ByteArray) = ⟨(List.replicate x.size (0 : UInt8)).toArray⟩ := by
          show (⟨(Lib.repeatL [0] x.size).toArray⟩ : ByteArray) = _
          rw [repeat_nought]
        rw [erep] at HREP
        have HRP := Lib.hid HREP
        have hsp : spoilt keep k x = List.replicate x.size 0 := if_neg hkp
        rw [hsp] at hT1
        have hadd := add_bytes (tailTo s.pieces keep k) (List.replicate x.size 0) (by rw [List.length_replicate]; omega)
        rw [← hT1] at hadd
        generalize (⟨(tailTo s.pieces keep k).toArray⟩ : ByteArray) = t0 at *
        generalize (⟨(List.replicate x.size (0 : UInt8)).toArray⟩ : ByteArray) = r0 at *
        clear HREP erep hsp hT1 hx hx0 hl1
        by_cases hkl : k < keep.length
        · have hkk : keep[k]? = some false := by
            rw [List.getD_eq_getElem?_getD, List.getElem?_eq_getElem hkl] at hkp
            rw [List.getElem?_eq_getElem hkl]
            have : keep[k] ≠ true := hkp
            exact congrArg some (by simpa using this)
          obtain ⟨kb, koff, rfl, hkc⟩ := HK.out k false hkk
          have kc : wr.cell? ⟨kb, koff + k, none⟩ = some (.bool false) := (HBW.out.cell (by exact block_lt_of_cell hkc)).trans hkc
          clear hkk hkp hkc
          go_wp2_with fail
          refine (HRP.out _).mono ?_
          rintro e w3 ⟨rfl, hb3⟩
          have HB3 : Hid (Below wb.heap.size wb w3) := HB.out.trans (hb3.mono HB.out.size)
          clear hb3 HRP
          go_wp2_with fail
          go_roundw
          case rel => exact ⟨k + 1, by omega, by go_num, rfl, HB3.out⟩
          case measure => simp [intOf]; omega
        · have hkl2 : keep.length ≤ k := by omega
          clear hkp hkl
          go_wp2_with fail
          refine (HRP.out _).mono ?_
          rintro e w3 ⟨rfl, hb3⟩
          have HB3 : Hid (Below wb.heap.size wb w3) := HB.out.trans (hb3.mono HB.out.size)
          clear hb3 HRP
          go_wp2_with fail
          go_roundw
          case rel => exact ⟨k + 1, by omega, by go_num, rfl, HB3.out⟩
          case measure => simp [intOf]; omega
    · obtain rfl : k = s.pieces.length := by omega
      have hz := HBW.out.size
      have hDr := HH.out.below HBW.out (Nat.le_refl _)
      have htn := HP.out s.pieces.length (Nat.le_refl _)
      obtain ⟨T, hT⟩ : ∃ T, tailTo s.pieces keep s.pieces.length = T := ⟨_, rfl⟩
      rw [hT] at htn ⊢
      obtain ⟨hF, v, hg, _⟩ := id hDr
      have f0 := free_at hg 0
      have f1 := free_at hg 1
      have f2 := free_at hg 2
      have f3 := free_at hg 3
      have g2 : wr.cell? ⟨g, 2, none⟩ = some (.string s.lasts) := cell_at hg rfl
      obtain ⟨u0, g0⟩ : ∃ u, wr.cell? ⟨g, 0, none⟩ = some u := ⟨_, cell_at hg rfl⟩
      obtain ⟨u1, g1⟩ : ∃ u, wr.cell? ⟨g, 1, none⟩ = some u := ⟨_, cell_at hg rfl⟩
      obtain ⟨u3, g3⟩ : ∃ u, wr.cell? ⟨g, 3, none⟩ = some u := ⟨_, cell_at hg rfl⟩
      have hgr := heap_lt hg
      have hsz : (⟨T.toArray⟩ : ByteArray).size = T.length := List.size_toArray
      have hll : s.lasts.data.toList.length = s.lasts.size := Array.length_toList
      by_cases hcut : 0 ≤ cut ∧ cut < (T.length : Int)
      · obtain ⟨m, rfl⟩ := Int.eq_ofNat_of_zero_le hcut.1
        have hm : m < T.length := by omega
        have hct : crashTail s keep (m : Int) = T.take m := by
          unfold crashTail
          simp only
          rw [hT, if_pos hcut, Int.toNat_natCast]
        have hadd := add_bytes s.lasts.data.toList (T.take m) (by rw [hll]; have := List.length_take_le m T; omega)
        rw [bytes_toList, ← extract_take T m (by omega)] at hadd
        have HST : Hid _ := crash_store hDr ⟨(s.lasts.data.toList ++ T.take m).toArray⟩
        have HCR : Hid (s.crash keep (m : Int) = ⟨-1, false, ⟨(s.lasts.data.toList ++ T.take m).toArray⟩, [], s.cap⟩) := by show s.crash keep (m : Int) = _; unfold DSt.crash; rw [hct]
        generalize (⟨(s.lasts.data.toList ++ T.take m).toArray⟩ : ByteArray) = y at *
        generalize hTB : (⟨T.toArray⟩ : ByteArray) = TB at *
        have hmt : m < TB.size := by omega
        have hmi : (m : Int) < (TB.size : Int) := by omega
        have HSZ := Lib.hid hsz
        have d0 : decide ((0 : Int) ≤ (m : Int)) = true := by simp
        clear hDr hF hg hT hct hcut hTB hsz hll hx0
        go_wp2_with fail
        go_end0
        rw [HCR.out]
        exact ⟨rfl, HST.out.1.mono (fun k _ a => by
          by_cases hk : k < w.heap.size
          · exact .inl ⟨a, hk⟩
          · exact .inr (by omega)), (Chg.of_below HBW.out F (fun i a b => absurd a (by omega))).trans HST.out.2 (fun _ _ a => a)⟩
      · have hct : crashTail s keep cut = T := by
          unfold crashTail
          simp only
          rw [hT, if_neg hcut]
        have hadd := add_bytes s.lasts.data.toList T (by rw [hll]; omega)
        rw [bytes_toList] at hadd
        have HST : Hid _ := crash_store hDr ⟨(s.lasts.data.toList ++ T).toArray⟩
        have HCR : Hid (s.crash keep cut = ⟨-1, false, ⟨(s.lasts.data.toList ++ T).toArray⟩, [], s.cap⟩) := by show s.crash keep cut = _; unfold DSt.crash; rw [hct]
        generalize (⟨(s.lasts.data.toList ++ T).toArray⟩ : ByteArray) = y at *
        generalize hTB : (⟨T.toArray⟩ : ByteArray) = TB at *
        have htb : TB.size ≤ 16777216 := by omega
        have HEND : Hid (∀ w', ((((wr.setCell ⟨g, 2, none⟩ (.string y)).setCell ⟨g, 3, none⟩ (.slice none 0 0)).setCell ⟨g, 0, none⟩ (.int .i64 (-1))).setCell ⟨g, 1, none⟩ (.bool false)) = w' → DiskAt w' (fun k => (F k ∧ k < w.heap.size) ∨ w.heap.size ≤ k) g (s.crash keep cut) ∧ Chg w w' F) := by
          rintro _ rfl
          rw [HCR.out]
          exact ⟨HST.out.1.mono (fun k _ a => by
            by_cases hk : k < w.heap.size
            · exact .inl ⟨a, hk⟩
            · exact .inr (by omega)), (Chg.of_below HBW.out F (fun i a b => absurd a (by omega))).trans HST.out.2 (fun _ _ a => a)⟩
        by_cases hc0 : 0 ≤ cut
        · have hc1 : (TB.size : Int) ≤ cut := by omega
          have d0 : decide ((0 : Int) ≤ cut) = true := by simp; omega
          have d1 : decide (cut < (TB.size : Int)) = false := by simp; omega
          clear hDr hF hg hT hct hcut hTB hsz hll hx0 HST HCR
          go_wp2_with fail
          go_end0
          exact ⟨rfl, HEND.out _ rfl⟩
        · have d0 : decide ((0 : Int) ≤ cut) = false := by simp; omega
          clear hDr hF hg hT hct hcut hTB hsz hll hx0 HST HCR
          go_wp2_with fail
          go_end0
          exact ⟨rfl, HEND.out _ rfl⟩
end Go.Proofs.Ytpnmhpkpkejdiaa
