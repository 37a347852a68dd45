/- Layer 15: the walks of Scan, of the reference's Scan, and of Same. -/
import Derived.Test.YtpnmhpkpkejdiaaLogA
import Derived.Test.YtpnmhpkpkejdiaaSumH
import Derived.Test.YtpnmhpkpkejdiaaMem
import Derived.ScopeJumps
import Derived.WalkMore
namespace Go.Proofs.Ytpnmhpkpkejdiaa
open Go.RowKit

def txt (l : List UInt8) : ByteArray := ⟨l.toArray⟩
theorem txt_data (l : List UInt8) : (txt l).data.toList = l := by simp [txt]
theorem txt_size (l : List UInt8) : (txt l).size = l.length := List.size_toArray
theorem txt_of (s : ByteArray) : txt s.data.toList = s := by apply ByteArray.ext; simp [txt]
/-- the records of a text -/
def recsOf (s : ByteArray) : List ByteArray := (scanL s.data.toList).1.map txt
/-- how many bytes they have -/
def recLen (s : ByteArray) : Nat := s.size - (scanL s.data.toList).2.length
/-- where a scan stands -/
def ScanInv (s : ByteArray) (w wq : World) (v : Value) (out : List ByteArray) (rest : ByteArray) : Prop :=
  recsOf s = out ++ recsOf rest ∧ (scanL s.data.toList).2 = (scanL rest.data.toList).2 ∧ out.length + rest.size ≤ s.size ∧ Sl wq (fun k => w.heap.size ≤ k) 9 1 v out.length (strCells out) ∧ Below w.heap.size w wq
def ScanEnd (s : ByteArray) (w w' : World) (v : Value) (n : Nat) : Prop := Sl w' (fun k => w.heap.size ≤ k) 9 1 v (recsOf s).length (strCells (recsOf s)) ∧ n = recLen s ∧ Below w.heap.size w w'
def ScanPost (s : ByteArray) (w : World) (e : Ending) (w' : World) : Prop := ∃ v, e = .returned (.tuple #[v, .int .i64 (recLen s : Nat)]) ∧ Sl w' (fun k => w.heap.size ≤ k) 9 1 v (recsOf s).length (strCells (recsOf s)) ∧ Below w.heap.size w w'
def strLen : Value → Nat
  | .string b => b.size
  | _ => 0
theorem ScanInv.ends {s : ByteArray} {w wq : World} {v : Value} {out : List ByteArray} {rest : ByteArray} (h : ScanInv s w wq v out rest) (hc : (openL rest.data.toList).2.2 ≠ 0) (w2 : World) (hb : Below wq.heap.size wq w2) :
    s.size - rest.size = recLen s ∧ Sl w2 (fun k => w.heap.size ≤ k) 9 1 v (recsOf s).length (strCells (recsOf s)) ∧ Below w.heap.size w w2 := by
  obtain ⟨h1, h2, h3, h4, h5⟩ := h
  have e := scanL_no _ hc
  have er : recsOf rest = [] := by unfold recsOf; rw [e]; rfl
  rw [er, List.append_nil] at h1
  refine ⟨?_, ?_, h5.trans (hb.mono h5.size)⟩
  · unfold recLen; rw [h2, e]; rfl
  · rw [h1]; exact sl_below h4 hb (Nat.le_refl _)
theorem ScanInv.next {s : ByteArray} {w wq w2 : World} {v : Value} {out : List ByteArray} {rest t bh : ByteArray} (h : ScanInv s w wq v out rest) (hb : Below wq.heap.size wq w2) (ht : t = ⟨(openL rest.data.toList).1.toArray⟩) (hbh : bh = ⟨(openL rest.data.toList).2.1.toArray⟩) (hc : 0 = (openL rest.data.toList).2.2) :
    Sl w2 (fun k => w.heap.size ≤ k) 9 1 v out.length (strCells out) ∧ out.length + 1 + bh.size ≤ s.size ∧ bh.size < rest.size ∧
    ∀ w4 v', Sl w4 (fun k => (w.heap.size ≤ k ∧ k < (w2.alloc (.cells #[.string t] 9)).heap.size) ∨ k = (w2.alloc (.cells #[.string t] 9)).heap.size) 9 1 v' (out.length + 1) (strCells (out ++ [t])) →
      Chg (w2.alloc (.cells #[.string t] 9)) w4 (fun k => v.ownBlock = some k) → ScanInv s w w4 v' (out ++ [t]) bh ∧ bh.size < rest.size := by
  obtain ⟨h1, h2, h3, h4, h5⟩ := h
  have hl := openL_len _ hc.symm
  have e := scanL_ok _ hc.symm
  have hbs : bh.size = (openL rest.data.toList).2.1.length := by rw [hbh]; exact List.size_toArray
  have hrs : rest.data.toList.length = rest.size := Array.length_toList
  have hbd : bh.data.toList = (openL rest.data.toList).2.1 := by rw [hbh]
  have hsl := sl_below h4 hb (Nat.le_refl _)
  have hz5 := h5.size
  have hzb := hb.size
  refine ⟨hsl, by omega, by omega, fun w4 v' hs hch => ⟨⟨?_, ?_, by rw [List.length_append, List.length_singleton]; omega, ?_, ?_⟩, by omega⟩⟩
  · rw [h1]
    have : recsOf rest = t :: recsOf bh := by
      unfold recsOf
      rw [e, hbd, List.map_cons, ht]; rfl
    rw [this, List.append_assoc]; rfl
  · rw [h2, e, hbd]
  · rw [List.length_append, List.length_singleton]
    refine hs.mono fun k _ a => ?_
    rcases a with ⟨a, _⟩ | a
    · exact a
    · rw [a, World.size_alloc]; omega
  · refine ((h5.trans (hb.mono hz5)).alloc (by omega) _).trans (hch.below (by rw [World.size_alloc]; omega) fun i hi a => ?_)
    have := (own_lt hsl a).1
    omega

set_option maxRecDepth 100000 in
set_option maxHeartbeats 3200000 in
theorem scan_any (s : ByteArray) (hs : s.size ≤ 1000000) (w : World) : Calls Try.prog 43 #[.string s] w (ScanPost s w) := by
  go_enter Try.func43, Try.ntmps43
  go_wp2_with fail
  refine wp_scope_jumps 0 (fun a' w' => ∃ (v : Value) (out : List ByteArray) (rest : ByteArray) (u1 u6 u7 u8 u9 u10 u11 u12 u13 u14 u15 u16 u17 u18 u19 u20 u21 u22 u23 u24 u25 u26 u27 u28 : Value), a' = { tmps := #[.string s, u1, .slice none 0 0, .int .i64 0, v, .string rest, u6, u7, u8, u9, u10, u11, u12, u13, u14, u15, u16, u17, u18, u19, u20, u21, u22, u23, u24, u25, u26, u27, u28], defers := [] } ∧ Hid (ScanInv s w w' v out rest)) (fun a' _ => strLen (a'.tmps.getD 5 undef)) rfl ?_ ?_
  · have HI : Hid (ScanInv s w w (.slice none 0 0) ([] : List ByteArray) s) := ⟨rfl, rfl, by simp, Sl.nil _ _ _ _, Below.refl _ _⟩
    go_wp2_with fail
    go_step3
    have hop := open_raw s (by have := HI.out.2.2.1; omega) w
    obtain ⟨t, ht⟩ : ∃ t : ByteArray, t = ⟨(openL s.data.toList).1.toArray⟩ := ⟨_, rfl⟩
    obtain ⟨bh, hbh⟩ : ∃ t : ByteArray, t = ⟨(openL s.data.toList).2.1.toArray⟩ := ⟨_, rfl⟩
    obtain ⟨code, hcode⟩ : ∃ c, c = (openL s.data.toList).2.2 := ⟨_, rfl⟩
    rw [← ht, ← hbh, ← hcode] at hop
    have HOP := Lib.hid hop
    have HT := Lib.hid ht
    have HBH := Lib.hid hbh
    have HCODE := Lib.hid hcode
    clear hop ht hbh hcode
    by_cases h0 : code = 0
    · subst h0
      go_wp2_with fail
      refine HOP.out.mono ?_
      rintro e w2 ⟨rfl, hb2⟩
      obtain ⟨hi1, hi2, hi3, hi4⟩ := HI.out.next hb2 HT.out HBH.out HCODE.out
      obtain ⟨w3, hw3⟩ : ∃ w3, w2.alloc (.cells #[.string t] 9) = w3 := ⟨_, rfl⟩
      obtain ⟨v', w4, hrun, hs4, hc4⟩ := append_str t (w := w3) (r := w2.heap.size) (by rw [← hw3]; exact hi1.keep fun k _ hk => Below.heap_alloc _ _ _ hk) (by rw [← hw3]; exact heap_alloc_new _ _) (by omega)
      obtain ⟨ao', cp', rfl, _, _⟩ := hs4.shape
      have HN : Hid (ScanInv s w w4 (.slice ao' ((([] : List ByteArray)).length + 1) cp') (([] : List ByteArray) ++ [t]) bh ∧ bh.size < s.size) := by
        rw [← hw3] at hs4 hc4
        exact hi4 _ _ hs4 hc4
      have HRUN := Lib.hid hrun
      clear hb2 hi1 hi2 hi3 hi4 hrun hs4 hc4
      go_wp2_with (at_builtin; (try rw [hw3]); refine wpList_append_run rfl rfl rfl rfl HRUN.out ?_)
      go_step3
      exact ⟨rfl, _, _, _, _, _, _, _, _, _, _, _, _, _, _, _, _, _, _, _, _, _, _, _, _, _, _, _, rfl, HN.out.1⟩
    · have hb0 : ((code : Int) == 0) = false := by rw [beq_eq_false_iff_ne]; omega
      have hcz := HCODE.out
      have hend := HI.out.ends (by rw [← hcz]; exact h0)
      have HEND := Lib.hid hend
      have hrs := HI.out.2.2.1
      clear h0 hcz hend
      have e1 : IntKind.i64.wrap ((s.size : Int) - (s.size : Int)) = (s.size : Int) - (s.size : Int) := IntWalk.i64_in _ (by omega)
      obtain ⟨q, hq⟩ : ∃ q : Nat, s.size - s.size = q := ⟨_, rfl⟩
      have hq2 : (s.size : Int) - (s.size : Int) = (q : Int) := by omega
      have HQ := Lib.hid hq
      clear hq
      go_wp2_with fail
      refine HOP.out.mono ?_
      rintro e w2 ⟨rfl, hb2⟩
      have HE2 := Lib.hid (HEND.out w2 hb2)
      clear hb2
      go_wp2_with fail
      try rw [Exit.noGoto_ret]
      try simp only [Exit.jump]
      go_ret2
      exact ⟨.slice none 0 0, by rw [← (HQ.out.symm.trans HE2.out.1)]; rfl, HE2.out.2⟩
  · rintro a' wq ⟨v, out, rest, u1, u6, u7, u8, u9, u10, u11, u12, u13, u14, u15, u16, u17, u18, u19, u20, u21, u22, u23, u24, u25, u26, u27, u28, rfl, HI⟩
    have hop := open_raw rest (by have := HI.out.2.2.1; omega) wq
    obtain ⟨t, ht⟩ : ∃ t : ByteArray, t = ⟨(openL rest.data.toList).1.toArray⟩ := ⟨_, rfl⟩
    obtain ⟨bh, hbh⟩ : ∃ t : ByteArray, t = ⟨(openL rest.data.toList).2.1.toArray⟩ := ⟨_, rfl⟩
    obtain ⟨code, hcode⟩ : ∃ c, c = (openL rest.data.toList).2.2 := ⟨_, rfl⟩
    rw [← ht, ← hbh, ← hcode] at hop
    have HOP := Lib.hid hop
    have HT := Lib.hid ht
    have HBH := Lib.hid hbh
    have HCODE := Lib.hid hcode
    clear hop ht hbh hcode
    by_cases h0 : code = 0
    · subst h0
      go_wp2_with fail
      refine HOP.out.mono ?_
      rintro e w2 ⟨rfl, hb2⟩
      obtain ⟨hi1, hi2, hi3, hi4⟩ := HI.out.next hb2 HT.out HBH.out HCODE.out
      obtain ⟨w3, hw3⟩ : ∃ w3, w2.alloc (.cells #[.string t] 9) = w3 := ⟨_, rfl⟩
      obtain ⟨v', w4, hrun, hs4, hc4⟩ := append_str t (w := w3) (r := w2.heap.size) (by rw [← hw3]; exact hi1.keep fun k _ hk => Below.heap_alloc _ _ _ hk) (by rw [← hw3]; exact heap_alloc_new _ _) (by omega)
      obtain ⟨ao', cp', rfl, _, _⟩ := hs4.shape
      have HN : Hid (ScanInv s w w4 (.slice ao' (out.length + 1) cp') (out ++ [t]) bh ∧ bh.size < rest.size) := by
        rw [← hw3] at hs4 hc4
        exact hi4 _ _ hs4 hc4
      have HRUN := Lib.hid hrun
      clear hb2 hi1 hi2 hi3 hi4 hrun hs4 hc4
      go_wp2_with (at_builtin; (try rw [hw3]); refine wpList_append_run rfl rfl rfl rfl HRUN.out ?_)
      go_step3
      exact ⟨rfl, ⟨_, _, _, _, _, _, _, _, _, _, _, _, _, _, _, _, _, _, _, _, _, _, _, _, _, _, _, rfl, HN.out.1⟩, HN.out.2⟩
    · have hb0 : ((code : Int) == 0) = false := by rw [beq_eq_false_iff_ne]; omega
      have hcz := HCODE.out
      have hend := HI.out.ends (by rw [← hcz]; exact h0)
      have HEND := Lib.hid hend
      have hrs := HI.out.2.2.1
      clear h0 hcz hend
      have e1 : IntKind.i64.wrap ((s.size : Int) - (rest.size : Int)) = (s.size : Int) - (rest.size : Int) := IntWalk.i64_in _ (by omega)
      obtain ⟨q, hq⟩ : ∃ q : Nat, s.size - rest.size = q := ⟨_, rfl⟩
      have hq2 : (s.size : Int) - (rest.size : Int) = (q : Int) := by omega
      have HQ := Lib.hid hq
      clear hq
      go_wp2_with fail
      refine HOP.out.mono ?_
      rintro e w2 ⟨rfl, hb2⟩
      have HE2 := Lib.hid (HEND.out w2 hb2)
      clear hb2
      go_wp2_with fail
      try rw [Exit.noGoto_ret]
      try simp only [Exit.jump]
      go_ret2
      exact ⟨v, by rw [← (HQ.out.symm.trans HE2.out.1)]; rfl, HE2.out.2⟩

theorem extract_start (s : ByteArray) : s.extract 0 s.size = s := by
  apply ByteArray.ext
  have : (s.extract 0 s.size).data.toList = s.data.toList := by rw [data_extract_end s 0 s.size (Nat.le_refl _)]; rfl
  exact Array.ext' this
theorem extract_len (s : ByteArray) (n : Nat) : (s.extract n s.size).size = s.size - n := by rw [ByteArray.size_extract]; omega
theorem extract_next (s rest bh : ByteArray) (n : Nat) (hr : s.extract n s.size = rest) (hbh : bh = ⟨(openL rest.data.toList).2.1.toArray⟩) (hc : 0 = (openL rest.data.toList).2.2) : s.extract (n + 8 + (openL rest.data.toList).1.length) s.size = bh := by
  apply ByteArray.ext
  apply Array.ext'
  rw [data_extract_end s _ s.size (Nat.le_refl _), hbh, openL_rest _ hc.symm, ← hr, data_extract_end s n s.size (Nat.le_refl _), List.drop_drop]
  congr 1
  omega

set_option maxRecDepth 100000 in
set_option maxHeartbeats 3200000 in
theorem refScan_any (s : ByteArray) (hs : s.size ≤ 1000000) (w : World) : Calls Try.prog 44 #[.string s] w (ScanPost s w) := by
  have HI0 : Hid (ScanInv s w (w.alloc (.cells #[] 9)) (.slice (some ⟨w.heap.size, 0, none⟩) 0 0) ([] : List ByteArray) (s.extract 0 s.size)) := by
    show ScanInv s w _ _ _ (s.extract 0 s.size)
    rw [extract_start]
    exact ⟨rfl, rfl, by simp, ⟨by simp [strCells], .inr ⟨w.heap.size, 0, 0, #[], rfl, Nat.le_refl _, heap_alloc_new w _, Nat.le_refl _, by unfold maxLen; omega, by simp, rfl⟩⟩, (Below.refl _ _).alloc (Nat.le_refl _) _⟩
  go_enter Try.func44, Try.ntmps44
  go_wp2_with fail
  go_loopw [4, 5] (fun v i wr => ∃ (n : Nat) (out : List ByteArray), n ≤ s.size ∧ i = .int .i64 n ∧ Hid (ScanInv s w wr v out (s.extract n s.size))) (fun _ i _ => s.size - (intOf i).toNat)
  case atStart => exact ⟨0, [], by omega, rfl, HI0.out⟩
  case round =>
    obtain ⟨n, out, hn, rfl, HI⟩ := hrel
    clear HI0
    obtain ⟨wq, hwq⟩ : ∃ wq : World, wq = wr := ⟨_, rfl⟩
    rw [← hwq] at HI ⊢
    clear hwq
    obtain ⟨rest, hr⟩ : ∃ r, s.extract n s.size = r := ⟨_, rfl⟩
    have hrl : rest.size = s.size - n := by rw [← hr, extract_len]
    rw [hr] at HI
    have hop := refOpen_raw rest (by omega) wq
    have hlen := fun h : 0 = (openL rest.data.toList).2.2 => openL_len _ h.symm
    have hnx := fun bh (hb : bh = ⟨(openL rest.data.toList).2.1.toArray⟩) h => extract_next s rest bh n hr hb h
    have hrd : rest.data.toList.length = rest.size := Array.length_toList
    obtain ⟨tl, htl⟩ : ∃ tl, (openL rest.data.toList).1.length = tl := ⟨_, rfl⟩
    rw [hrd, htl] at hlen
    rw [htl] at hnx
    obtain ⟨t, ht⟩ : ∃ t : ByteArray, t = ⟨(openL rest.data.toList).1.toArray⟩ := ⟨_, rfl⟩
    have hts : t.size = tl := by rw [ht, ← htl]; exact List.size_toArray
    obtain ⟨bh, hbh⟩ : ∃ t : ByteArray, t = ⟨(openL rest.data.toList).2.1.toArray⟩ := ⟨_, rfl⟩
    obtain ⟨code, hcode⟩ : ∃ c, c = (openL rest.data.toList).2.2 := ⟨_, rfl⟩
    rw [← ht, ← hbh, ← hcode] at hop
    rw [← hcode] at hlen hnx
    have HOP := Lib.hid hop
    have HT := Lib.hid ht
    have HBH := Lib.hid hbh
    have HCODE := Lib.hid hcode
    have HLEN := Lib.hid hlen
    have HNX := Lib.hid hnx
    have HTS := Lib.hid hts
    clear hop ht hbh hcode hlen hnx htl hrd hts
    by_cases h0 : code = 0
    · subst h0
      have hl1 := HLEN.out rfl
      have hts : t.size ≤ 1000000 := by rw [HTS.out]; omega
      have e1 : IntKind.i64.wrap ((n : Int) + 8) = ((n + 8 : Nat) : Int) := by rw [IntWalk.i64_in _ (by omega)]; omega
      obtain ⟨q, hq⟩ : ∃ q, n + 8 + tl = q := ⟨_, rfl⟩
      have hq2 : (n : Int) + 8 + (t.size : Int) = (q : Int) := by rw [HTS.out]; omega
      have HNX2 := Lib.hid (HNX.out bh HBH.out rfl)
      rw [hq] at HNX2
      have hqs : q ≤ s.size := by omega
      have hqn : n < q := by omega
      clear hl1 hq e1
      go_wp2_with fail
      refine HOP.out.mono ?_
      rintro e w2 ⟨rfl, hb2⟩
      obtain ⟨hi1, hi2, hi3, hi4⟩ := HI.out.next hb2 HT.out HBH.out HCODE.out
      obtain ⟨w3, hw3⟩ : ∃ w3, w2.alloc (.cells #[.string t] 9) = w3 := ⟨_, rfl⟩
      obtain ⟨v', w4, hrun, hs4, hc4⟩ := append_str t (w := w3) (r := w2.heap.size) (by rw [← hw3]; exact hi1.keep fun k _ hk => Below.heap_alloc _ _ _ hk) (by rw [← hw3]; exact heap_alloc_new _ _) (by omega)
      obtain ⟨ao', cp', rfl, _, _⟩ := hs4.shape
      have HN : Hid (ScanInv s w w4 (.slice ao' (out.length + 1) cp') (out ++ [t]) (s.extract q s.size)) := by
        rw [← hw3] at hs4 hc4
        show ScanInv s w w4 _ _ (s.extract q s.size)
        rw [HNX2.out]
        exact (hi4 _ _ hs4 hc4).1
      have HRUN := Lib.hid hrun
      clear hb2 hi1 hi2 hi3 hi4 hrun hs4 hc4
      go_wp2_with (at_builtin; (try rw [hw3]); refine wpList_append_run rfl rfl rfl rfl HRUN.out ?_)
      go_roundw
      case rel => exact ⟨q, out ++ [t], hqs, by first | rfl | go_num, HN.out⟩
      case measure => simp [intOf]; omega
    · have hb0 : ((code : Int) == 0) = false := by rw [beq_eq_false_iff_ne]; omega
      have hcz := HCODE.out
      have hend := HI.out.ends (by rw [← hcz]; exact h0)
      have hsn : s.size - rest.size = n := by omega
      rw [hsn] at hend
      have HEND := Lib.hid hend
      clear h0 hcz hend hsn
      go_wp2_with fail
      refine HOP.out.mono ?_
      rintro e w2 ⟨rfl, hb2⟩
      have HE2 := Lib.hid (HEND.out w2 hb2)
      clear hb2
      go_wp2_with fail
      go_ret2
      exact ⟨u4, by rw [← HE2.out.1]; rfl, HE2.out.2⟩

/-- a list of texts lies in memory -/
def StrsAt (w : World) (ao : Option Addr) (l : List ByteArray) : Prop := ∀ (i : Nat) (x : ByteArray), l[i]? = some x → ∃ blk off, ao = some ⟨blk, off, none⟩ ∧ w.cell? ⟨blk, off + i, none⟩ = some (.string x)
theorem StrsAt.below {w w' : World} {ao : Option Addr} {l : List ByteArray} (h : StrsAt w ao l) (hb : Below w.heap.size w w') : StrsAt w' ao l := fun i b hi => by
  obtain ⟨blk, off, e, hc⟩ := h i b hi
  exact ⟨blk, off, e, (hb.cell (by exact block_lt_of_cell hc)).trans hc⟩
theorem Sl.strs {w : World} {F : Nat → Prop} {ao : Option Addr} {cap : Nat} {l : List ByteArray} (h : Sl w F 9 1 (.slice ao l.length cap) l.length (strCells l)) : StrsAt w ao l := fun _ _ hi => str_at h hi
set_option maxRecDepth 100000 in
set_option maxHeartbeats 1600000 in
theorem same_any (la lb : List ByteArray) (na nb : Nat) (aa ab : Option Addr) (ca cb : Nat) (w : World) (ha : StrsAt w aa la) (hb : StrsAt w ab lb) (hna : la.length = na) (hnb : lb.length = nb) (hl : na ≤ 140737488355328) (hl2 : nb ≤ 140737488355328) (b : Bool) (hbb : (la = lb) ↔ b = true) :
    Calls Try.prog 45 #[.slice aa na ca, .slice ab nb cb] w fun e w' => e = .returned (.bool b) ∧ Below w.heap.size w w' := by
  have HA := Lib.hid ha
  have HB := Lib.hid hb
  have HNA := Lib.hid hna
  have HNB := Lib.hid hnb
  have HBB := Lib.hid hbb
  clear ha hb hna hnb hbb
  by_cases hne : na = nb
  · subst hne
    go_enter Try.func45, Try.ntmps45
    go_wp2_with fail
    go_loopw [5] (fun i wr => ∃ k : Nat, k ≤ na ∧ i = .int .i64 k ∧ Hid (la.take k = lb.take k) ∧ Hid (Below w.heap.size w wr)) (fun i _ => na - (intOf i).toNat)
    case atStart => exact ⟨0, by omega, rfl, rfl, Below.refl _ _⟩
    case round =>
      obtain ⟨k, hk, rfl, HE, HW⟩ := hrel
      by_cases hlt : k < na
      · obtain ⟨x, hx⟩ : ∃ x, la[k]? = some x := ⟨_, List.getElem?_eq_getElem (by rw [HNA.out]; exact hlt)⟩
        obtain ⟨y, hy⟩ : ∃ y, lb[k]? = some y := ⟨_, List.getElem?_eq_getElem (by rw [HNB.out]; exact hlt)⟩
        obtain ⟨b1, o1, rfl, c1⟩ := (HA.out.below HW.out) k x hx
        obtain ⟨b2, o2, rfl, c2⟩ := (HB.out.below HW.out) k y hy
        have HX := Lib.hid hx
        have HY := Lib.hid hy
        clear hx hy
        by_cases hxy : x = y
        · subst hxy
          have HE2 : Hid (la.take (k + 1) = lb.take (k + 1)) := by
            show la.take (k + 1) = lb.take (k + 1)
            rw [List.take_add_one, List.take_add_one, HE.out, HX.out, HY.out]
          go_wp2_with fail
          go_quiet (fail)
          have HW2 : Hid (∀ m, Below w.heap.size w (wr.drewN m)) := fun m => bl_drewN HW.out m
          go_wp2_with fail
          go_roundw
          case rel => exact ⟨k + 1, by omega, by go_num, HE2.out, HW2.out _⟩
          case measure => simp [intOf]; omega
        · have hb1 : b = false := by
            cases hb : b with
            | false => rfl
            | true =>
              have e := HBB.out.2 hb
              rw [e, HY.out] at HX
              exact absurd (Option.some.inj HX.out).symm hxy
          subst hb1
          have hxy' : (x.toList == y.toList) = false := by
            rw [beq_eq_false_iff_ne, ByteArray.toList_eq, ByteArray.toList_eq]
            exact fun e => hxy (ByteArray.ext (Array.ext' e))
          go_wp2_with fail
          go_quiet (fail)
          have HW2 : Hid (∀ m, Below w.heap.size w (wr.drewN m)) := fun m => bl_drewN HW.out m
          go_wp2_with fail
          go_ret
          exact ⟨rfl, HW2.out _⟩
      · obtain rfl : k = na := by omega
        have hb1 : b = true := HBB.out.1 (by
          have := HE.out
          rw [List.take_of_length_le (by rw [HNA.out]; omega), List.take_of_length_le (by rw [HNB.out]; omega)] at this
          exact this)
        subst hb1
        go_wp2_with fail
        go_ret
        exact ⟨rfl, HW.out⟩
  · have hb1 : b = false := by
      cases hb : b with
      | false => rfl
      | true =>
        have e := HBB.out.2 hb
        exact absurd (by rw [← HNA.out, ← HNB.out, e]) hne
    subst hb1
    have hn0 : ((na : Int) == (nb : Int)) = false := by rw [beq_eq_false_iff_ne]; omega
    have hn1 : ((na : Int) != (nb : Int)) = true := by rw [bne_iff_ne]; omega
    clear hne
    go_enter Try.func45, Try.ntmps45
    go_wp2_with fail
    go_ret
    exact ⟨rfl, Below.refl _ _⟩
end Go.Proofs.Ytpnmhpkpkejdiaa
