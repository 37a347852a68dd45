/- The walk of slices.Insert at packets, one element, where there is room. -/
import Derived.Test.YtecpgkcoehnpbaaWireB
import Derived.Lib.Overlaps
import Derived.Shelf.RegionOpenPlain
namespace Go.Proofs.Ytecpgkcoehnpbaa
open Go.RowKit

/-- .. packets of a row, one more laid in -/
def insPk (l : List Pk) (i : Nat) (p : Pk) : List Pk := l.take i ++ p :: l.drop i
theorem insPk_length (l : List Pk) (i : Nat) (p : Pk) (hi : i ≤ l.length) : (insPk l i p).length = l.length + 1 := by simp [insPk]; omega
theorem insPk_cells (l : List Pk) (i : Nat) (p : Pk) : pksCells (insPk l i p) = (pksCells l).take (i * 6) ++ (pkCells p ++ (pksCells l).drop (i * 6)) := by
  have h1 : pksCells (p :: l.drop i) = pkCells p ++ pksCells (l.drop i) := by simp [pksCells]
  rw [insPk, pksCells_append, h1, pks_take, pks_drop]

/-- two lists laid one upon the other -/
theorem over_two (c X P : List Value) (o off k : Nat) (ho : off ≤ o) (hX : X = (c.drop o).take k) (hk : o + k + P.length ≤ c.length) (hoff : off ≤ c.length) :
    (((c.take (o + P.length) ++ X ++ c.drop (o + P.length + X.length)).take o ++ P ++ (c.take (o + P.length) ++ X ++ c.drop (o + P.length + X.length)).drop (o + P.length)).drop off).take ((o - off) + (P.length + k)) =
      (c.drop off).take (o - off) ++ (P ++ X) := by
  have hXl : X.length = k := by rw [hX, List.length_take, List.length_drop]; omega
  have e1 : (c.take (o + P.length) ++ X ++ c.drop (o + P.length + X.length)).take o = c.take o := by
    rw [List.append_assoc, List.take_append_of_le_length (by rw [List.length_take]; omega), List.take_take]; congr 1; omega
  have e2 : (c.take (o + P.length) ++ X ++ c.drop (o + P.length + X.length)).drop (o + P.length) = X ++ c.drop (o + P.length + X.length) := by
    rw [List.append_assoc, List.drop_left' (by rw [List.length_take]; omega)]
  rw [e1, e2, List.append_assoc, List.drop_append_of_le_length (by rw [List.length_take]; omega), List.drop_take, ← List.append_assoc P, ← List.append_assoc]
  refine List.take_left' ?_
  rw [List.length_append, List.length_append, List.length_take, List.length_drop]; omega

set_option maxRecDepth 100000 in
set_option maxHeartbeats 1600000 in
theorem insert_end (b off n cap r : Nat) (cur : Array Value) (l : List Pk) (p : Pk) (w : World) (hg : w.heap[b]? = some (.cells cur 23 (0, 0))) (hn : n < cap) (hcap : off + cap * 6 ≤ cur.size) (hm : cap ≤ maxLen) (hs : n ≤ 1000)
    (hl : l.length = n) (hx : (cur.toList.drop off).take (n * 6) = pksCells l) (hr : w.heap[r]? = some (pkObj p)) :
    Calls Try.prog 47 #[.slice (some ⟨b, off, none⟩) n cap, .int .i64 (n : Int), .slice (some ⟨r, 0, none⟩) 1 1] w fun e w' => e = .returned (.slice (some ⟨b, off, none⟩) (n + 1) cap) ∧
      ∃ cur', w'.heap[b]? = some (.cells cur' 23 (0, 0)) ∧ cur'.size = cur.size ∧ (cur'.toList.drop off).take ((n + 1) * 6) = pksCells (insPk l n p) ∧ Chg w w' (fun k => k = b) := by
  unfold maxLen at hm
  obtain ⟨i0, hi0, hz0, hz1, hz2⟩ := info_parts Try.infoPk
  have hN : News w 6 (.slice (some ⟨r, 0, none⟩) 1 1) 1 (pksCells [p]) := News.pk p hr
  have hrun := run_append_exact (P := Try.prog) (w := w) 28 28 i0 6 under_pks hi0 hz1 (g := b) (cur := cur) hg (off := off) (n := n) (cap := cap) (m := 1) hN (by omega) hcap
  have e6 : (pksCells [p]).length = 6 := by rw [pksCells_length]; rfl
  have hfit : off + n * 6 + (pksCells [p]).length ≤ cur.size := by rw [e6]; omega
  have hsz : (splice cur (off + n * 6) (pksCells [p])).size = cur.size := splice_size _ _ _ hfit
  have hxs : ((splice cur (off + n * 6) (pksCells [p])).toList.drop off).take ((n + 1) * 6) = pksCells (insPk l n p) := by
    have h := over_to cur.toList (pksCells [p]) (off + n * 6) off (by omega) (by rw [Array.length_toList]; omega)
    have e2 : off + n * 6 - off + (pksCells [p]).length = (n + 1) * 6 := by rw [e6]; omega
    rw [e2] at h
    rw [splice_list, h, show off + n * 6 - off = n * 6 by omega, hx, ← pksCells_append]
    congr 1
    rw [insPk, ← hl]; simp
  have hgn : (w.setRow b (splice cur (off + n * 6) (pksCells [p]))).heap[b]? = some (.cells (splice cur (off + n * 6) (pksCells [p])) 23 (0, 0)) := setRow_heap w b cur _ 23 _ hg
  have C : Chg w (w.setRow b (splice cur (off + n * 6) (pksCells [p]))) (fun k => k = b) := ⟨rfl, rfl, rfl, by simp, fun k _ hk => setRow_other w b k _ hk⟩
  have HRUN := Lib.hid hrun
  have HSZ := Lib.hid hsz
  have HXS := Lib.hid hxs
  have HG := Lib.hid hgn
  have HC := Lib.hid C
  clear hrun hsz hxs hgn C hN hx hg hr hfit e6 hi0 hz0 hz1 hz2 hl
  have h1 : n ≠ cap := by omega
  go_enter Try.func47, Try.ntmps47
  go_wp2_with (at_builtin; refine wpList_append_run rfl rfl rfl rfl HRUN.out ?_)
  go_ret
  exact ⟨rfl, _, HG.out, HSZ.out, HXS.out, HC.out⟩

set_option maxRecDepth 100000 in
set_option maxHeartbeats 1600000 in
theorem insert_mid (b off n cap r i : Nat) (cur : Array Value) (l : List Pk) (p : Pk) (w : World) (hg : w.heap[b]? = some (.cells cur 23 (0, 0))) (hn : n < cap) (hcap : off + cap * 6 ≤ cur.size) (hm : cap ≤ maxLen) (hs : n ≤ 1000)
    (hl : l.length = n) (hx : (cur.toList.drop off).take (n * 6) = pksCells l) (hr : w.heap[r]? = some (pkObj p)) (hi : i < n) (hrb : r ≠ b) :
    Calls Try.prog 47 #[.slice (some ⟨b, off, none⟩) n cap, .int .i64 (i : Int), .slice (some ⟨r, 0, none⟩) 1 1] w fun e w' => e = .returned (.slice (some ⟨b, off, none⟩) (n + 1) cap) ∧
      ∃ cur', w'.heap[b]? = some (.cells cur' 23 (0, 0)) ∧ cur'.size = cur.size ∧ (cur'.toList.drop off).take ((n + 1) * 6) = pksCells (insPk l i p) ∧ Chg w w' (fun k => k = b) := by
  unfold maxLen at hm
  obtain ⟨i0, hi0, hz0, hz1, hz2⟩ := info_parts Try.infoPk
  obtain ⟨X, hX⟩ : ∃ X, X = (pksCells l).drop (i * 6) := ⟨_, rfl⟩
  have hXl : X.length = (n - i) * 6 := by rw [hX, List.length_drop, pksCells_length, hl]; omega
  have hX1 : ∀ u ∈ X, u.oneCell' = true := fun u hu => pks_one l u (List.mem_of_mem_drop (by rw [← hX]; exact hu))
  have hXc : ∀ j u, X[j]? = some u → w.drew.cell? ((⟨b, off + i * 6, none⟩ : Addr).add j) = some u := by
    intro j u hj
    rw [Addr.add_lit]
    refine cell_at (w := w.drew) hg ?_
    have hjl := (List.getElem?_eq_some_iff.1 hj).1
    rw [hX, ← hx, List.getElem?_drop, List.getElem?_take, if_pos (by omega), List.getElem?_drop] at hj
    rw [Nat.add_assoc]
    simpa using hj
  have hc1 := fun ty c => run_copy_exact (P := Try.prog) (w := w.drew) 28 28 ty i0 6 under_pks hi0 hz1 (g := b) (cur := cur) hg (off := off + (i + 1) * 6) (n := n - i) (cap := c) (k := n - i) (m := n + 1 - i) (c := cap - i) (a := ⟨b, off + i * 6, none⟩) hXl hX1 hXc (by simp only [Nat.min_def]; split <;> omega) (by omega)
  obtain ⟨c1, hc1e⟩ : ∃ c1, c1 = splice cur (off + (i + 1) * 6) X := ⟨_, rfl⟩
  obtain ⟨W1, hW1⟩ : ∃ W1, W1 = w.drew.setRow b c1 := ⟨_, rfl⟩
  have hg1 : W1.heap[b]? = some (.cells c1 23 (0, 0)) := by rw [hW1]; exact setRow_heap w.drew b cur _ 23 _ hg
  have hr1 : W1.heap[r]? = some (pkObj p) := by rw [hW1, setRow_other w.drew b r _ hrb]; exact hr
  have C1 : Chg w W1 (fun k => k = b) := by rw [hW1]; exact ⟨rfl, rfl, rfl, by simp, fun k _ hk => setRow_other w.drew b k _ hk⟩
  have hsz1 : c1.size = cur.size := by rw [hc1e]; exact splice_size _ _ _ (by rw [hXl]; omega)
  rw [← hc1e, ← hW1] at hc1
  have hc2 := fun ty c => run_copy_exact (P := Try.prog) (w := W1) 28 28 ty i0 6 under_pks hi0 hz1 (g := b) (cur := c1) hg1 (off := off + i * 6) (n := n + 1 - i) (cap := c) (k := 1) (m := 1) (c := 1) (a := ⟨r, 0, none⟩) (news := pkCells p) rfl (fun u hu => pks_one [p] u (by simpa [pksCells] using hu))
    (fun j u hj => by rw [Addr.add_lit, Nat.zero_add]; exact cell_at hr1 (by simpa [pkCells] using hj)) (by simp only [Nat.min_def]; split <;> omega) (by rw [hsz1]; omega)
  obtain ⟨c2, hc2e⟩ : ∃ c2, c2 = splice c1 (off + i * 6) (pkCells p) := ⟨_, rfl⟩
  have hsz2 : c2.size = cur.size := by rw [hc2e, splice_size _ _ _ (by rw [hsz1]; simp [pkCells]; omega)]; exact hsz1
  have hg2 : (W1.setRow b c2).heap[b]? = some (.cells c2 23 (0, 0)) := setRow_heap W1 b c1 _ 23 _ hg1
  have C2 : Chg w (W1.setRow b c2) (fun k => k = b) := C1.trans ⟨rfl, rfl, rfl, by simp, fun k _ hk => setRow_other W1 b k _ hk⟩ (fun _ _ h => h)
  rw [← hc2e] at hc2
  have hxs : (c2.toList.drop off).take ((n + 1) * 6) = pksCells (insPk l i p) := by
    have hP : (pkCells p).length = 6 := rfl
    have hL : cur.toList.length = cur.size := Array.length_toList
    have h := over_two cur.toList X (pkCells p) (off + i * 6) off ((n - i) * 6) (by omega) (by
      rw [hX, ← hx, List.drop_take, List.drop_drop]
      congr 1; omega) (by rw [hL, hP]; omega) (by rw [hL]; omega)
    rw [hc2e, splice_list, hc1e, splice_list]
    rw [hP] at h ⊢
    rw [show off + (i + 1) * 6 = off + i * 6 + 6 by omega, show (n + 1) * 6 = off + i * 6 - off + (6 + (n - i) * 6) by omega, h, insPk_cells, show off + i * 6 - off = i * 6 by omega, ← hx, List.take_take, hX, ← hx]
    congr 2; omega
  have hov : ∀ lb cb, (callFunc 50 #[.slice (some ⟨r, 0, none⟩) 1 1, .slice (some ⟨b, off + (i + 1) * 6, none⟩) lb cb]).run Try.prog w = .ok (.value (.bool false)) w := by
    intro lb cb
    have hz : ∀ w, (Go.sizeOf 23).run Try.prog w = .ok 6 w := fun w => by simp [sizeOf, typeInfo, hi0, hz1]
    have hsa : w.shape? r = some (23, 6) := by simp [World.shape?, hr, pkObj]
    have hsb : w.shape? b = some (23, cur.size) := by simp [World.shape?, hg]
    rw [run_callFunc_extern Try.func50 (by kernel_rfl) (by kernel_rfl) (by kernel_rfl) (e := Extern.SlicesOverlaps.overlaps #[28, 28] #[4]) (by kernel_rfl),
      Lib.run_overlaps_apart w 28 4 23 under_pks 6 hz ⟨r, 0, none⟩ ⟨b, off + (i + 1) * 6, none⟩ 1 1 lb cb hrb _ _ _ _ hsa hsb (by omega) (free_at hr 0) (free_at hr 6)]
    rfl
  have HOV := Lib.hid hov
  have HC1 := Lib.hid hc1
  have HC2 := Lib.hid hc2
  have HSZ := Lib.hid hsz2
  have HXS := Lib.hid hxs
  have HG := Lib.hid hg2
  have HC := Lib.hid C2
  clear hov hc1 hc2 hsz2 hxs hg2 C2 hX hXl hX1 hXc hc1e hW1 hg1 hr1 C1 hsz1 hc2e hx hg hr hi0 hz0 hz1 hz2 hl
  have mixed : Try.prog.follows .mixedOrders = true := by kernel_rfl
  have h1 : cap ≠ i := by omega
  have h2 : cap ≠ i + 1 := by omega
  have h3 : ¬ ((i : Int) = (n : Int)) := by omega
  have hw1 : IntKind.i64.wrap ((i : Int) + 1) = (i : Int) + 1 := IntWalk.i64_in _ (by omega)
  have hw2 : IntKind.i64.wrap ((n : Int) + 1) = (n : Int) + 1 := IntWalk.i64_in _ (by omega)
  have hb1 : (0 : Int) ≤ (i : Int) + 1 := by omega
  have hb2 : ((i : Int) + 1).toNat = i + 1 := by omega
  have hb5 : ((n : Int) + 1).toNat = n + 1 := by omega
  have hb3 : (i : Int) ≤ (n : Int) + 1 := by omega
  have hb4 : (i : Int) + 1 ≤ (n : Int) + 1 := by omega
  have hb6 : ¬ (cap : Int) < (n : Int) + 1 := by omega
  go_enter Try.func47, Try.ntmps47
  go_wp2_with (simp only [HOV.out])
  have hcp1 := HC1.out
  go_region_law_o (refine step_copy_run (t := 28) (t2 := 28) rfl rfl (v := .slice (some ⟨b, off + (i + 1) * 6, none⟩) (n - i) (cap - (i + 1))) (u := .slice (some ⟨b, off + i * 6, none⟩) (n + 1 - i) (cap - i)) (v' := .int .i64 ((n - i : Nat) : Int)) (w' := W1) (by simp [Act.eval, Act.put]) (by simp [Act.eval, Act.put]) (hcp1 _ _) ?_)
  all_goals
    have hcp2 := HC2.out
    clear hcp1
    go_wp2_with (simp only [hcp2])
    go_ret
    exact ⟨rfl, _, HG.out, HSZ.out, HXS.out, HC.out⟩
end Go.Proofs.Ytecpgkcoehnpbaa
