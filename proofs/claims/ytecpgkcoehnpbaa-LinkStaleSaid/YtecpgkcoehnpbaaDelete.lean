/- The walk of slices.Delete at packets, one element. -/
import Derived.Test.YtecpgkcoehnpbaaRow
import Derived.Test.YtecpgkcoehnpbaaLinkG
namespace Go.Proofs.Ytecpgkcoehnpbaa
open Go.RowKit

theorem pks_take (l : List Pk) (i : Nat) : pksCells (l.take i) = (pksCells l).take (i * 6) := by
  induction i generalizing l with
  | zero => simp [pksCells]
  | succ i ih =>
    cases l with
    | nil => simp [pksCells]
    | cons p l =>
      have e : (i + 1) * 6 = 6 + i * 6 := by omega
      have h1 : pksCells (p :: l) = pkCells p ++ pksCells l := by simp [pksCells]
      have h2 : pksCells (p :: l.take i) = pkCells p ++ pksCells (l.take i) := by simp [pksCells]
      rw [List.take_succ_cons, h2, ih, h1, e, List.take_add, List.take_left' (by simp [pkCells]), List.drop_left' (by simp [pkCells])]
theorem pks_drop (l : List Pk) (i : Nat) : pksCells (l.drop i) = (pksCells l).drop (i * 6) := by
  have h : pksCells l = pksCells (l.take i) ++ pksCells (l.drop i) := by rw [← pksCells_append, List.take_append_drop]
  by_cases hi : i ≤ l.length
  · rw [h, List.drop_left' (by rw [pksCells_length, List.length_take]; congr 1; omega)]
  · rw [List.drop_of_length_le (by omega), List.drop_of_length_le (by rw [pksCells_length]; omega)]; rfl
theorem pks_erase (l : List Pk) (i : Nat) : pksCells (l.eraseIdx i) = (pksCells l).take (i * 6) ++ (pksCells l).drop ((i + 1) * 6) := by
  rw [List.eraseIdx_eq_take_drop_succ, pksCells_append, pks_take, pks_drop]

/-- a list laid over another one, read again ahead of it, in it -/
theorem over_head (c news : List Value) (o off k : Nat) (h : off + k ≤ o) (hl : o ≤ c.length) : ((c.take o ++ news ++ c.drop (o + news.length)).drop off).take k = (c.drop off).take k := by
  rw [List.append_assoc, List.drop_append_of_le_length (by rw [List.length_take]; omega), List.take_append_of_le_length (by rw [List.length_drop, List.length_take]; omega), List.drop_take, List.take_take]
  congr 1; omega
theorem over_to (c news : List Value) (o off : Nat) (h : off ≤ o) (hl : o ≤ c.length) : ((c.take o ++ news ++ c.drop (o + news.length)).drop off).take (o - off + news.length) = (c.drop off).take (o - off) ++ news := by
  rw [List.append_assoc, List.drop_append_of_le_length (by rw [List.length_take]; omega), ← List.append_assoc]
  have e1 : (c.take o).drop off = (c.drop off).take (o - off) := by rw [List.drop_take]
  rw [e1]
  refine List.take_left' ?_
  rw [List.length_append, List.length_take, List.length_drop]; omega

set_option maxRecDepth 100000 in
set_option maxHeartbeats 1600000 in
theorem delete_any (g off n cap i : Nat) (cur : Array Value) (l : List Pk) (w : World) (hg : w.heap[g]? = some (.cells cur 23 (0, 0))) (hn : n ≤ cap) (hcap : off + cap * 6 ≤ cur.size) (hm : cap ≤ maxLen) (hs : n ≤ 1000) (hi : i < n)
    (hl : l.length = n) (hx : (cur.toList.drop off).take (n * 6) = pksCells l) :
    Calls Try.prog 49 #[.slice (some ⟨g, off, none⟩) n cap, .int .i64 (i : Int), .int .i64 ((i : Int) + 1)] w fun e w' => e = .returned (.slice (some ⟨g, off, none⟩) (n - 1) cap) ∧
      ∃ cur', w'.heap[g]? = some (.cells cur' 23 (0, 0)) ∧ cur'.size = cur.size ∧ (cur'.toList.drop off).take ((n - 1) * 6) = pksCells (l.eraseIdx i) ∧ Chg w w' (fun k => k = g) := by
  unfold maxLen at hm
  have h0 : cap ≠ 0 := by omega
  have h1 : n ≠ i := by omega
  have hii : ((i : Int) == (i : Int) + 1) = false := by rw [beq_eq_false_iff_ne]; omega
  have e1 : i + (n - (i + 1)) = n - 1 := by omega
  obtain ⟨i0, hi0, hz0, hz1, hz2⟩ := info_parts Try.infoPk
  -- what lies behind the element
  have S0 : Sl w (fun k => k = g) 23 6 (.slice (some ⟨g, off, none⟩) n cap) l.length (pksCells l) := ⟨pksCells_length l, .inr ⟨g, off, cap, cur, by rw [hl], rfl, hg, by omega, by unfold maxLen; omega, hcap, by rw [hl]; exact hx⟩⟩
  have S1 := S0.dropped (k := i + 1) (by omega)
  have hN1 : News w 6 (dropS (.slice (some ⟨g, off, none⟩) n cap) (i + 1) 6) (l.length - (i + 1)) ((pksCells l).drop ((i + 1) * 6)) := S1.news (fun u hu => pks_one l u (List.mem_of_mem_drop hu))
  rw [hl] at hN1
  have hrun := run_append_exact (P := Try.prog) (w := w.drew) 28 28 i0 6 under_pks hi0 hz1 (g := g) (cur := cur) hg (off := off) (n := i) (cap := cap) (m := n - (i + 1)) (x := dropS (.slice (some ⟨g, off, none⟩) n cap) (i + 1) 6) (news := (pksCells l).drop ((i + 1) * 6)) hN1 (by omega) hcap
  rw [e1] at hrun
  -- the row behind the append
  have hdl : ((pksCells l).drop ((i + 1) * 6)).length = (n - (i + 1)) * 6 := by rw [List.length_drop, pksCells_length, hl]; omega
  have hsz1 : (splice cur (off + i * 6) ((pksCells l).drop ((i + 1) * 6))).size = cur.size := splice_size _ _ _ (by rw [hdl]; omega)
  have hg2 : (w.drew.setRow g (splice cur (off + i * 6) ((pksCells l).drop ((i + 1) * 6)))).heap[g]? = some (.cells (splice cur (off + i * 6) ((pksCells l).drop ((i + 1) * 6))) 23 (0, 0)) := setRow_heap w.drew g cur _ 23 _ hg
  obtain ⟨W2, hW2⟩ : ∃ W2, W2 = w.drew.setRow g (splice cur (off + i * 6) ((pksCells l).drop ((i + 1) * 6))) := ⟨_, rfl⟩
  rw [← hW2] at hrun hg2
  have C2 : Chg w W2 (fun k => k = g) := by
    rw [hW2]
    exact ⟨rfl, rfl, rfl, by simp, fun k _ hk => setRow_other w.drew g k _ hk⟩
  have hxs0 : ((splice cur (off + i * 6) ((pksCells l).drop ((i + 1) * 6))).toList.drop off).take ((n - 1) * 6) = pksCells (l.eraseIdx i) := by
    have h := over_to cur.toList ((pksCells l).drop ((i + 1) * 6)) (off + i * 6) off (by omega) (by rw [Array.length_toList]; omega)
    have e2 : off + i * 6 - off + ((pksCells l).drop ((i + 1) * 6)).length = (n - 1) * 6 := by rw [hdl]; omega
    rw [e2] at h
    rw [splice_list, h, pks_erase, ← hx, List.take_take]
    congr 2; omega
  obtain ⟨c1, hc1⟩ : ∃ c1, c1 = splice cur (off + i * 6) ((pksCells l).drop ((i + 1) * 6)) := ⟨_, rfl⟩
  rw [← hc1] at hsz1 hg2 hxs0
  have hcs : cur.size = c1.size := hsz1.symm
  have hz : off + (n - 1) * 6 + (n - (n - 1)) * 6 ≤ c1.size := by omega
  obtain ⟨zs, hzl, hclr⟩ := run_clear_exact (P := Try.prog) (w := W2) 28 0 i0 _ 6 under_pks hi0 hz0 rfl (by omega) (by decide) hg2 (off := off + (n - 1) * 6) (n := n - (n - 1)) (cap := cap - (n - 1)) hz
  have hsz2 : (splice c1 (off + (n - 1) * 6) zs).size = cur.size := by rw [splice_size _ _ _ (by omega)]; exact hsz1
  have hxs : ((splice c1 (off + (n - 1) * 6) zs).toList.drop off).take ((n - 1) * 6) = pksCells (l.eraseIdx i) := by
    rw [splice_list, over_head _ _ _ _ _ (by omega) (by rw [Array.length_toList]; omega)]; exact hxs0
  have hg3 : (W2.setRow g (splice c1 (off + (n - 1) * 6) zs)).heap[g]? = some (.cells (splice c1 (off + (n - 1) * 6) zs) 23 (0, 0)) := setRow_heap W2 g c1 _ 23 _ hg2
  have C3 : Chg w (W2.setRow g (splice c1 (off + (n - 1) * 6) zs)) (fun k => k = g) :=
    C2.trans ⟨rfl, rfl, rfl, by simp, fun k _ hk => setRow_other W2 g k _ hk⟩ (fun _ _ h => h)
  have HRUN := Lib.hid hrun
  have HCLR := Lib.hid hclr
  have HSZ := Lib.hid hsz2
  have HXS := Lib.hid hxs
  have HG3 := Lib.hid hg3
  have HC3 := Lib.hid C3
  clear hg hx S0 S1 hN1 hrun hdl hsz1 hg2 hW2 C2 hxs0 hc1 hcs hz hzl hclr hsz2 hxs hg3 C3 e1 hi0 hz0 hz1 hz2 hl
  have hic : i ≤ cap := by omega
  have hin : i + 1 ≤ n := by omega
  have hin2 : (i : Int) + 1 ≤ n := by omega
  have hin3 : ((i : Int) + 1).toNat = i + 1 := by omega
  have hi0 : (0 : Int) ≤ (i : Int) + 1 := by omega
  by_cases hc : cap = i + 1
  · have hd : dropS (.slice (some ⟨g, off, none⟩) n cap) (i + 1) 6 = .slice (some ⟨g, off, none⟩) (n - (i + 1)) 0 := by simp [dropS, hc]
    rw [hd] at HRUN
    clear hd hi0 hin3 hin2 hin hic h0 h1
    obtain rfl : n = i + 1 := by omega
    subst hc
    have hii1 : (i : Int) ≤ (i : Int) + 1 := by omega
    have hii0 : (0 : Int) ≤ (i : Int) + 1 := by omega
    have hii3 : ((i : Int) + 1).toNat = i + 1 := by omega
    have hii4 : (i : Int) + 1 - 1 = i := by omega
    simp only [Nat.sub_self, Nat.add_sub_cancel, Nat.add_sub_cancel_left] at HRUN HCLR HG3 HSZ HXS HC3 ⊢
    clear hn hi
    go_enter Try.func49, Try.ntmps49
    go_wp2_with fail
    go_region_law (refine step_append_run rfl rfl rfl rfl HRUN.out ?_)
    all_goals
      go_wp2_with (refine wpList_clear_run rfl rfl rfl HCLR.out ?_)
      go_ret
      exact ⟨rfl, _, HG3.out, HSZ.out, HXS.out, HC3.out⟩
  · have hd : dropS (.slice (some ⟨g, off, none⟩) n cap) (i + 1) 6 = .slice (some ⟨g, off + (i + 1) * 6, none⟩) (n - (i + 1)) (cap - (i + 1)) := by simp [dropS, hc, Addr.add_lit]
    rw [hd] at HRUN
    clear hd
    go_enter Try.func49, Try.ntmps49
    go_wp2_with fail
    go_region_law (refine step_append_run rfl rfl rfl rfl HRUN.out ?_)
    all_goals
      have hcn : cap ≠ n - 1 := by omega
      go_wp2_with (refine wpList_clear_run rfl rfl rfl HCLR.out ?_)
      go_ret
      exact ⟨rfl, _, HG3.out, HSZ.out, HXS.out, HC3.out⟩
end Go.Proofs.Ytecpgkcoehnpbaa
