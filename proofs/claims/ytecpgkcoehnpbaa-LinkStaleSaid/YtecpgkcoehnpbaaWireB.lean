/- Layer 16: the walks of Lose, All, Send, Twice; slices.Clone at packets. -/
import Derived.Test.YtecpgkcoehnpbaaWireA
import Derived.Lib.SliceRun
namespace Go.Proofs.Ytecpgkcoehnpbaa
open Go.RowKit

set_option maxRecDepth 100000 in
set_option maxHeartbeats 800000 in
theorem wireLose_none (g : Nat) (l : List Pk) (F : Nat → Prop) (w : World) (h : WireAt w F g l) (i : Int) (hi : i < 0 ∨ (l.length : Int) ≤ i) : Calls Try.prog 31 #[.pointer (some ⟨g, 0, none⟩), .int .i64 i] w fun e w' =>
      e = .returned (.bool false) ∧ Below w.heap.size w w' := by
  have HT := Lib.hid (wireTake_none g l F w h i hi)
  clear h hi
  go_enter Try.func31, Try.ntmps31
  go_wp2_with fail
  refine HT.out.mono ?_
  rintro e w1 ⟨rfl, hb⟩
  have hz := hb.size
  have HB := Lib.hid hb
  clear hb
  go_wp2_with fail
  refine bodyPost_ret (v := .bool false) (by simp [results, Try.results31, go_sem, *]) rfl ⟨rfl, ?_⟩
  repeat (first | exact HB.out | refine bl_drewN ?_ _ | refine Below.drew ?_ | refine Below.setCell ?_ (by first | exact hz | (simp; omega)) _ | refine Below.alloc ?_ (by first | exact hz | (simp; omega)) _)

set_option maxRecDepth 100000 in
set_option maxHeartbeats 800000 in
theorem wireLose_some (g : Nat) (l : List Pk) (F : Nat → Prop) (w : World) (h : WireAt w F g l) (i : Nat) (p : Pk) (hi : l[i]? = some p) (hl : l.length ≤ 500) : Calls Try.prog 31 #[.pointer (some ⟨g, 0, none⟩), .int .i64 (i : Int)] w fun e w' =>
      e = .returned (.bool true) ∧ WireAt w' (fun k => F k ∧ k < w.heap.size) g (l.eraseIdx i) ∧ Chg w w' F := by
  have HT := Lib.hid (wireTake_some g l F w h i p hi hl)
  clear h hi
  go_enter Try.func31, Try.ntmps31
  go_wp2_with fail
  refine HT.out.mono ?_
  rintro e w1 ⟨rfl, h1, h2⟩
  have hz := h2.size
  have H1 := Lib.hid h1.wire
  have H2 := Lib.hid h2
  clear h1 h2
  go_wp2_with fail
  refine bodyPost_ret (v := .bool true) (by simp [results, Try.results31, go_sem, *]) rfl ⟨rfl, ?_, ?_⟩
  · refine H1.out.chg (S := fun k => w1.heap.size ≤ k) ?_ (fun k hk => by omega)
    refine Chg.of_below (B := w1.heap.size) ?_ _ (fun i _ h => h)
    repeat (first | exact Below.refl _ _ | refine bl_drewN ?_ _ | refine Below.drew ?_ | refine Below.setCell ?_ (by simp) _ | refine Below.alloc ?_ (by simp) _)
  · refine H2.out.trans (S := F) (T := fun _ => False) ?_ (fun _ _ h => absurd h id)
    refine Chg.of_below (B := w1.heap.size) ?_ _ (fun i h h' => by omega)
    repeat (first | exact Below.refl _ _ | refine bl_drewN ?_ _ | refine Below.drew ?_ | refine Below.setCell ?_ (by simp) _ | refine Below.alloc ?_ (by simp) _)

theorem under_pks' : Try.prog.underlying 28 = some (.slice (Try.prog.elem 28)) := by kernel_rfl
theorem sizePk : (Try.prog.info? (Try.prog.elem 28)).map (·.size) = some 6 := by kernel_rfl
theorem pks_nil (w : World) (ao : Option Addr) (n c : Nat) : Sem.run Try.prog (binOp .eql 28 (.slice ao n c) (.slice none 0 0)) w = .ok (.bool ao.isNone) w := Lib.run_eql_slice_nil w 28 23 ao n c 0 0 under_pks
theorem cell_alloc {w : World} {a : Addr} {u : Value} (h : w.cell? a = some u) (o : Obj) : (w.alloc o).cell? a = some u := by
  have hb : a.block < w.heap.size := block_lt_of_cell h
  rw [World.cell?_of_block (w := w) (Below.heap_alloc _ _ _ hb)]; exact h
set_option maxRecDepth 100000 in
set_option maxHeartbeats 800000 in
theorem clone_any (ao : Option Addr) (c : Nat) (l : List Pk) (w : World) (hx : News w 6 (.slice ao l.length c) l.length (pksCells l)) (hl : l.length ≤ 1000) :
    Calls Try.prog 46 #[.slice ao l.length c] w fun e w' => ∃ v, e = .returned v ∧ Sl w' (fun k => w.heap.size ≤ k) 23 6 v l.length (pksCells l) ∧ Chg w w' (fun _ => False) := by
  cases ao with
  | none =>
    have h0 : l.length = 0 := by
      obtain ⟨_, _, ao, c, e, h⟩ := hx
      cases e
      refine Nat.eq_zero_of_not_pos fun hp => ?_
      obtain ⟨a, ha, _⟩ := h hp
      cases ha
    obtain rfl : l = [] := List.eq_nil_of_length_eq_zero h0
    have hnil := fun w => pks_nil w none 0 c
    clear hx h0 hl
    go_enter Try.func46, Try.ntmps46
    go_wp2_with fail
    go_ret
    exact ⟨_, rfl, Sl.nil _ _ _ _, Chg.refl _ _⟩
  | some a =>
    have s0 : Sl (w.alloc (.cells #[] 23)) (fun k => k = w.heap.size) 23 6 (.slice (some ⟨w.heap.size, 0, none⟩) 0 0) ([] : List Pk).length (pksCells []) :=
      ⟨rfl, .inr ⟨w.heap.size, 0, 0, #[], rfl, rfl, heap_alloc_new w _, by simp, by unfold maxLen; omega, by simp, by simp [pksCells]⟩⟩
    have hx1 : News (w.alloc (.cells #[] 23)) 6 (.slice (some a) l.length c) l.length (pksCells l) := by
      obtain ⟨h1, h2, ao, c', e, h⟩ := hx
      refine ⟨h1, h2, ao, c', e, fun hp => ?_⟩
      obtain ⟨a', ha, hc⟩ := h hp
      exact ⟨a', ha, fun j u hj => cell_alloc (hc j u hj) _⟩
    obtain ⟨v', w', hrun, s1, c1⟩ := append_pks s0 hx1 (by simp; omega)
    have HRUN := Lib.hid hrun
    have S1 : Hid (Sl w' (fun k => w.heap.size ≤ k) 23 6 v' l.length (pksCells l)) := by
      have h := s1.mono (G := fun k => w.heap.size ≤ k) (fun k _ hk => by rcases hk with hk | hk <;> simp at hk <;> omega)
      rw [List.nil_append] at h
      exact h
    have C1 : Hid (Chg w w' (fun _ => False)) :=
      ((Chg.refl w (fun _ => False)).alloc _).trans c1 (fun k hk h => by simp [Value.ownBlock] at h; omega)
    clear hx hx1 s0 s1 c1 hrun
    generalize l.length = n at *
    have hnil := fun w => pks_nil w (some a) n c
    go_enter Try.func46, Try.ntmps46
    go_wp2_with (at_builtin; refine wpList_append_run rfl rfl rfl rfl HRUN.out ?_)
    go_ret
    exact ⟨_, rfl, S1.out, C1.out⟩
set_option maxRecDepth 100000 in
set_option maxHeartbeats 800000 in
theorem wireAll_any (g : Nat) (l : List Pk) (F : Nat → Prop) (w : World) (h : WireAt w F g l) (hl : l.length ≤ 1000) :
    Calls Try.prog 34 #[.pointer (some ⟨g, 0, none⟩)] w fun e w' => ∃ v, e = .returned v ∧ Sl w' (fun k => w.heap.size ≤ k) 23 6 v l.length (pksCells l) ∧ Chg w w' (fun _ => False) := by
  obtain ⟨ao, cap, _, _, h2, h3⟩ := h.cells
  have c0 : w.cell? ⟨g, 0, none⟩ = some (.slice ao l.length cap) := cell_at h2 rfl
  have HC := Lib.hid (clone_any ao cap l w (h3.news (pks_one l)) hl)
  clear h h2 h3
  generalize l.length = n at *
  go_enter Try.func34, Try.ntmps34
  go_wp2_with fail
  refine HC.out.mono ?_
  rintro e w1 ⟨v, rfl, h1, h2⟩
  have H1 := Lib.hid h1
  have H2 := Lib.hid h2
  clear h1 h2
  go_wp2_with fail
  go_ret
  exact ⟨_, rfl, H1.out, H2.out⟩

/-- the last 64 -/
def cutPks (l : List Pk) : List Pk := l.drop (l.length - 64)
theorem cutPks_length (l : List Pk) : (cutPks l).length = min l.length 64 := by simp [cutPks]; omega

set_option maxRecDepth 100000 in
set_option maxHeartbeats 1600000 in
theorem wireSend_any (g : Nat) (l l2 : List Pk) (F : Nat → Prop) (w : World) (h : WireAt w F g l) (x : Value) (hx : News w 6 x l2.length (pksCells l2)) (hl : l.length + l2.length ≤ 1000) :
    Calls Try.prog 23 #[.pointer (some ⟨g, 0, none⟩), x] w fun e w' => e = .returned (.tuple #[]) ∧ WireAt w' (fun k => (F k ∧ k < w.heap.size) ∨ w.heap.size ≤ k) g (cutPks (l ++ l2)) ∧ Chg w w' F := by
  obtain ⟨ao, cap, h4, h5, h2, h3⟩ := h.cells
  have hF := h.1
  have hg : g < w.heap.size := heap_lt h2
  have c0 : w.cell? ⟨g, 0, none⟩ = some (.slice ao l.length cap) := cell_at h2 rfl
  obtain ⟨v', w1, hrun, s1, ch1⟩ := append_pks h3 hx (by omega)
  have own : ∀ k, (Value.slice ao l.length cap).ownBlock = some k → F k ∧ k ≠ g := fun k hk => (own_lt h3 hk).1
  have g1 : w1.heap[g]? = some (.cells #[.slice ao l.length cap] 85 (0, 0)) := ch1.heap h2 (fun hk => (own g hk).2 rfl)
  have z1 := ch1.size
  have C1 : Chg w w1 F := ch1.mono (fun k _ hk => (own k hk).1)
  obtain ⟨ao1, cap1, rfl, h41, h51⟩ := s1.shape
  obtain ⟨W, hW⟩ : ∃ W, W = w1.setCell ⟨g, 0, none⟩ (.slice ao1 (l ++ l2).length cap1) := ⟨_, rfl⟩
  have gW : W.heap[g]? = some (.cells #[.slice ao1 (l ++ l2).length cap1] 85 (0, 0)) := by rw [hW]; exact heap_setCell_same (i := 0) g1 _
  have sW : Sl W (fun k => ((F k ∧ k < w.heap.size) ∨ w.heap.size ≤ k) ∧ k ≠ g) 23 6 (.slice ao1 (l ++ l2).length cap1) (l ++ l2).length (pksCells (l ++ l2)) := by
    rw [hW]
    refine (s1.mono (G := fun k => ((F k ∧ k < w.heap.size) ∨ w.heap.size ≤ k) ∧ k ≠ g) ?_).keep ?_
    · intro k _ hk
      rcases hk with ⟨⟨a, b⟩, c⟩ | hk
      · exact ⟨.inl ⟨a, c⟩, b⟩
      · exact ⟨.inr (by omega), by omega⟩
    · intro k hk _
      exact Below.heap_setCell _ _ _ _ hk.2
  have CW : Chg w W F := by rw [hW]; exact C1.setCell (fun _ => hF) _
  have cW : W.cell? ⟨g, 0, none⟩ = some (.slice ao1 (l ++ l2).length cap1) := cell_at gW rfl
  have fW := free_at gW 0
  have c1 : w1.cell? ⟨g, 0, none⟩ = some (.slice ao l.length cap) := cell_at g1 rfl
  have f1 := free_at g1 0
  have HRUN := Lib.hid hrun
  have zW := CW.size
  by_cases hc : (l ++ l2).length ≤ 64
  · have hcut : cutPks (l ++ l2) = l ++ l2 := by simp only [cutPks]; rw [show (l ++ l2).length - 64 = 0 by omega]; rfl
    have HWA : Hid (WireAt W (fun k => (F k ∧ k < w.heap.size) ∨ w.heap.size ≤ k) g (cutPks (l ++ l2))) := by rw [hcut]; exact ⟨.inl ⟨hF, hg⟩, _, gW, sW⟩
    have HCW := Lib.hid CW
    clear h h2 h3 hF s1 ch1 own g1 z1 C1 gW sW CW hrun hcut zW hx
    generalize (l ++ l2).length = n at *
    generalize l.length = m at *
    have e0 : IntKind.i64.wrap ((n : Int) - 64) = (n : Int) - 64 := IntWalk.i64_in _ (by omega)
    have e1 : ¬ (0 : Int) < (n : Int) - 64 := by omega
    go_enter Try.func23, Try.ntmps23
    go_wp2_with (at_builtin; refine wpList_append_run rfl rfl rfl rfl HRUN.out ?_)
    rw [← hW]
    go_wp2_with fail
    go_end0
    exact ⟨rfl, HWA.out, HCW.out⟩
  · have hbn : (l ++ l2).length ≤ 1000 := by rw [List.length_append]; exact hl
    have hlen : (cutPks (l ++ l2)).length = 64 := by rw [cutPks_length]; omega
    have hk : (l ++ l2).length - 64 ≤ (l ++ l2).length := by omega
    have hn64 : (l ++ l2).length - ((l ++ l2).length - 64) = 64 := by omega
    have sD := sW.dropped hk
    have hd : dropS (.slice ao1 (l ++ l2).length cap1) ((l ++ l2).length - 64) 6 = .slice (ao1.map (fun x => x.add (((l ++ l2).length - 64) * 6))) 64 (cap1 - ((l ++ l2).length - 64)) := by
      simp only [dropS, hn64]; rw [if_neg (by omega)]
    rw [hn64, ← pks_drop, hd] at sD
    change Sl W _ 23 6 _ 64 (pksCells (cutPks (l ++ l2))) at sD
    have hcl := clone_any (ao1.map (fun x => x.add (((l ++ l2).length - 64) * 6))) (cap1 - ((l ++ l2).length - 64)) (cutPks (l ++ l2)) W (by rw [hlen]; exact sD.news (pks_one _)) (by omega)
    rw [hlen] at hcl
    have HCL := Lib.hid hcl
    have HLEN := Lib.hid hlen
    have HCW := Lib.hid CW
    have HF := Lib.hid hF
    have HGW := Lib.hid gW
    have hkc : (((l ++ l2).length : Int) - 64).toNat = (l ++ l2).length - 64 := by omega
    have hne : cap1 ≠ (l ++ l2).length - 64 := by omega
    clear h h2 h3 hF s1 ch1 own g1 z1 C1 gW sW CW hrun hx hcl hlen hk sD hd
    generalize (l ++ l2).length = n at *
    generalize l.length = m at *
    have e0 : IntKind.i64.wrap ((n : Int) - 64) = (n : Int) - 64 := IntWalk.i64_in _ (by clear h5 h51 h41 h4; omega)
    have e1 : (0 : Int) < (n : Int) - 64 := by omega
    go_enter Try.func23, Try.ntmps23
    go_wp2_with (at_builtin; refine wpList_append_run rfl rfl rfl rfl HRUN.out ?_)
    rw [← hW]
    go_wp2_with fail
    refine HCL.out.mono ?_
    rintro e w3 ⟨v3, rfl, s3, c3⟩
    obtain ⟨ao3, cap3, rfl, _, _⟩ := s3.shape
    have g3 := c3.heap HGW.out (fun hk => hk)
    have f3 := free_at g3 0
    have d3 : w3.cell? ⟨g, 0, none⟩ = some (.slice ao1 n cap1) := cell_at g3 rfl
    have S3 := Lib.hid s3
    have C3 := Lib.hid c3
    have G3 := Lib.hid g3
    clear s3 c3 g3
    go_wp2_with fail
    go_end0
    refine ⟨rfl, ⟨.inl ⟨HF.out, hg⟩, _, heap_setCell_same (i := 0) G3.out _, ?_⟩, ?_⟩
    · rw [HLEN.out]
      refine (S3.out.mono (G := fun k => ((F k ∧ k < w.heap.size) ∨ w.heap.size ≤ k) ∧ k ≠ g) ?_).keep ?_
      · intro k _ hk
        exact ⟨.inr (by omega), by omega⟩
      · intro k hk _
        exact Below.heap_setCell _ _ _ _ hk.2
    · exact (HCW.out.trans C3.out (fun _ _ h => absurd h id)).setCell (fun _ => HF.out) _

set_option maxRecDepth 100000 in
set_option maxHeartbeats 800000 in
theorem wireTwice_none (g : Nat) (l : List Pk) (F : Nat → Prop) (w : World) (h : WireAt w F g l) (i : Int) (hi : i < 0 ∨ (l.length : Int) ≤ i) : Calls Try.prog 27 #[.pointer (some ⟨g, 0, none⟩), .int .i64 i] w fun e w' =>
      e = .returned (.bool false) ∧ w = w' := by
  have HT := Lib.hid (there_no g l F _ h i hi)
  clear h hi
  go_enter Try.func27, Try.ntmps27
  go_wp2_with fail
  refine HT.out.mono ?_
  rintro e w1 ⟨rfl, rfl⟩
  go_wp2_with fail
  go_ret
  exact ⟨rfl, rfl⟩

/-- what one element of a wire is in memory -/
theorem pk_cells {w : World} {F : Nat → Prop} {n : Nat} {l : List Pk} {b off cap : Nat} (h : Sl w F 23 6 (.slice (some ⟨b, off, none⟩) n cap) l.length (pksCells l)) {i : Nat} {p : Pk} (hi : l[i]? = some p) :
    ∀ j u, (pkCells p)[j]? = some u → w.cell? ⟨b, off + i * 6 + j, none⟩ = some u := by
  intro j u hj
  have hil : i < l.length := (List.getElem?_eq_some_iff.1 hi).1
  obtain ⟨g, off', cap', hv, _, _, _, _, hc⟩ := h.at (by omega)
  cases hv
  have hjl : j < 6 := by
    have := (List.getElem?_eq_some_iff.1 hj).1
    simpa [pkCells] using this
  have e1 : (pksCells l)[i * 6 + j]? = some u := by
    have : pksCells l = pksCells (l.take i) ++ (pkCells p ++ pksCells (l.drop (i + 1))) := by
      have e : l = l.take i ++ p :: l.drop (i + 1) := by
        obtain ⟨hlt, rfl⟩ := List.getElem?_eq_some_iff.1 hi
        rw [← List.drop_eq_getElem_cons hlt, List.take_append_drop]
      conv => lhs; rw [e]
      simp [pksCells]
    rw [this, List.getElem?_append_right (by rw [pksCells_length, List.length_take]; omega), pksCells_length, List.length_take, show i * 6 + j - min i l.length * 6 = j by rw [Nat.min_eq_left (by omega)]; omega, List.getElem?_append_left (by simpa [pkCells] using hjl)]
    exact hj
  have := (hc _ _ e1).1
  rw [← Nat.add_assoc] at this
  exact this

set_option maxRecDepth 100000 in
set_option maxHeartbeats 1600000 in
theorem wireTwice_some (g : Nat) (l : List Pk) (F : Nat → Prop) (w : World) (h : WireAt w F g l) (i : Nat) (p : Pk) (hi : l[i]? = some p) (hl : l.length ≤ 500) : Calls Try.prog 27 #[.pointer (some ⟨g, 0, none⟩), .int .i64 (i : Int)] w fun e w' =>
      e = .returned (.bool true) ∧ WireAt w' (fun k => (F k ∧ k < w.heap.size) ∨ w.heap.size ≤ k) g (cutPks (l ++ [p])) ∧ Chg w w' F := by
  have hil : i < l.length := (List.getElem?_eq_some_iff.1 hi).1
  have HT := Lib.hid (there_yes g l F w h i hil)
  have hm := h.mono (G := fun k => F k ∧ k < w.heap.size) (fun k a b => ⟨b, a⟩)
  have h1 : WireAt (w.alloc (pkObj p)) (fun k => F k ∧ k < w.heap.size) g l := hm.chg ((Chg.refl w (fun k => ¬ k < w.heap.size)).alloc _) (fun k hk hn => hn hk.2)
  have hnews := News.pk (c := 1) p (heap_alloc_new w (pkObj p))
  have hs := wireSend_any g l [p] _ _ h1 _ hnews (by simp; omega)
  have HS := Lib.hid hs
  obtain ⟨ao, cap, h4, h5, h2, h3⟩ := h.cells
  obtain ⟨b, off, cap', hv, _, _, _, _, _⟩ := h3.at (by omega)
  cases hv
  have hcell := pk_cells h3 hi
  have q0 := hcell 0 (.int .i64 p.ch) rfl
  have q1 := hcell 1 (.int .i64 p.back) rfl
  have q2 := hcell 2 (.int .i64 p.inc) rfl
  have q3 := hcell 3 (.int .i64 p.seq) rfl
  have q4 := hcell 4 (.int .i64 p.ack) rfl
  have q5 := hcell 5 (.string p.load) rfl
  simp only [Nat.add_zero] at q0
  have c0 : w.cell? ⟨g, 0, none⟩ = some (.slice (some ⟨b, off, none⟩) l.length cap) := cell_at h2 rfl
  have hil2 : (i : Int) < (l.length : Int) := by omega
  have HL := Lib.hid hl
  clear h hm h1 hnews hs h2 h3 hcell hi
  generalize l.length = n at *
  go_enter Try.func27, Try.ntmps27
  go_wp2_with fail
  refine HT.out.mono ?_
  rintro e w1 ⟨rfl, rfl⟩
  go_wp2_with fail
  refine HS.out.mono ?_
  rintro e w1 ⟨rfl, h6, h7⟩
  have H6 := Lib.hid h6
  have H7 := Lib.hid h7
  clear h6 h7
  go_wp2_with fail
  go_ret
  refine ⟨rfl, H6.out.mono ?_, ?_⟩
  · intro k _ hk
    simp only [World.size_alloc] at hk
    rcases hk with hk | hk
    · exact .inl hk.1
    · exact .inr (by omega)
  · exact ((Chg.refl w F).alloc (pkObj p)).trans H7.out (fun k _ hk => hk.1)
end Go.Proofs.Ytecpgkcoehnpbaa
