/- Layer 16: what a wire is in memory; the walks of its small functions. -/
import Derived.Test.YtecpgkcoehnpbaaDelete
namespace Go.Proofs.Ytecpgkcoehnpbaa
open Go.RowKit

/-- a wire in memory -/
def WireAt (w : World) (F : Nat → Prop) (g : Nat) (l : List Pk) : Prop :=
  F g ∧ ∃ v, w.heap[g]? = some (.cells #[v] 85 (0, 0)) ∧ Sl w (fun k => F k ∧ k ≠ g) 23 6 v l.length (pksCells l)
/-- a wire whose row has room for one more -/
def WireRow (w : World) (F : Nat → Prop) (g : Nat) (l : List Pk) : Prop :=
  F g ∧ ∃ b off cap cur, w.heap[g]? = some (.cells #[.slice (some ⟨b, off, none⟩) l.length cap] 85 (0, 0)) ∧ F b ∧ b ≠ g ∧ w.heap[b]? = some (.cells cur 23 (0, 0)) ∧ l.length < cap ∧ cap ≤ maxLen ∧ off + cap * 6 ≤ cur.size ∧
    (cur.toList.drop off).take (l.length * 6) = pksCells l
theorem WireRow.wire {w : World} {F : Nat → Prop} {g : Nat} {l : List Pk} (h : WireRow w F g l) : WireAt w F g l := by
  obtain ⟨h1, b, off, cap, cur, h2, h3, h4, h5, h6, h7, h8, h9⟩ := h
  exact ⟨h1, _, h2, pksCells_length l, .inr ⟨b, off, cap, cur, rfl, ⟨h3, h4⟩, h5, by omega, h7, h8, h9⟩⟩
theorem WireAt.chg {w w' : World} {F S : Nat → Prop} {g : Nat} {l : List Pk} (h : WireAt w F g l) (hc : Chg w w' S) (hs : ∀ k, F k → ¬ S k) : WireAt w' F g l := by
  obtain ⟨h1, v, h2, h3⟩ := h
  exact ⟨h1, v, hc.heap h2 (hs g h1), h3.chg hc (fun k hk => hs k hk.1)⟩
theorem WireAt.mono {w : World} {F G : Nat → Prop} {g : Nat} {l : List Pk} (h : WireAt w F g l) (hs : ∀ k, k < w.heap.size → F k → G k) : WireAt w G g l := by
  obtain ⟨h1, v, h2, h3⟩ := h
  exact ⟨hs g (heap_lt h2) h1, v, h2, h3.mono (fun k hl hk => ⟨hs k hl hk.1, hk.2⟩)⟩
theorem WireAt.cells {w : World} {F : Nat → Prop} {g : Nat} {l : List Pk} (h : WireAt w F g l) : ∃ ao cap, l.length ≤ cap ∧ cap ≤ maxLen ∧ w.heap[g]? = some (.cells #[.slice ao l.length cap] 85 (0, 0)) ∧
    Sl w (fun k => F k ∧ k ≠ g) 23 6 (.slice ao l.length cap) l.length (pksCells l) := by
  obtain ⟨_, v, h2, h3⟩ := h
  obtain ⟨ao, cap, rfl, h4, h5⟩ := h3.shape
  exact ⟨ao, cap, h4, h5, h2, h3⟩

set_option maxHeartbeats 400000 in
theorem wireNew_any (w : World) : Calls Try.prog 22 #[] w fun e w' => e = .returned (.pointer (some ⟨w.heap.size, 0, none⟩)) ∧ w.alloc (.cells #[.slice none 0 0] 85) = w' := by
  go_enter Try.func22, Try.ntmps22
  go_wp2
  go_ret
  exact ⟨rfl, rfl⟩
set_option maxHeartbeats 400000 in
theorem wireLen_any (g : Nat) (l : List Pk) (F : Nat → Prop) (w : World) (h : WireAt w F g l) : Calls Try.prog 26 #[.pointer (some ⟨g, 0, none⟩)] w fun e w' => e = .returned (.int .i64 (l.length : Nat)) ∧ w = w' := by
  obtain ⟨ao, cap, _, _, h2, _⟩ := h.cells
  have c0 : w.cell? ⟨g, 0, none⟩ = some (.slice ao l.length cap) := cell_at h2 rfl
  clear h h2
  generalize l.length = n at *
  go_enter Try.func26, Try.ntmps26
  go_wp2
  go_ret
  exact ⟨rfl, rfl⟩
set_option maxHeartbeats 400000 in
theorem there_yes (g : Nat) (l : List Pk) (F : Nat → Prop) (w : World) (h : WireAt w F g l) (i : Nat) (hi : i < l.length) : Calls Try.prog 48 #[.pointer (some ⟨g, 0, none⟩), .int .i64 (i : Int)] w fun e w' => e = .returned (.bool true) ∧ w = w' := by
  obtain ⟨ao, cap, _, _, h2, _⟩ := h.cells
  have c0 : w.cell? ⟨g, 0, none⟩ = some (.slice ao l.length cap) := cell_at h2 rfl
  clear h h2
  generalize l.length = n at *
  go_enter Try.func48, Try.ntmps48
  go_wp2
  go_ret
  exact ⟨rfl, rfl⟩
set_option maxHeartbeats 400000 in
theorem there_no (g : Nat) (l : List Pk) (F : Nat → Prop) (w : World) (h : WireAt w F g l) (i : Int) (hi : i < 0 ∨ (l.length : Int) ≤ i) : Calls Try.prog 48 #[.pointer (some ⟨g, 0, none⟩), .int .i64 i] w fun e w' => e = .returned (.bool false) ∧ w = w' := by
  obtain ⟨ao, cap, _, _, h2, _⟩ := h.cells
  have c0 : w.cell? ⟨g, 0, none⟩ = some (.slice ao l.length cap) := cell_at h2 rfl
  clear h h2
  generalize l.length = n at *
  by_cases h0 : i < 0
  · clear hi
    go_enter Try.func48, Try.ntmps48
    go_wp2
    go_ret
    exact ⟨rfl, rfl⟩
  · have h1 : decide (i < (n : Int)) = false := by simp; omega
    have h2 : (0 : Int) ≤ i := by omega
    clear hi h0
    go_enter Try.func48, Try.ntmps48
    go_wp2
    go_ret
    exact ⟨rfl, rfl⟩
set_option maxHeartbeats 400000 in
theorem wireClear_any (g : Nat) (l : List Pk) (F : Nat → Prop) (w : World) (h : WireAt w F g l) : Calls Try.prog 32 #[.pointer (some ⟨g, 0, none⟩)] w fun e w' => e = .returned (.tuple #[]) ∧ WireAt w' F g [] ∧ Chg w w' F := by
  obtain ⟨ao, cap, _, _, h2, h3⟩ := h.cells
  have hF := Lib.hid h.1
  have c0 : w.cell? ⟨g, 0, none⟩ = some (.slice ao l.length cap) := cell_at h2 rfl
  have f0 := free_at h2 0
  have H2 := Lib.hid h2
  clear h h2 h3
  go_enter Try.func32, Try.ntmps32
  go_wp2
  go_end0
  exact ⟨rfl, ⟨hF.out, _, heap_setCell_same (i := 0) H2.out _, Sl.nil _ _ _ _⟩, (Chg.refl w F).setCell (fun _ => hF.out) _⟩

def zeroPk : Pk := ⟨0, 0, 0, 0, 0, ByteArray.empty⟩
set_option maxRecDepth 100000 in
set_option maxHeartbeats 800000 in
theorem wireTake_none (g : Nat) (l : List Pk) (F : Nat → Prop) (w : World) (h : WireAt w F g l) (i : Int) (hi : i < 0 ∨ (l.length : Int) ≤ i) : Calls Try.prog 25 #[.pointer (some ⟨g, 0, none⟩), .int .i64 i] w fun e w' =>
      e = .returned (.tuple #[.agg #[.int .i64 0, .int .i64 0, .int .i64 0, .int .i64 0, .int .i64 0, .string ByteArray.empty], .bool false]) ∧ Below w.heap.size w w' := by
  have h1 : WireAt (w.alloc (.cells #[.int .i64 0, .int .i64 0, .int .i64 0, .int .i64 0, .int .i64 0, .string { data := #[] }] 23)) F g l := h.chg ((Chg.refl w (fun _ => False)).alloc _) (fun _ _ h => h)
  have HT := Lib.hid (there_no g l F _ h1 i hi)
  clear h h1 hi
  go_enter Try.func25, Try.ntmps25
  go_wp2_with fail
  refine HT.out.mono ?_
  rintro e w1 ⟨rfl, rfl⟩
  go_wp2_with fail
  refine bodyPost_ret (v := .tuple #[.agg #[.int .i64 0, .int .i64 0, .int .i64 0, .int .i64 0, .int .i64 0, .string ByteArray.empty], .bool false]) (by simp [results, Try.results25, go_sem]; rfl) rfl ⟨rfl, ?_⟩
  repeat (first | exact Below.refl _ _ | refine bl_drewN ?_ _ | refine Below.drew ?_ | refine Below.setCell ?_ (by first | exact Nat.le_refl _ | simp) _ | refine Below.alloc ?_ (by first | exact Nat.le_refl _ | simp) _)

set_option maxRecDepth 100000 in
set_option maxHeartbeats 1600000 in
theorem wireTake_some (g : Nat) (l : List Pk) (F : Nat → Prop) (w : World) (h : WireAt w F g l) (i : Nat) (p : Pk) (hi : l[i]? = some p) (hl : l.length ≤ 500) : Calls Try.prog 25 #[.pointer (some ⟨g, 0, none⟩), .int .i64 (i : Int)] w fun e w' =>
      e = .returned (.tuple #[.agg #[.int .i64 p.ch, .int .i64 p.back, .int .i64 p.inc, .int .i64 p.seq, .int .i64 p.ack, .string p.load], .bool true]) ∧ WireRow w' (fun k => F k ∧ k < w.heap.size) g (l.eraseIdx i) ∧ Chg w w' F := by
  have hil : i < l.length := (List.getElem?_eq_some_iff.1 hi).1
  have h := h.mono (G := fun k => F k ∧ k < w.heap.size) (fun k a b => ⟨b, a⟩)
  have h1 : WireAt (w.alloc (.cells #[.int .i64 0, .int .i64 0, .int .i64 0, .int .i64 0, .int .i64 0, .string { data := #[] }] 23)) (fun k => F k ∧ k < w.heap.size) g l := h.chg ((Chg.refl w (fun _ => False)).alloc _) (fun _ _ h => h)
  have HT := Lib.hid (there_yes g l _ _ h1 i hil)
  obtain ⟨hF, v, h2, h3⟩ := h
  rcases h3.2 with ⟨_, h0⟩ | ⟨b, off, cap, cur, rfl, ⟨hb1, hb2⟩, hb3, h4, h5, h6, h7⟩
  · omega
  have hg : g < w.heap.size := heap_lt h2
  have hbl : b < w.heap.size := heap_lt hb3
  have hcell : ∀ j u, (pkCells p)[j]? = some u → w.cell? ⟨b, off + i * 6 + j, none⟩ = some u := by
    intro j u hj
    have hjl : j < 6 := by
      have := (List.getElem?_eq_some_iff.1 hj).1
      simpa [pkCells] using this
    refine cell_at hb3 ?_
    have e1 : (pksCells l)[i * 6 + j]? = some u := by
      have : pksCells l = pksCells (l.take i) ++ (pkCells p ++ pksCells (l.drop (i + 1))) := by
        have e : l = l.take i ++ p :: l.drop (i + 1) := by
          obtain ⟨hlt, rfl⟩ := List.getElem?_eq_some_iff.1 hi
          rw [← List.drop_eq_getElem_cons hlt, List.take_append_drop]
        conv => lhs; rw [e]
        simp [pksCells]
      rw [this, List.getElem?_append_right (by rw [pksCells_length, List.length_take]; omega), pksCells_length, List.length_take, show i * 6 + j - min i l.length * 6 = j by rw [Nat.min_eq_left (by omega)]; omega, List.getElem?_append_left (by simpa [pkCells] using hjl)]
      exact hj
    rw [← h7, List.getElem?_take, if_pos (by omega), List.getElem?_drop] at e1
    rw [Nat.add_assoc]
    simpa using e1
  have q0 := hcell 0 (.int .i64 p.ch) rfl
  have q1 := hcell 1 (.int .i64 p.back) rfl
  have q2 := hcell 2 (.int .i64 p.inc) rfl
  have q3 := hcell 3 (.int .i64 p.seq) rfl
  have q4 := hcell 4 (.int .i64 p.ack) rfl
  have q5 := hcell 5 (.string p.load) rfl
  simp only [Nat.add_zero] at q0
  have c0 : w.cell? ⟨g, 0, none⟩ = some (.slice (some ⟨b, off, none⟩) l.length cap) := cell_at h2 rfl
  obtain ⟨W, hW⟩ : ∃ W, W = (w.alloc (.cells #[.int .i64 0, .int .i64 0, .int .i64 0, .int .i64 0, .int .i64 0, .string { data := #[] }] 23)).alloc (.cells #[.int .i64 p.ch, .int .i64 p.back, .int .i64 p.inc, .int .i64 p.seq, .int .i64 p.ack, .string p.load] 23) := ⟨_, rfl⟩
  have wg : W.heap[g]? = some (.cells #[.slice (some ⟨b, off, none⟩) l.length cap] 85 (0, 0)) := by rw [hW]; exact heap_alloc_same (heap_alloc_same h2 _) _
  have wb : W.heap[b]? = some (.cells cur 23 (0, 0)) := by rw [hW]; exact heap_alloc_same (heap_alloc_same hb3 _) _
  have wr : W.heap[w.heap.size]? = some (.cells #[.int .i64 0, .int .i64 0, .int .i64 0, .int .i64 0, .int .i64 0, .string { data := #[] }] 23 (0, 0)) := by rw [hW]; exact heap_alloc_same (heap_alloc_new w _) _
  have wp : W.heap[w.heap.size + 1]? = some (.cells #[.int .i64 p.ch, .int .i64 p.back, .int .i64 p.inc, .int .i64 p.seq, .int .i64 p.ack, .string p.load] 23 (0, 0)) := by
    rw [hW]; have := heap_alloc_new (w.alloc (.cells #[.int .i64 0, .int .i64 0, .int .i64 0, .int .i64 0, .int .i64 0, .string { data := #[] }] 23)) (.cells #[.int .i64 p.ch, .int .i64 p.back, .int .i64 p.inc, .int .i64 p.seq, .int .i64 p.ack, .string p.load] 23); simp only [World.size_alloc] at this; exact this
  have CW : Chg w W F := by rw [hW]; exact ((Chg.refl w F).alloc _).alloc _
  have HD := Lib.hid (delete_any b off l.length cap i cur l W wb h4 h6 h5 (by omega) hil rfl h7)
  rw [hW] at HD
  have HWG := Lib.hid wg
  have HWR := Lib.hid wr
  have HWP := Lib.hid wp
  have HCW := Lib.hid CW
  have HFF := Lib.hid hF
  have HBB := Lib.hid hb1
  have HNE := Lib.hid hb2
  have HWW := Lib.hid hW
  clear h1 h3 hcell wg wb wr wp CW hF hb1 hb2 hW
  go_enter Try.func25, Try.ntmps25
  go_wp2_with fail
  refine HT.out.mono ?_
  rintro e w1 ⟨rfl, rfl⟩
  have hil2 : (i : Int) < (l.length : Int) := by omega
  have hi1 : IntKind.i64.wrap ((i : Int) + 1) = (i : Int) + 1 := IntWalk.i64_in _ (by omega)
  clear hi h7 h2 hb3
  go_wp2_with fail
  refine HD.out.mono ?_
  intro e w3 hD
  obtain ⟨rfl, cur', d1, d2, d3, d4⟩ := hD
  rw [← HWW.out] at d4
  have hg3 := d4.heap HWG.out (fun hk => HNE.out hk.symm)
  have hr3 := d4.heap HWR.out (show ¬ w.heap.size = b by omega)
  have hp3 := d4.heap HWP.out (show ¬ w.heap.size + 1 = b by omega)
  have c0 : w3.cell? ⟨g, 0, none⟩ = some (.slice (some ⟨b, off, none⟩) l.length cap) := cell_at hg3 rfl
  have f0 := free_at hg3 0
  have r0 : w3.cell? ⟨w.heap.size, 0, none⟩ = some (.int .i64 0) := cell_at hr3 rfl
  have r1 : w3.cell? ⟨w.heap.size, 1, none⟩ = some (.int .i64 0) := cell_at hr3 rfl
  have r2 : w3.cell? ⟨w.heap.size, 2, none⟩ = some (.int .i64 0) := cell_at hr3 rfl
  have r3 : w3.cell? ⟨w.heap.size, 3, none⟩ = some (.int .i64 0) := cell_at hr3 rfl
  have r4 : w3.cell? ⟨w.heap.size, 4, none⟩ = some (.int .i64 0) := cell_at hr3 rfl
  have r5 : w3.cell? ⟨w.heap.size, 5, none⟩ = some (.string { data := #[] }) := cell_at hr3 rfl
  have k0 : w3.cell? ⟨w.heap.size + 1, 0, none⟩ = some (.int .i64 p.ch) := cell_at hp3 rfl
  have k1 : w3.cell? ⟨w.heap.size + 1, 1, none⟩ = some (.int .i64 p.back) := cell_at hp3 rfl
  have k2 : w3.cell? ⟨w.heap.size + 1, 2, none⟩ = some (.int .i64 p.inc) := cell_at hp3 rfl
  have k3 : w3.cell? ⟨w.heap.size + 1, 3, none⟩ = some (.int .i64 p.seq) := cell_at hp3 rfl
  have k4 : w3.cell? ⟨w.heap.size + 1, 4, none⟩ = some (.int .i64 p.ack) := cell_at hp3 rfl
  have k5 : w3.cell? ⟨w.heap.size + 1, 5, none⟩ = some (.string p.load) := cell_at hp3 rfl
  have fr := free_at hr3
  have fr0 := fr 0
  have fr1 := fr 1
  have fr2 := fr 2
  have fr3 := fr 3
  have fr4 := fr 4
  have fr5 := fr 5
  have D1 := Lib.hid d1
  have D2 := Lib.hid d2
  have D3 := Lib.hid d3
  have HC3 : Hid (Chg w w3 F) := HCW.out.trans d4 (fun k _ hk => by rw [hk]; exact HBB.out.1)
  have G3 := Lib.hid hg3
  clear q0 q1 q2 q3 q4 q5 d1 d2 d3 d4 fr hg3 hr3 hp3
  go_wp2_with fail
  refine bodyPost_ret (v := .tuple #[.agg #[.int .i64 p.ch, .int .i64 p.back, .int .i64 p.inc, .int .i64 p.seq, .int .i64 p.ack, .string p.load], .bool true]) (by simp [results, Try.results25, go_sem, *]) rfl ⟨rfl, ?_, ?_⟩
  · have el : (l.eraseIdx i).length = l.length - 1 := List.length_eraseIdx_of_lt hil
    refine ⟨⟨HFF.out.1, hg⟩, b, off, cap, cur', ?_, HBB.out, HNE.out, ?_, by rw [el]; omega, h5, by rw [D2.out]; exact h6, by rw [el]; exact D3.out⟩
    · rw [el]
      have e0 := heap_setCell_same (i := 0) G3.out (.slice (some ⟨b, off, none⟩) (l.length - 1) cap)
      iterate 6 refine heap_setCell_other ?_ (show g ≠ w.heap.size by omega) _
      exact e0
    · iterate 6 refine heap_setCell_other ?_ (show b ≠ w.heap.size by omega) _
      refine heap_setCell_other ?_ HNE.out _
      exact D1.out
  · iterate 6 refine Chg.setCell ?_ (fun hk => absurd hk (Nat.lt_irrefl _)) _
    exact HC3.out.setCell (fun _ => HFF.out.1) _
end Go.Proofs.Ytecpgkcoehnpbaa
