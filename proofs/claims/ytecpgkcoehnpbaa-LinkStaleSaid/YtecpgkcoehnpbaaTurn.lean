/- Layer 16: the walk of Turn. -/
import Derived.Test.YtecpgkcoehnpbaaInsert
import Derived.Deep.RegionWith
import Derived.Test.YtecpgkcoehnpbaaAnyTo
namespace Go.Proofs.Ytecpgkcoehnpbaa
open Go.RowKit

set_option maxRecDepth 100000 in
set_option maxHeartbeats 800000 in
theorem wireTurn_none (g : Nat) (l : List Pk) (F : Nat → Prop) (w : World) (h : WireAt w F g l) (i to : Int) (hi : i < 0 ∨ (l.length : Int) ≤ i) : Calls Try.prog 24 #[.pointer (some ⟨g, 0, none⟩), .int .i64 i, .int .i64 to] w fun e w' =>
      e = .returned (.bool false) ∧ Below w.heap.size w w' := by
  have HT := Lib.hid (wireTake_none g l F w h i hi)
  clear h hi
  go_enter Try.func24, Try.ntmps24
  go_wp2_with fail
  refine HT.out.mono ?_
  rintro e w1 ⟨rfl, hb⟩
  have hz := hb.size
  have HB := Lib.hid hb
  clear hb
  go_wp2_with fail
  refine bodyPost_ret (v := .bool false) (by simp [results, Try.results24, go_sem, *]) rfl ⟨rfl, ?_⟩
  repeat (first | exact HB.out | refine bl_drewN ?_ _ | refine Below.drew ?_ | refine Below.setCell ?_ (by first | exact hz | (simp; omega)) _ | refine Below.alloc ?_ (by first | exact hz | (simp; omega)) _)

/-- slices.Insert at one packet, where there is room -/
theorem insert_any (b off n cap r i : Nat) (cur : Array Value) (l : List Pk) (p : Pk) (w : World) (hg : w.heap[b]? = some (.cells cur 23 (0, 0))) (hn : n < cap) (hcap : off + cap * 6 ≤ cur.size) (hm : cap ≤ maxLen) (hs : n ≤ 1000)
    (hl : l.length = n) (hx : (cur.toList.drop off).take (n * 6) = pksCells l) (hr : w.heap[r]? = some (pkObj p)) (hi : i ≤ n) (hrb : r ≠ b) :
    Calls Try.prog 47 #[.slice (some ⟨b, off, none⟩) n cap, .int .i64 (i : Int), .slice (some ⟨r, 0, none⟩) 1 1] w fun e w' => e = .returned (.slice (some ⟨b, off, none⟩) (n + 1) cap) ∧
      ∃ cur', w'.heap[b]? = some (.cells cur' 23 (0, 0)) ∧ cur'.size = cur.size ∧ (cur'.toList.drop off).take ((n + 1) * 6) = pksCells (insPk l i p) ∧ Chg w w' (fun k => k = b) := by
  by_cases h : i < n
  · exact insert_mid b off n cap r i cur l p w hg hn hcap hm hs hl hx hr h hrb
  · obtain rfl : i = n := by omega
    exact insert_end b off i cap r cur l p w hg hn hcap hm hs hl hx hr

/-- where a packet goes -/
def turnTo (to : Int) (n : Nat) : Nat := if to < 0 then 0 else if (n : Int) ≤ to then n else to.toNat
theorem turnTo_le (to : Int) (n : Nat) : turnTo to n ≤ n := by unfold turnTo; split <;> (try split) <;> omega

set_option maxRecDepth 100000 in
set_option maxHeartbeats 1600000 in
theorem wireTurn_some (g : Nat) (l : List Pk) (F : Nat → Prop) (w : World) (h : WireAt w F g l) (i : Nat) (to : Int) (p : Pk) (hi : l[i]? = some p) (hl : l.length ≤ 500) : Calls Try.prog 24 #[.pointer (some ⟨g, 0, none⟩), .int .i64 (i : Int), .int .i64 to] w fun e w' =>
      e = .returned (.bool true) ∧ WireAt w' (fun k => F k ∧ k < w.heap.size) g (insPk (l.eraseIdx i) (turnTo to (l.length - 1)) p) ∧ Chg w w' F := by
  have HT := Lib.hid (wireTake_some g l F w h i p hi hl)
  have hil : i < l.length := (List.getElem?_eq_some_iff.1 hi).1
  have hel : (l.eraseIdx i).length = l.length - 1 := List.length_eraseIdx_of_lt hil
  obtain ⟨l', hl'⟩ : ∃ l', l' = l.eraseIdx i := ⟨_, rfl⟩
  rw [← hl'] at hel HT ⊢
  rw [← hel]
  have hl5 : l'.length ≤ 500 := by omega
  clear h hi hl' hel
  obtain ⟨m, hm⟩ : ∃ m, m = turnTo to l'.length := ⟨_, rfl⟩
  have hml : m ≤ l'.length := by rw [hm]; exact turnTo_le _ _
  obtain ⟨q, hq⟩ : ∃ q : Int, (if to < 0 then 0 else to) = q := ⟨_, rfl⟩
  have hqm : (if (l'.length : Int) < q then (l'.length : Int) else q) = ((m : Nat) : Int) := by
    rw [← hq, hm]; unfold turnTo; split <;> split <;> (try split) <;> omega
  rw [← hm]
  have HQ := Lib.hid hq
  have HQM := Lib.hid hqm
  clear hm hq hqm
  go_enter Try.func24, Try.ntmps24
  go_wp2_with fail
  refine HT.out.mono ?_
  rintro e w1 ⟨rfl, h1, h2⟩
  have hz := h2.size
  obtain ⟨⟨hF, hg⟩, b, off, cap, cur, h3, ⟨h4, h4b⟩, h5, h6, h7, h8, h9, h10⟩ := h1
  have HC := Lib.hid h2
  have H3 := Lib.hid h3
  have H6 := Lib.hid h6
  have H10 := Lib.hid h10
  clear h2 h3 h6 h10
  have hgk : g ≠ w1.heap.size := by omega
  have hbk : b ≠ w1.heap.size := by omega
  go_wp2_with fail
  obtain ⟨w2, hW⟩ : ∃ w2, w1.alloc (.cells #[.int .i64 p.ch, .int .i64 p.back, .int .i64 p.inc, .int .i64 p.seq, .int .i64 p.ack, .string p.load] 23) = w2 := ⟨_, rfl⟩
  rw [hW]
  have gW : w2.heap[g]? = some (.cells #[.slice (some ⟨b, off, none⟩) l'.length cap] 85 (0, 0)) := by rw [← hW]; exact heap_alloc_same H3.out _
  have bW : w2.heap[b]? = some (.cells cur 23 (0, 0)) := by rw [← hW]; exact heap_alloc_same H6.out _
  have kW : w2.heap[w1.heap.size]? = some (pkObj p) := by rw [← hW]; exact heap_alloc_new w1 _
  have CW : Chg w1 w2 (fun _ => False) := by rw [← hW]; exact (Chg.refl w1 _).alloc _
  have c0 : w2.cell? ⟨g, 0, none⟩ = some (.slice (some ⟨b, off, none⟩) l'.length cap) := cell_at gW rfl
  have f0 := free_at gW 0
  have r0 : w2.cell? ⟨w1.heap.size, 0, none⟩ = some (.int .i64 p.ch) := cell_at kW rfl
  have r1 : w2.cell? ⟨w1.heap.size, 1, none⟩ = some (.int .i64 p.back) := cell_at kW rfl
  have r2 : w2.cell? ⟨w1.heap.size, 2, none⟩ = some (.int .i64 p.inc) := cell_at kW rfl
  have r3 : w2.cell? ⟨w1.heap.size, 3, none⟩ = some (.int .i64 p.seq) := cell_at kW rfl
  have r4 : w2.cell? ⟨w1.heap.size, 4, none⟩ = some (.int .i64 p.ack) := cell_at kW rfl
  have r5 : w2.cell? ⟨w1.heap.size, 5, none⟩ = some (.string p.load) := cell_at kW rfl
  clear hW
  have HG := Lib.hid gW
  have HB := Lib.hid bW
  have HCW := Lib.hid CW
  have HK := Lib.hid kW
  clear gW bW kW CW H3 H6
  have kb : w2.heap.size ≠ b := by have := heap_lt HB.out; omega
  have ins := insert_any b off l'.length cap w2.heap.size m cur l' p (w2.alloc (pkObj p)).drew (heap_alloc_same HB.out _) h7 h9 h8 (by omega) rfl H10.out (heap_alloc_new w2 _) hml kb
  have hq := HQ.out
  have hqm := HQM.out
  have HI := Lib.hid ins
  have HH7 := Lib.hid h7
  have HH8 := Lib.hid h8
  have HH9 := Lib.hid h9
  clear ins
  have ng : g ≠ w2.heap.size := by have := heap_lt HG.out; omega
  have nk : w1.heap.size ≠ w2.heap.size := by have := heap_lt HK.out; omega
  have c0' : (w2.alloc (.cells #[.int .i64 p.ch, .int .i64 p.back, .int .i64 p.inc, .int .i64 p.seq, .int .i64 p.ack, .string p.load] 23)).cell? ⟨g, 0, none⟩ = some (.slice (some ⟨b, off, none⟩) l'.length cap) := cell_at (heap_alloc_same HG.out _) rfl
  have mixed : Try.prog.follows .mixedOrders = true := by kernel_rfl
  refine AnyTo.region (m := 18) (S := fun w' => w'.cell? ⟨g, 0, none⟩ = some (.slice (some ⟨b, off, none⟩) l'.length cap) ∧ w'.cell? ⟨w1.heap.size, 0, none⟩ = some (.int .i64 p.ch) ∧ w'.cell? ⟨w1.heap.size, 1, none⟩ = some (.int .i64 p.back) ∧ w'.cell? ⟨w1.heap.size, 2, none⟩ = some (.int .i64 p.inc) ∧ w'.cell? ⟨w1.heap.size, 3, none⟩ = some (.int .i64 p.seq) ∧ w'.cell? ⟨w1.heap.size, 4, none⟩ = some (.int .i64 p.ack) ∧ w'.cell? ⟨w1.heap.size, 5, none⟩ = some (.string p.load)) mixed ?_
  have hS0 : (fun w' : World => w'.cell? ⟨g, 0, none⟩ = some (.slice (some ⟨b, off, none⟩) l'.length cap) ∧ w'.cell? ⟨w1.heap.size, 0, none⟩ = some (.int .i64 p.ch) ∧ w'.cell? ⟨w1.heap.size, 1, none⟩ = some (.int .i64 p.back) ∧ w'.cell? ⟨w1.heap.size, 2, none⟩ = some (.int .i64 p.inc) ∧ w'.cell? ⟨w1.heap.size, 3, none⟩ = some (.int .i64 p.seq) ∧ w'.cell? ⟨w1.heap.size, 4, none⟩ = some (.int .i64 p.ack) ∧ w'.cell? ⟨w1.heap.size, 5, none⟩ = some (.string p.load)) w2.drew := ⟨c0, r0, r1, r2, r3, r4, r5⟩
  refine AnyTo.take (i := 0) (v := ?v0) rfl (by kernel_rfl) (by kernel_rfl) (by kernel_rfl) (by kernel_rfl) (fun _ _ _ h => h) (Or.inl ⟨by rfl, ?hy0⟩) hS0 ?rest0
  case hy0 => (intro w' hw'; (try dsimp only at hw'); go_simp; try (with_reducible rfl))
  try simp only [Act.put, List.setIfInBounds_toArray, List.set_cons_zero, List.set_cons_succ]
  refine AnyTo.take (i := 1) (v := ?v1) rfl (by kernel_rfl) (by kernel_rfl) (by kernel_rfl) (by kernel_rfl) (fun _ _ _ h => h) (Or.inl ⟨by rfl, ?hy1⟩) hS0 ?rest1
  case hy1 => (intro w' hw'; (try dsimp only at hw'); go_simp; try (with_reducible rfl))
  try simp only [Act.put, List.setIfInBounds_toArray, List.set_cons_zero, List.set_cons_succ]
  refine AnyTo.take (i := 2) (v := ?v2) rfl (by kernel_rfl) (by kernel_rfl) (by kernel_rfl) (by kernel_rfl) (fun _ _ _ h => h) (Or.inl ⟨by rfl, ?hy2⟩) hS0 ?rest2
  case hy2 => (intro w' hw'; (try dsimp only at hw'); go_simp; try (with_reducible rfl))
  try simp only [Act.put, List.setIfInBounds_toArray, List.set_cons_zero, List.set_cons_succ]
  refine AnyTo.take (i := 3) (v := ?v3) rfl (by kernel_rfl) (by kernel_rfl) (by kernel_rfl) (by kernel_rfl) (fun _ _ _ h => h) (Or.inl ⟨by rfl, ?hy3⟩) hS0 ?rest3
  case hy3 => (intro w' hw'; (try dsimp only at hw'); go_simp; try (with_reducible rfl))
  try simp only [Act.put, List.setIfInBounds_toArray, List.set_cons_zero, List.set_cons_succ]
  refine AnyTo.take (i := 4) (v := ?v4) rfl (by kernel_rfl) (by kernel_rfl) (by kernel_rfl) (by kernel_rfl) (fun _ _ _ h => h) (Or.inl ⟨by rfl, ?hy4⟩) hS0 ?rest4
  case hy4 => (intro w' hw'; (try dsimp only at hw'); go_simp; try (with_reducible rfl))
  try simp only [Act.put, List.setIfInBounds_toArray, List.set_cons_zero, List.set_cons_succ]
  refine AnyTo.take (i := 5) (v := ?v5) rfl (by kernel_rfl) (by kernel_rfl) (by kernel_rfl) (by kernel_rfl) (fun _ _ _ h => h) (Or.inl ⟨by rfl, ?hy5⟩) hS0 ?rest5
  case hy5 => (intro w' hw'; (try dsimp only at hw'); go_simp; try (with_reducible rfl))
  try simp only [Act.put, List.setIfInBounds_toArray, List.set_cons_zero, List.set_cons_succ]
  refine AnyTo.take (i := 6) (v := ?v6) rfl (by kernel_rfl) (by kernel_rfl) (by kernel_rfl) (by kernel_rfl) (fun _ _ _ h => h) (Or.inl ⟨by rfl, ?hy6⟩) hS0 ?rest6
  case hy6 => (intro w' hw'; (try dsimp only at hw'); go_simp; try (with_reducible rfl))
  try simp only [Act.put, List.setIfInBounds_toArray, List.set_cons_zero, List.set_cons_succ]
  refine AnyTo.take (i := 7) (v := ?v7) rfl (by kernel_rfl) (by kernel_rfl) (by kernel_rfl) (by kernel_rfl) (fun _ _ _ h => h) (Or.inl ⟨by rfl, ?hy7⟩) hS0 ?rest7
  case hy7 => (intro w' hw'; (try dsimp only at hw'); go_simp; try (with_reducible rfl))
  try simp only [Act.put, List.setIfInBounds_toArray, List.set_cons_zero, List.set_cons_succ]
  refine AnyTo.take (i := 8) (v := ?v8) rfl (by kernel_rfl) (by kernel_rfl) (by kernel_rfl) (by kernel_rfl) (fun _ _ _ h => h) (Or.inl ⟨by rfl, ?hy8⟩) hS0 ?rest8
  case hy8 => (intro w' hw'; (try dsimp only at hw'); go_simp; try (with_reducible rfl))
  try simp only [Act.put, List.setIfInBounds_toArray, List.set_cons_zero, List.set_cons_succ]
  refine AnyTo.take (i := 9) (v := ?v9) rfl (by kernel_rfl) (by kernel_rfl) (by kernel_rfl) (by kernel_rfl) (fun _ _ _ h => h) (Or.inl ⟨by rfl, ?hy9⟩) hS0 ?rest9
  case hy9 => (intro w' hw'; (try dsimp only at hw'); go_simp; try (with_reducible rfl))
  try simp only [Act.put, List.setIfInBounds_toArray, List.set_cons_zero, List.set_cons_succ]
  refine AnyTo.take (i := 10) (v := ?v10) rfl (by kernel_rfl) (by kernel_rfl) (by kernel_rfl) (by kernel_rfl) (fun _ _ _ h => h) (Or.inl ⟨by rfl, ?hy10⟩) hS0 ?rest10
  case hy10 => (intro w' hw'; (try dsimp only at hw'); go_simp; try (with_reducible rfl))
  try simp only [Act.put, List.setIfInBounds_toArray, List.set_cons_zero, List.set_cons_succ]
  refine AnyTo.take (i := 11) (v := ?v11) rfl (by kernel_rfl) (by kernel_rfl) (by kernel_rfl) (by kernel_rfl) (fun _ _ _ h => h) (Or.inl ⟨by rfl, ?hy11⟩) hS0 ?rest11
  case hy11 => (intro w' hw'; (try dsimp only at hw'); go_simp; try (with_reducible rfl))
  try simp only [Act.put, List.setIfInBounds_toArray, List.set_cons_zero, List.set_cons_succ]
  refine AnyTo.take (i := 12) (v := ?v12) rfl (by kernel_rfl) (by kernel_rfl) (by kernel_rfl) (by kernel_rfl) (fun _ _ _ h => h) (Or.inl ⟨by rfl, ?hy12⟩) hS0 ?rest12
  case hy12 => (intro w' hw'; (try dsimp only at hw'); go_simp; try (with_reducible rfl))
  try simp only [Act.put, List.setIfInBounds_toArray, List.set_cons_zero, List.set_cons_succ]
  refine AnyTo.take (i := 13) (v := ?v13) rfl (by kernel_rfl) (by kernel_rfl) (by kernel_rfl) (by kernel_rfl) (fun _ _ _ h => h) (Or.inl ⟨by rfl, ?hy13⟩) hS0 ?rest13
  case hy13 => (intro w' hw'; (try dsimp only at hw'); go_simp; try (with_reducible rfl))
  try simp only [Act.put, List.setIfInBounds_toArray, List.set_cons_zero, List.set_cons_succ]
  have r0' := cell_at (heap_alloc_same HK.out (pkObj p)) (i := 0) rfl
  have r1' := cell_at (heap_alloc_same HK.out (pkObj p)) (i := 1) rfl
  have r2' := cell_at (heap_alloc_same HK.out (pkObj p)) (i := 2) rfl
  have r3' := cell_at (heap_alloc_same HK.out (pkObj p)) (i := 3) rfl
  have r4' := cell_at (heap_alloc_same HK.out (pkObj p)) (i := 4) rfl
  have r5' := cell_at (heap_alloc_same HK.out (pkObj p)) (i := 5) rfl
  refine AnyTo.step (i := 14) (by kernel_rfl) rfl (fun K hK => ?_)
  go_simp
  refine hK.out _ _ (fun _ => ⟨c0', r0', r1', r2', r3', r4', r5'⟩) ?_
  clear hK K r0' r1' r2' r3' r4' r5'
  try simp only [Act.put, List.setIfInBounds_toArray, List.set_cons_zero, List.set_cons_succ]
  refine AnyTo.step (i := 15) (by kernel_rfl) rfl (fun K hK => ?_)
  go_simp
  go_at_call 47
  refine HI.out.mono ?_
  rintro e w' ⟨rfl, cur', d1, d2, d3, d4⟩
  have d5 := d4.heap (heap_alloc_same HG.out _) h5.symm
  have d6 := d4.heap (heap_alloc_same HK.out _) hbk.symm
  go_wp2_with fail
  refine hK.out _ _ (fun _ => ⟨cell_at d5 rfl, cell_at d6 rfl, cell_at d6 rfl, cell_at d6 rfl, cell_at d6 rfl, cell_at d6 rfl, cell_at d6 rfl⟩) ?_
  clear hK K
  try simp only [Act.put, List.setIfInBounds_toArray, List.set_cons_zero, List.set_cons_succ]
  have q0 : w'.cell? ⟨g, 0, none⟩ = some (.slice (some ⟨b, off, none⟩) l'.length cap) := cell_at d5 rfl
  have q1 := free_at d5 0
  refine AnyTo.step (i := 16) (by kernel_rfl) rfl (fun K hK => ?_)
  go_simp
  refine hK.out _ _ (fun _ => ⟨cell_at d5 rfl, cell_at d6 rfl, cell_at d6 rfl, cell_at d6 rfl, cell_at d6 rfl, cell_at d6 rfl, cell_at d6 rfl⟩) ?_
  clear hK K
  try simp only [Act.put, List.setIfInBounds_toArray, List.set_cons_zero, List.set_cons_succ]
  refine AnyTo.step (i := 17) (by kernel_rfl) rfl (fun K hK => ?_)
  go_simp
  refine hK.out _ _ (fun _ => ⟨cell_at d5 rfl, cell_at d6 rfl, cell_at d6 rfl, cell_at d6 rfl, cell_at d6 rfl, cell_at d6 rfl, cell_at d6 rfl⟩) ?_
  clear hK K
  try simp only [Act.put, List.setIfInBounds_toArray, List.set_cons_zero, List.set_cons_succ]
  refine AnyTo.step (i := 18) (by kernel_rfl) rfl (fun K hK => ?_)
  go_simp
  refine hK.out _ _ (fun z => absurd rfl z) ?_
  clear hK K
  try simp only [Act.put, List.setIfInBounds_toArray, List.set_cons_zero, List.set_cons_succ]
  refine AnyTo.done (by kernel_rfl) ?_
  have HCX : Hid (Chg w w' F) := ((HC.out.trans HCW.out (fun _ _ x => x.elim)).alloc _).drew.trans d4 (fun k _ hk => by rw [hk]; exact h4)
  have D1 := Lib.hid d1
  have D2 := Lib.hid d2
  have D3 := Lib.hid d3
  have D5 := Lib.hid d5
  clear d1 d2 d3 d4 d5 d6
  go_wp2_with fail
  refine bodyPost_ret (v := .bool true) (by simp [results, Try.results24, go_sem, *]) rfl ⟨rfl, ?_, ?_⟩
  · have el : (insPk l' m p).length = l'.length + 1 := insPk_length l' m p hml
    refine ⟨⟨hF, hg⟩, _, heap_setCell_same (i := 0) D5.out _, pksCells_length _, .inr ⟨b, off, cap, cur', by rw [el], ⟨⟨h4, h4b⟩, h5⟩, heap_setCell_other D1.out h5 _, by rw [el]; omega, h8, by rw [D2.out]; exact h9, by rw [el]; exact D3.out⟩⟩
  · exact HCX.out.setCell (fun _ => hF) _
end Go.Proofs.Ytecpgkcoehnpbaa
