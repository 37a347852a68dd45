/- Layer 16: the walks of a wire that isn't there; the document's example. -/
import Derived.Test.YtecpgkcoehnpbaaTurn
import Derived.Test.YtecpgkcoehnpbaaWireB
namespace Go.Proofs.Ytecpgkcoehnpbaa
open Go.RowKit

def pk0 : Pk := ⟨0, 0, 0, 0, 0, ByteArray.empty⟩

set_option maxHeartbeats 400000 in
theorem thereNil (i : Int) (w : World) : Calls Try.prog 48 #[.pointer none, .int .i64 i] w fun e w' => e = .returned (.bool false) ∧ w = w' := by
  go_enter Try.func48, Try.ntmps48
  go_wp2
  go_ret
  exact ⟨rfl, rfl⟩
set_option maxHeartbeats 400000 in
theorem wsendNil (x : Value) (w : World) : Calls Try.prog 23 #[.pointer none, x] w fun e w' => e = .returned (.tuple #[]) ∧ w = w' := by
  go_enter Try.func23, Try.ntmps23
  go_wp2
  exact bodyPost_ret (v := .tuple #[]) (results_none rfl _ _ _) rfl ⟨rfl, rfl⟩
set_option maxHeartbeats 400000 in
theorem wclearNil (w : World) : Calls Try.prog 32 #[.pointer none] w fun e w' => e = .returned (.tuple #[]) ∧ w = w' := by
  go_enter Try.func32, Try.ntmps32
  go_wp2
  go_end0
  exact ⟨rfl, rfl⟩
set_option maxHeartbeats 400000 in
theorem wlenNil (w : World) : Calls Try.prog 26 #[.pointer none] w fun e w' => e = .returned (.int .i64 0) ∧ w = w' := by
  go_enter Try.func26, Try.ntmps26
  go_wp2
  go_ret
  exact ⟨rfl, rfl⟩
set_option maxHeartbeats 400000 in
theorem wallNil (w : World) : Calls Try.prog 34 #[.pointer none] w fun e w' => e = .returned (.slice none 0 0) ∧ w = w' := by
  go_enter Try.func34, Try.ntmps34
  go_wp2
  go_ret
  exact ⟨rfl, rfl⟩
set_option maxHeartbeats 400000 in
theorem wtwiceNil (i : Int) (w : World) : Calls Try.prog 27 #[.pointer none, .int .i64 i] w fun e w' => e = .returned (.bool false) ∧ w = w' := by
  go_enter Try.func27, Try.ntmps27
  go_wp2_with fail
  refine (thereNil i w).mono ?_
  rintro e w1 ⟨rfl, rfl⟩
  go_wp2_with fail
  go_ret
  exact ⟨rfl, rfl⟩
set_option maxRecDepth 100000 in
set_option maxHeartbeats 400000 in
theorem wtakeNil (i : Int) (w : World) : Calls Try.prog 25 #[.pointer none, .int .i64 i] w fun e w' =>
      e = .returned (.tuple #[.agg #[.int .i64 0, .int .i64 0, .int .i64 0, .int .i64 0, .int .i64 0, .string ByteArray.empty], .bool false]) ∧ Below w.heap.size w w' := by
  go_enter Try.func25, Try.ntmps25
  go_wp2_with fail
  refine (thereNil i _).mono ?_
  rintro e w1 ⟨rfl, rfl⟩
  go_wp2_with fail
  refine bodyPost_ret (v := .tuple #[.agg #[.int .i64 0, .int .i64 0, .int .i64 0, .int .i64 0, .int .i64 0, .string ByteArray.empty], .bool false]) (by simp [results, Try.results25, go_sem, *]; try rfl) rfl ⟨rfl, ?_⟩
  repeat (first | exact Below.refl _ _ | refine bl_drewN ?_ _ | refine Below.drew ?_ | refine Below.setCell ?_ (by first | exact Nat.le_refl _ | (simp; omega)) _ | refine Below.alloc ?_ (by first | exact Nat.le_refl _ | (simp; omega)) _)
set_option maxRecDepth 100000 in
set_option maxHeartbeats 400000 in
theorem wloseNil (i : Int) (w : World) : Calls Try.prog 31 #[.pointer none, .int .i64 i] w fun e w' => e = .returned (.bool false) ∧ Below w.heap.size w w' := by
  go_enter Try.func31, Try.ntmps31
  go_wp2_with fail
  refine (wtakeNil i w).mono ?_
  rintro e w1 ⟨rfl, hb⟩
  have hz := hb.size
  have HB := Lib.hid hb
  clear hb
  go_wp2_with fail
  go_ret
  refine ⟨rfl, ?_⟩
  repeat (first | exact HB.out | refine bl_drewN ?_ _ | refine Below.drew ?_ | refine Below.setCell ?_ (by first | exact hz | (simp; omega)) _ | refine Below.alloc ?_ (by first | exact hz | (simp; omega)) _)
set_option maxRecDepth 100000 in
set_option maxHeartbeats 400000 in
theorem wturnNil (i to : Int) (w : World) : Calls Try.prog 24 #[.pointer none, .int .i64 i, .int .i64 to] w fun e w' => e = .returned (.bool false) ∧ Below w.heap.size w w' := by
  go_enter Try.func24, Try.ntmps24
  go_wp2_with fail
  refine (wtakeNil i w).mono ?_
  rintro e w1 ⟨rfl, hb⟩
  have hz := hb.size
  have HB := Lib.hid hb
  clear hb
  go_wp2_with fail
  refine bodyPost_ret (v := .bool false) (by simp [results, Try.results24, go_sem, *]) rfl ⟨rfl, ?_⟩
  repeat (first | exact HB.out | refine bl_drewN ?_ _ | refine Below.drew ?_ | refine Below.setCell ?_ (by first | exact hz | (simp; omega)) _ | refine Below.alloc ?_ (by first | exact hz | (simp; omega)) _)

/-- a new wire -/
theorem wire_new (w : World) : WireAt (w.alloc (.cells #[.slice none 0 0] 85)) (fun k => k = w.heap.size) w.heap.size [] :=
  ⟨rfl, _, heap_alloc_new w _, Sl.nil _ _ _ _⟩
/-- a row of packets that was just made -/
theorem news_built (w : World) (l : List Pk) (C : Array Value) (hC : C.toList = pksCells l) (n : Nat) (hn : n = l.length) :
    News (w.alloc (.cells C 23)) 6 (.slice (some ⟨w.heap.size, 0, none⟩) n n) l.length (pksCells l) := by
  subst hn
  refine ⟨pksCells_length l, pks_one l, _, _, rfl, fun _ => ⟨_, rfl, fun j u hj => ?_⟩⟩
  rw [Addr.add_lit, Nat.zero_add]
  refine cell_at (heap_alloc_new w _) ?_
  rw [← Array.getElem?_toList, hC]; exact hj

set_option maxRecDepth 100000 in
set_option maxHeartbeats 1600000 in
theorem wireAwake (w : World) : Calls Try.prog 21 #[] w fun e w' => e = .returned (.bool true) ∧ Below w.heap.size w w' := by
  have H1 := Lib.hid (wire_new w)
  have HZ : Hid ((w.alloc (.cells #[.slice none 0 0] 85)).heap.size = w.heap.size + 1) := World.size_alloc _ _
  have HB : Hid (Below w.heap.size w (w.alloc (.cells #[.slice none 0 0] 85))) := (Below.refl _ _).alloc (Nat.le_refl _) _
  go_enter Try.func21, Try.ntmps21
  go_wp2_with fail
  refine (wireNew_any w).mono ?_
  rintro e w1 ⟨rfl, rfl⟩
  generalize w.alloc (.cells #[.slice none 0 0] 85) = w1 at *
  go_wp2_with fail
  refine (wireSend_any w.heap.size [] [⟨0, 0, 0, 1, 0, ByteArray.empty⟩, ⟨0, 0, 0, 2, 0, ByteArray.empty⟩] _ _ (H1.out.chg ((Chg.refl w1 (fun _ => False)).alloc _) (fun _ _ h => h)) _ (news_built w1 [⟨0, 0, 0, 1, 0, ByteArray.empty⟩, ⟨0, 0, 0, 2, 0, ByteArray.empty⟩] _ rfl _ rfl) (by simp)).mono ?_
  rintro e w2 ⟨rfl, h2, hc2⟩
  have z1 := HZ.out
  have h2' := h2.mono (G := fun k => w.heap.size ≤ k) (fun k hk x => by rcases x with x | x <;> simp at x <;> omega)
  have HC2 : Hid (Below w.heap.size w w2) := HB.out.trans ((((Chg.refl w1 (fun k => k = w.heap.size)).alloc _).trans hc2 (fun _ _ x => x)).below (by omega) (fun i hi => by omega))
  have HZ2 : Hid (w.heap.size < w2.heap.size) := by have := hc2.size; simp at this; show _ < _; omega
  rw [show cutPks ([] ++ [⟨0, 0, 0, 1, 0, ByteArray.empty⟩, ⟨0, 0, 0, 2, 0, ByteArray.empty⟩]) = [⟨0, 0, 0, 1, 0, ByteArray.empty⟩, ⟨0, 0, 0, 2, 0, ByteArray.empty⟩] from rfl] at h2'
  have H2 := Lib.hid h2'
  clear h2 h2' hc2 z1
  go_wp2_with fail
  refine (wireTurn_some w.heap.size _ _ w2 H2.out 1 0 _ rfl (by simp)).mono ?_
  rintro e w3 ⟨rfl, h3, hc3⟩
  have z2 := HZ2.out
  have h3' := h3.mono (G := fun k => w.heap.size ≤ k) (fun k hk x => x.1)
  have HC3 : Hid (Below w.heap.size w w3) := HC2.out.trans (hc3.below (by omega) (fun i hi => by omega))
  have HZ3 : Hid (w.heap.size < w3.heap.size) := by have := hc3.size; show _ < _; omega
  rw [show insPk (List.eraseIdx [(⟨0, 0, 0, 1, 0, ByteArray.empty⟩ : Pk), ⟨0, 0, 0, 2, 0, ByteArray.empty⟩] 1) (turnTo 0 (List.length [(⟨0, 0, 0, 1, 0, ByteArray.empty⟩ : Pk), ⟨0, 0, 0, 2, 0, ByteArray.empty⟩] - 1)) ⟨0, 0, 0, 2, 0, ByteArray.empty⟩ = [⟨0, 0, 0, 2, 0, ByteArray.empty⟩, ⟨0, 0, 0, 1, 0, ByteArray.empty⟩] from rfl] at h3'
  have H3 := Lib.hid h3'
  clear h3 h3' hc3 z2 HC2 H2
  go_wp2_with fail
  refine (wireTake_some w.heap.size _ _ w3 H3.out 0 _ rfl (by simp)).mono ?_
  rintro e w4 ⟨rfl, h4, hc4⟩
  have z3 := HZ3.out
  have hw4 := (h4.wire).mono (G := fun k => w.heap.size ≤ k) (fun k hk x => x.1)
  have HC4 : Hid (Below w.heap.size w w4) := HC3.out.trans (hc4.below (by omega) (fun i hi => by omega))
  have HZ4 : Hid (w.heap.size < w4.heap.size) := by have := hc4.size; show _ < _; omega
  have H4 := Lib.hid hw4
  clear h4 hw4 hc4 z3 HC3 H3
  go_wp2_with fail
  refine (wireLen_any w.heap.size _ _ _ (H4.out.chg ((Chg.refl w4 (fun _ => False)).alloc _) (fun _ _ x => x))).mono ?_
  rintro e w5 ⟨rfl, rfl⟩
  simp only [List.eraseIdx, List.length_cons, List.length_nil]
  go_wp2_with fail
  go_ret
  have z4 := HZ4.out
  exact ⟨rfl, HC4.out.alloc (by omega) _⟩
end Go.Proofs.Ytecpgkcoehnpbaa
