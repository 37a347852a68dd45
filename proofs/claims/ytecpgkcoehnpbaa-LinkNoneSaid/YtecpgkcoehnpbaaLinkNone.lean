/- What isn't there sends and takes nothing: the law LinkNone answers true at every input. No condition. -/
import Derived.Test.YtecpgkcoehnpbaaLinkH
import Derived.Test.YtecpgkcoehnpbaaPkArg
namespace Go.Proofs.Ytecpgkcoehnpbaa
open Go.ChangeShapes Go.WideShapes Go.ChangeAt Go.RowKit
open Go.ChangeMaps (open_string)

def pkAgg (p : Pk) : Value := .agg #[.int .i64 p.ch, .int .i64 p.back, .int .i64 p.inc, .int .i64 p.seq, .int .i64 p.ack, .string p.load]

set_option maxRecDepth 100000 in
set_option maxHeartbeats 400000 in
theorem ackNil (p : Pk) (w : World) : Calls Try.prog 12 #[.pointer none, .agg #[.int .i64 p.ch, .int .i64 p.back, .int .i64 p.inc, .int .i64 p.seq, .int .i64 p.ack, .string p.load]] w fun e w' => e = .returned (.tuple #[]) ∧ Below w.heap.size w w' := by
  obtain ⟨pc, pb, pi, ps, pa, pl⟩ := p
  go_enter Try.func12, Try.ntmps12
  go_wp2_with fail
  go_quiet (fail)
  go_wp2_with fail
  refine bodyPost_ret (results_none rfl _ _ _) rfl ⟨rfl, bl_drewN ((Below.refl _ _).alloc (Nat.le_refl _) _) _⟩
set_option maxRecDepth 100000 in
set_option maxHeartbeats 400000 in
theorem takeNil (p : Pk) (w : World) : Calls Try.prog 20 #[.pointer none, .agg #[.int .i64 p.ch, .int .i64 p.back, .int .i64 p.inc, .int .i64 p.seq, .int .i64 p.ack, .string p.load]] w fun e w' => e = .returned (.slice none 0 0) ∧ Below w.heap.size w w' := by
  obtain ⟨pc, pb, pi, ps, pa, pl⟩ := p
  go_enter Try.func20, Try.ntmps20
  go_wp2_with fail
  go_quiet (fail)
  go_wp2_with fail
  go_ret
  exact ⟨rfl, bl_drewN ((Below.refl _ _).alloc (Nat.le_refl _) _) _⟩
set_option maxHeartbeats 400000 in
theorem lenNil (w : World) : Calls Try.prog 19 #[.pointer none] w fun e w' => e = .returned (.int .i64 0) ∧ w = w' := by
  go_enter Try.func19, Try.ntmps19
  go_wp2_with fail
  go_ret
  exact ⟨rfl, rfl⟩
set_option maxHeartbeats 400000 in
theorem peekNil (w : World) : Calls Try.prog 15 #[.pointer none] w fun e w' => e = .returned (.tuple #[.string ByteArray.empty, .bool false]) ∧ w = w' := by
  go_enter Try.func15, Try.ntmps15
  go_wp2_with fail
  refine (lenNil w).mono ?_
  rintro e w1 ⟨rfl, rfl⟩
  go_wp2_with fail
  go_ret2
  exact ⟨rfl, rfl⟩
set_option maxHeartbeats 400000 in
theorem popNil (w : World) : Calls Try.prog 14 #[.pointer none] w fun e w' => e = .returned (.tuple #[.string ByteArray.empty, .slice none 0 0, .bool false]) ∧ w = w' := by
  go_enter Try.func14, Try.ntmps14
  go_wp2_with fail
  refine (peekNil w).mono ?_
  rintro e w1 ⟨rfl, rfl⟩
  go_wp2_with fail
  go_ret3
  exact ⟨rfl, rfl⟩
set_option maxHeartbeats 400000 in
theorem tickNil (w : World) : Calls Try.prog 16 #[.pointer none] w fun e w' => e = .returned (.slice none 0 0) ∧ w = w' := by
  go_enter Try.func16, Try.ntmps16
  go_wp2_with fail
  go_ret
  exact ⟨rfl, rfl⟩
set_option maxHeartbeats 400000 in
theorem waitsNil (w : World) : Calls Try.prog 17 #[.pointer none] w fun e w' => e = .returned (.int .i64 0) ∧ w = w' := by
  go_enter Try.func17, Try.ntmps17
  go_wp2_with fail
  go_ret
  exact ⟨rfl, rfl⟩
set_option maxHeartbeats 400000 in
theorem freeNil (w : World) : Calls Try.prog 18 #[.pointer none] w fun e w' => e = .returned (.int .i64 0) ∧ w = w' := by
  go_enter Try.func18, Try.ntmps18
  go_wp2_with fail
  go_ret
  exact ⟨rfl, rfl⟩

set_option maxRecDepth 100000 in
set_option maxHeartbeats 1600000 in
theorem linkNone_law (p : Pk) (s : ByteArray) (w : World) : Calls Try.prog 3 #[.agg #[.int .i64 p.ch, .int .i64 p.back, .int .i64 p.inc, .int .i64 p.seq, .int .i64 p.ack, .string p.load], .string s] w fun e w' => e = .returned (.bool true) ∧ Below w.heap.size w w' := by
  have hpk := heap_alloc_new w (pkObj p)
  have HPK := Lib.hid hpk
  have hb0 : Below w.heap.size w (w.alloc (pkObj p)) := (Below.refl _ _).alloc (Nat.le_refl _) _
  have HB0 := Lib.hid hb0
  have hz0 : w.heap.size < (w.alloc (pkObj p)).heap.size := by simp
  have HZ0 := Lib.hid hz0
  clear hpk hb0 hz0
  go_enter Try.func3, Try.ntmps3
  go_wp2_with fail
  rw [show w.alloc (.cells #[.int .i64 p.ch, .int .i64 p.back, .int .i64 p.inc, .int .i64 p.seq, .int .i64 p.ack, .string p.load] 23) = w.alloc (pkObj p) from rfl]
  generalize w.alloc (pkObj p) = w0 at *
  refine (linkAwake w0).mono ?_
  rintro e w1 ⟨rfl, hb1⟩
  have HB1 := Lib.hid hb1
  have HPK1 := Lib.hid (below_heap hb1 HPK.out HZ0.out)
  clear hb1
  have q0 : w1.cell? ⟨w.heap.size, 0, none⟩ = some (.int .i64 p.ch) := cell_at HPK1.out rfl
  have q1 : w1.cell? ⟨w.heap.size, 1, none⟩ = some (.int .i64 p.back) := cell_at HPK1.out rfl
  have q2 : w1.cell? ⟨w.heap.size, 2, none⟩ = some (.int .i64 p.inc) := cell_at HPK1.out rfl
  have q3 : w1.cell? ⟨w.heap.size, 3, none⟩ = some (.int .i64 p.seq) := cell_at HPK1.out rfl
  have q4 : w1.cell? ⟨w.heap.size, 4, none⟩ = some (.int .i64 p.ack) := cell_at HPK1.out rfl
  have q5 : w1.cell? ⟨w.heap.size, 5, none⟩ = some (.string p.load) := cell_at HPK1.out rfl
  go_wp2_with fail
  refine (ackNil p w1).mono ?_
  rintro e w2 ⟨rfl, hb2⟩
  have HB2 := Lib.hid hb2
  have HPK2 := Lib.hid (below_heap hb2 HPK1.out (heap_lt HPK1.out))
  clear hb2 q0 q1 q2 q3 q4 q5
  go_wp2_with fail
  refine (send_empty none s w2 (.inl rfl)).mono ?_
  rintro e w3 ⟨rfl, rfl⟩
  go_wp2_with fail
  refine (popNil w2).mono ?_
  rintro e w3 ⟨rfl, rfl⟩
  go_wp2_with fail
  refine (peekNil w2).mono ?_
  rintro e w3 ⟨rfl, rfl⟩
  go_wp2_with fail
  refine (tickNil w2).mono ?_
  rintro e w3 ⟨rfl, rfl⟩
  go_wp2_with fail
  refine (waitsNil w2).mono ?_
  rintro e w3 ⟨rfl, rfl⟩
  go_wp2_with fail
  refine (freeNil w2).mono ?_
  rintro e w3 ⟨rfl, rfl⟩
  go_wp2_with fail
  refine (lenNil w2).mono ?_
  rintro e w3 ⟨rfl, rfl⟩
  have q0 : w2.cell? ⟨w.heap.size, 0, none⟩ = some (.int .i64 p.ch) := cell_at HPK2.out rfl
  have q1 : w2.cell? ⟨w.heap.size, 1, none⟩ = some (.int .i64 p.back) := cell_at HPK2.out rfl
  have q2 : w2.cell? ⟨w.heap.size, 2, none⟩ = some (.int .i64 p.inc) := cell_at HPK2.out rfl
  have q3 : w2.cell? ⟨w.heap.size, 3, none⟩ = some (.int .i64 p.seq) := cell_at HPK2.out rfl
  have q4 : w2.cell? ⟨w.heap.size, 4, none⟩ = some (.int .i64 p.ack) := cell_at HPK2.out rfl
  have q5 : w2.cell? ⟨w.heap.size, 5, none⟩ = some (.string p.load) := cell_at HPK2.out rfl
  go_wp2_with fail
  refine (takeNil p w2).mono ?_
  rintro e w3 ⟨rfl, hb3⟩
  have HB3 := Lib.hid hb3
  clear hb3 q0 q1 q2 q3 q4 q5
  go_wp2_with fail
  go_ret
  have z0 := HZ0.out
  have z1 := HB1.out.size
  have z2 := HB2.out.size
  exact ⟨rfl, HB0.out.trans ((HB1.out.mono (by omega)).trans ((HB2.out.mono (by omega)).trans (HB3.out.mono (by omega))))⟩

set_option maxRecDepth 100000 in
theorem linkNone_lawful : Lawful 3 Try.f3 := by
  intro H enc W base args ds p hval hA hlt hsz
  rw [Try.params3] at hA hval hsz
  obtain ⟨v0, v1, d0, d1, p0, p1, rfl, rfl, rfl, h0, h1⟩ := trodAll_two hA
  obtain ⟨pk, rfl, _⟩ := pkArg (hval 0 23 v0 rfl rfl) h0 (weights_in (j := 0) hsz rfl rfl)
  obtain ⟨s, rfl, rfl, rfl, hs⟩ := open_string under_str (hval 1 9 v1 rfl rfl) h1
  exact linkNone_law pk s W

theorem linkNone_holds : Rows.LinkNoneSaid :=
  OpenClaim.holds_of_wide 3 Try.f3 rfl rfl rfl rfl rfl rfl rfl ⟨rfl, rfl, rfl, rfl, rfl⟩ rfl rfl rfl rfl rfl (by kernel_rfl) Try.func3 (by kernel_rfl)
    (of_decide_eq_true (by kernel_rfl)) (by unfold Func.isWrapper; rw [if_neg (of_decide_eq_false (by kernel_rfl))]; exact ⟨rfl, rfl⟩)
    (fun os started H enc _ => law_lift (s := Rows.linkNoneSpec) Try.func3 (by kernel_rfl) rfl rfl rfl (by rw [Try.params3]; intro t ht; simp at ht; rcases ht with rfl | rfl <;> exact ⟨by kernel_rfl, of_decide_eq_true (by kernel_rfl)⟩)
      (by rw [Try.params3]; intro H ds hds; match ds, hds with | [d1, d2], _ => exact ⟨rfl, rfl, rfl⟩) linkNone_lawful os started H enc
      (ChangeSpec.witness6 (enc := enc) (C := Try.checked) false ⟨#[], #[.agg #[.int .i64 0, .int .i64 0, .int .i64 0, .int .i64 0, .int .i64 0, .string ByteArray.empty], .string ByteArray.empty], []⟩ 8 (by kernel_rfl) (by kernel_rfl) (by kernel_rfl) (by kernel_rfl)))
end Go.Proofs.Ytecpgkcoehnpbaa
