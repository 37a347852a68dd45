/- Layer 17: the laws' own pop. -/
import Derived.Test.YtecpgkcoehnpbaaLinkS
namespace Go.Proofs.Ytecpgkcoehnpbaa
open Go.RowKit

set_option maxRecDepth 100000 in
set_option maxHeartbeats 1600000 in
/-- the next load is taken out -/
theorem pop_any (w : World) (F : Nat → Prop) (P go gi gw N : Nat) (s : PSt) (h : PairAt w F P go gi gw s) (hi : Inv N s) (hN : N ≤ 1000) :
    Calls Try.prog 40 #[.pointer (some ⟨P, 0, none⟩)] w fun e w' => e = .returned (.tuple #[]) ∧ PairAt w' (fun k => (F k ∧ k < w.heap.size) ∨ w.heap.size ≤ k) P go gi gw s.pop ∧ Chg w w' F := by
  have h64 := hi.wire
  obtain ⟨a1, c1, a2, c2, hrow⟩ := h.row
  have p1 : w.cell? ⟨P, 1, none⟩ = some (.pointer (some ⟨gi, 0, none⟩)) := cell_at hrow rfl
  have hPlt := heap_lt hrow
  cases hl : s.i.loads with
  | nil =>
    have es : s.pop = s := by unfold PSt.pop; rw [hl]
    rw [es]
    have HT := Lib.hid (pair_ipop_none h hl)
    have HP := Lib.hid (h.mono (G := fun k => (F k ∧ k < w.heap.size) ∨ w.heap.size ≤ k) (fun k a b => .inl ⟨b, a⟩))
    clear hrow es h hi hl
    go_enter Try.func40, Try.ntmps40
    go_wp2_with fail
    refine HT.out.mono ?_
    rintro e w1 ⟨rfl, rfl⟩
    go_wp2_with fail
    go_end0
    exact ⟨rfl, HP.out, Chg.refl _ _⟩
  | cons x r =>
    have es : s.pop = ⟨s.o, ⟨s.i.ch, s.i.inc, r, s.i.out + 1⟩, cutPks (s.l ++ [ackOf ⟨s.i.ch, s.i.inc, r, s.i.out + 1⟩]), s.sent, s.got ++ [x]⟩ := by unfold PSt.pop; rw [hl]
    obtain ⟨z, hz⟩ : ∃ z, s.pop = z := ⟨_, rfl⟩
    rw [hz] at es ⊢
    have hgl : s.got.length ≤ 1000 := by have := hi.gl; have := hi.sn; omega
    have HT := Lib.hid (pair_ipop h hi (by omega) x r hl)
    have HES := Lib.hid es
    have HROW := Lib.hid hrow
    clear hrow es h hi hl hz
    go_enter Try.func40, Try.ntmps40
    go_wp2_with fail
    refine HT.out.mono ?_
    rintro e w1 ⟨rr, rfl, hrr, hrl, h1, ch1, k1⟩
    obtain ⟨a3, c3, a4, c4, b1, d1, w3, hr1, hrun, hr3, ch3, h4, ch4⟩ := h1.gotMore x hgl
    have p4 : w1.cell? ⟨P, 4, none⟩ = some (.slice a4 s.got.length c4) := cell_at hr1 rfl
    have q4 : w3.cell? ⟨P, 4, none⟩ = some (.slice a4 s.got.length c4) := cell_at hr3 rfl
    have f4 := free_at hr3 4
    have q2 : (w3.setCell ⟨P, 4, none⟩ (.slice b1 (s.got.length + 1) d1)).cell? ⟨P, 2, none⟩ = some (.pointer (some ⟨gw, 0, none⟩)) := cell_at (heap_setCell_same (i := 4) hr3 _) rfl
    have q2' : w3.cell? ⟨P, 2, none⟩ = some (.pointer (some ⟨gw, 0, none⟩)) := cell_at hr3 rfl
    have hz1 : w.heap.size ≤ w1.heap.size := ch1.size
    have hz4 := ch4.size
    have hr4 := ch4.heap hrr (fun a => by omega)
    have hs := pair_send h4 [ackOf ⟨s.i.ch, s.i.inc, r, s.i.out + 1⟩] _ (News.pk (c := 1) _ hr4) (by simp only [List.length_singleton]; omega)
    have HRUN := Lib.hid hrun
    have HS := Lib.hid hs
    have HC1 := Lib.hid ch1
    have HC4 := Lib.hid ch4
    have hP3 := heap_lt hr3
    clear hrr hrl h1 ch1 k1 hr1 hrun hr3 ch3 h4 ch4 hr4 hs HT HROW p1
    go_wp2_with (at_builtin; refine wpList_append_run rfl rfl rfl rfl HRUN.out ?_)
    refine HS.out.mono ?_
    rintro e w5 ⟨rfl, h5, ch5, _⟩
    have HP5 := Lib.hid h5
    have HC5 := Lib.hid ch5
    clear h5 ch5 HS HRUN
    go_wp2_with fail
    go_end0
    refine ⟨rfl, ?_, ?_⟩
    · rw [HES.out]
      exact HP5.out.mono fun k _ hk => by
        rcases hk with ⟨(⟨a, _⟩ | hk), _⟩ | hk
        · exact .inl a
        · exact .inr (Nat.le_trans hz1 hk)
        · exact .inr (Nat.le_trans (Nat.le_trans hz1 hz4) hk)
    · refine (HC1.out.trans HC4.out fun _ _ a => a.1).trans HC5.out fun k hk a => ?_
      rcases a with ⟨a, _⟩ | a
      · exact a.1
      · exact absurd a (by show ¬ w1.heap.size ≤ k; omega)
end Go.Proofs.Ytecpgkcoehnpbaa
