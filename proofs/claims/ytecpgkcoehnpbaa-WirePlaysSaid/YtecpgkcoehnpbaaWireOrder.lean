/- Packets that nobody turns about come in the order in which they were sent; one that is doubled comes again at the end: the law WireOrder answers true at every input. No condition. -/
import Derived.Test.YtecpgkcoehnpbaaTwo
import Derived.Test.YtecpgkcoehnpbaaPkArg
namespace Go.Proofs.Ytecpgkcoehnpbaa
open Go.ChangeShapes Go.WideShapes Go.ChangeAt Go.RowKit

/-- the cells of a list, packet by packet -/
theorem pks_at : ∀ (l : List Pk) (k : Nat) (u : Value), (pksCells l)[k]? = some u → ∃ i p j, l[i]? = some p ∧ (pkCells p)[j]? = some u ∧ k = i * 6 + j := by
  intro l
  induction l with
  | nil => intro k u h; simp [pksCells] at h
  | cons p l ih =>
    intro k u h
    have e : pksCells (p :: l) = pkCells p ++ pksCells l := by simp [pksCells]
    rw [e] at h
    by_cases hk : k < 6
    · rw [List.getElem?_append_left (by show k < 6; exact hk)] at h
      exact ⟨0, p, k, rfl, h, by omega⟩
    · rw [List.getElem?_append_right (by show 6 ≤ k; omega)] at h
      obtain ⟨i, q, j, h1, h2, h3⟩ := ih _ _ h
      have h4 : (pkCells p).length = 6 := rfl
      rw [h4] at h3
      exact ⟨i + 1, q, j, h1, h2, by omega⟩
/-- a slice argument of packets -/
theorem news_arg {w : World} {ao : Option Addr} {b off n cap : Nat} {l : List Pk} (hao : 0 < n → ao = some ⟨b, off, none⟩) (hl : l.length = n) (hc : ∀ i p, l[i]? = some p → ∀ j u, (pkCells p)[j]? = some u → w.cell? ⟨b, off + i * 6 + j, none⟩ = some u) :
    News w 6 (.slice ao n cap) l.length (pksCells l) := by
  subst hl
  refine ⟨pksCells_length l, pks_one l, _, _, rfl, fun h => ⟨_, hao h, fun k u hk => ?_⟩⟩
  obtain ⟨i, p, j, h1, h2, rfl⟩ := pks_at l k u hk
  rw [Addr.add_lit, show off + (i * 6 + j) = off + i * 6 + j by omega]
  exact hc i p h1 j u h2
theorem News.below {w w' : World} {size m : Nat} {x : Value} {news : List Value} {B : Nat} (h : News w size x m news) (hb : Below B w w') (hx : ∀ a c, x = .slice (some a) m c → 0 < m → a.block < B) : News w' size x m news := by
  obtain ⟨h1, h2, ao, c, rfl, h3⟩ := h
  refine ⟨h1, h2, ao, c, rfl, fun hm => ?_⟩
  obtain ⟨a, rfl, h4⟩ := h3 hm
  refine ⟨a, rfl, fun j u hj => ?_⟩
  rw [hb.cell (by
    have := hx a c rfl hm
    unfold Addr.add; split
    · exact this
    · exact this)]
  exact h4 j u hj

theorem two_fresh {B : Nat} (w1 : World) (z1 : B ≤ w1.heap.size) : Two B (fun _ => False) ((w1.alloc (.cells #[.slice none 0 0] 85)).alloc (.cells #[] 23)) w1.heap.size [] (.slice (some ⟨(w1.alloc (.cells #[.slice none 0 0] 85)).heap.size, 0, none⟩) 0 0) [] := by
  have e : (w1.alloc (.cells #[.slice none 0 0] 85)).heap.size = w1.heap.size + 1 := World.size_alloc _ _
  refine ⟨fun k => k = w1.heap.size, fun k => k = w1.heap.size + 1, (wire_new w1).chg ((Chg.refl _ (fun _ => False)).alloc _) (fun _ _ x => x), ⟨rfl, .inr ⟨_, 0, 0, #[], rfl, e, heap_alloc_new _ _, Nat.le_refl _, by unfold maxLen; omega, by simp, by simp [pksCells]⟩⟩, fun k hk => ?_, fun k hk => ?_, fun _ x => x.elim⟩
  · rw [World.size_alloc, e]; exact ⟨by omega, by omega, fun x => x⟩
  · rw [World.size_alloc, e]; exact ⟨by omega, by omega, fun x => x, fun x => by have : k = w1.heap.size := x; omega⟩

theorem take_snoc {α : Type} {l : List α} {j : Nat} {p : α} (h : l[j]? = some p) : l.take (j + 1) = l.take j ++ [p] := by
  rw [List.take_add_one, h]; rfl

theorem under_ints : Try.prog.underlying 50 = some (.slice 3) := by kernel_rfl
theorem rdInts {H : Type} {enc : TypeId × Value → H} {W : World} {base : Nat} {spare : Nat → Bool} {held : Bool} (fuel : Nat) (cs : List Value) (y : DataW H × List MemPlace) (h : DataW.trod enc Try.prog W base spare held fuel 3 cs = some y) : ∃ n : Int, cs = [.int .i64 n] ∧ inI64 n := by
  obtain ⟨n, h1, _, h3⟩ := DataW.trod_int under_int h
  exact ⟨n, h1, bounds_i64 h3⟩

set_option maxRecDepth 100000 in
set_option maxHeartbeats 3200000 in
theorem wireOrder_law (ao : Option Addr) (b off n cap : Nat) (l : List Pk) (to : Option Addr) (tb toff m tcap : Nat) (ts : List Int) (w : World) (hao : 0 < n → ao = some ⟨b, off, none⟩) (hb : 0 < n → b < w.heap.size) (hl : l.length = n)
    (hc : ∀ i p, l[i]? = some p → ∀ j u, (pkCells p)[j]? = some u → w.cell? ⟨b, off + i * 6 + j, none⟩ = some u) (hto : 0 < m → to = some ⟨tb, toff, none⟩) (htb : 0 < m → tb < w.heap.size) (htl : ts.length = m) (htc : ∀ i (x : Int), ts[i]? = some x → w.cell? ⟨tb, toff + i, none⟩ = some (.int .i64 x))
    (hn : n ≤ 40) (hm : m ≤ 20) : Calls Try.prog 5 #[.slice ao n cap, .slice to m tcap] w fun e w' => e = .returned (.bool true) ∧ Below w.heap.size w w' := by
  have HN := Lib.hid (news_arg (cap := cap) hao hl hc)
  have HAO := Lib.hid hao
  have HB := Lib.hid hb
  have HL := Lib.hid hl
  have HC := Lib.hid hc
  have HTO := Lib.hid hto
  have HTB := Lib.hid htb
  have HTL := Lib.hid htl
  have HTC := Lib.hid htc
  clear hao hb hl hc hto htb htl htc
  go_enter Try.func5, Try.ntmps5
  go_wp2_with fail
  refine (wireAwake w).mono ?_
  rintro e w1 ⟨rfl, hb1⟩
  have z1 := hb1.size
  have HB1 := Lib.hid hb1
  clear hb1
  go_wp2_with fail
  refine (wireNew_any w1).mono ?_
  rintro e w2 ⟨rfl, rfl⟩
  have HT : Hid (Two w.heap.size (fun _ => False) ((w1.alloc (.cells #[.slice none 0 0] 85)).alloc (.cells #[] 23)) w1.heap.size [] (.slice (some ⟨(w1.alloc (.cells #[.slice none 0 0] 85)).heap.size, 0, none⟩) 0 0) []) := two_fresh w1 z1
  have HB2 : Hid (Below w.heap.size w ((w1.alloc (.cells #[.slice none 0 0] 85)).alloc (.cells #[] 23))) := (HB1.out.alloc z1 _).alloc (by simp; omega) _
  have zB : w.heap.size ≤ ((w1.alloc (.cells #[.slice none 0 0] 85)).alloc (.cells #[] 23)).heap.size := HB2.out.size
  obtain ⟨ao3, c3, w3, hrun, h3, hb3, -⟩ := two_append HT.out zB l (.slice ao n cap) (HN.out.below HB2.out (fun a c e hm => by
    simp only [Value.slice.injEq] at e
    have := HL.out
    have h0 := HAO.out (by omega)
    rw [h0] at e
    rw [← Option.some.inj e.1]
    exact HB.out (by omega))) (by have := HL.out; simp only [List.length_nil]; omega)
  simp only [List.nil_append] at hrun h3
  rw [HL.out] at hrun h3
  have HRUN := Lib.hid hrun
  have H3 := Lib.hid h3
  have HB3 := Lib.hid (HB2.out.trans (hb3.mono (Nat.le_refl _)))
  clear hrun h3 hb3 HT HB2 zB HN
  generalize w1.alloc (.cells #[.slice none 0 0] 85) = w2 at *
  go_wp2_with (at_builtin; refine wpList_append_run rfl rfl rfl rfl HRUN.out ?_)
  clear HRUN
  go_loopw [31] (fun i wr => ∃ j : Nat, j ≤ n ∧ i = .int .i64 j ∧ Hid (Two w.heap.size (fun _ => False) wr w1.heap.size (l.take j) (.slice ao3 n c3) l ∧ Below w.heap.size w wr)) (fun i _ => n - (intOf i).toNat)
  case atStart => exact ⟨0, by omega, rfl, H3.out, HB3.out⟩
  case round =>
    obtain ⟨j, hj, rfl, HR⟩ := hrel
    by_cases hlt : j < n
    · obtain rfl := HAO.out (by omega)
      obtain ⟨p, hp⟩ : ∃ p, l[j]? = some p := ⟨_, List.getElem?_eq_getElem (by rw [HL.out]; exact hlt)⟩
      have hc : ∀ k u, (pkCells p)[k]? = some u → wr.cell? ⟨b, off + j * 6 + k, none⟩ = some u := fun k u hk => (HR.out.2.cell (by exact HB.out (by omega))).trans (HC.out j p hp k u hk)
      have q0 := hc 0 _ rfl
      have q1 := hc 1 _ rfl
      have q2 := hc 2 _ rfl
      have q3 := hc 3 _ rfl
      have q4 := hc 4 _ rfl
      have q5 := hc 5 _ rfl
      rw [Nat.add_zero] at q0
      have hz := HR.out.2.size
      have HP := Lib.hid hp
      clear hc hp
      have hbel : Below w.heap.size wr ((wr.alloc (pkObj p)).alloc (pkObj p)) := ((Below.refl w.heap.size wr).alloc hz _).alloc (by rw [World.size_alloc]; omega) _
      have h2 := HR.out.1.below (((Below.refl wr.heap.size wr).alloc (Nat.le_refl _) (pkObj p)).alloc (by rw [World.size_alloc]; omega) (pkObj p)) (Nat.le_refl _)
      have hnew := News.pk (c := 1) p (heap_alloc_new (wr.alloc (pkObj p)) (pkObj p))
      rw [World.size_alloc] at hnew
      have HS := Lib.hid (two_send h2 (Nat.le_trans hz hbel.size) [p] _ hnew (by have := List.length_take_le j l; simp only [List.length_cons, List.length_nil]; have := HL.out; omega))
      have HB4 := Lib.hid (HR.out.2.trans hbel)
      clear h2 hnew hbel
      go_wp2_with fail
      refine HS.out.mono ?_
      rintro e w4 ⟨rfl, h4, hb4, -⟩
      have HR4 : Hid (Two w.heap.size (fun _ => False) w4 w1.heap.size (l.take (j + 1)) (.slice ao3 n c3) l ∧ Below w.heap.size w w4) := by
        refine ⟨?_, HB4.out.trans hb4⟩
        rw [cutPks_id _ (by have := List.length_take_le j l; simp only [List.length_append, List.length_cons, List.length_nil]; omega), ← take_snoc HP.out] at h4
        exact h4
      clear h4 hb4 HS HB4
      go_wp2_with fail
      go_roundw
      case rel => exact ⟨j + 1, by omega, by go_num, HR4⟩
      case measure => simp [intOf]; omega
    · have HJ : Hid (l.take j = l) := List.take_of_length_le (by rw [HL.out]; omega)
      have HR3 : Hid (Two w.heap.size (fun _ => False) wr w1.heap.size l (.slice ao3 n c3) l ∧ Below w.heap.size w wr) := by
        have := HR.out; rw [HJ.out] at this; exact this
      clear HR HJ
      go_wp2_with fail
      go_loopw [6, 42] (fun v i wq => ∃ (j : Nat) (ao : Option Addr) (c : Nat) (wl : List Pk), j ≤ m ∧ i = .int .i64 j ∧ v = .slice ao wl.length c ∧ wl.length ≤ 40 + j ∧ Hid (Two w.heap.size (fun _ => False) wq w1.heap.size wl (.slice ao wl.length c) wl ∧ Below w.heap.size w wq)) (fun _ i _ => m - (intOf i).toNat)
      case atStart => exact ⟨0, ao3, c3, l, by omega, rfl, by rw [HL.out], by rw [HL.out]; omega, by rw [HL.out]; exact HR3.out⟩
      case round =>
        obtain ⟨j2, ao4, c4, wl, hj2, rfl, rfl, hwl, HQ⟩ := hrel
        clear HR3
        by_cases hlt2 : j2 < m
        · obtain rfl := HTO.out (by omega)
          obtain ⟨x, hx⟩ : ∃ x, ts[j2]? = some x := ⟨_, List.getElem?_eq_getElem (by rw [HTL.out]; exact hlt2)⟩
          have hc : wr.cell? ⟨tb, toff + j2, none⟩ = some (.int .i64 x) := (HQ.out.2.cell (by exact HTB.out (by omega))).trans (HTC.out j2 x hx)
          clear hx
          by_cases hin : x < 0 ∨ (wl.length : Int) ≤ x
          · have HS := Lib.hid (two_twice_none HQ.out.1 x hin)
            by_cases h0 : x < 0
            · have d0 : decide (0 ≤ x) = false := by simp; omega
              clear hin
              go_wp2_with fail
              refine HS.out.mono ?_
              rintro e w5 ⟨rfl, rfl⟩
              go_wp2_with fail
              go_roundw
              case rel => exact ⟨j2 + 1, ao4, c4, wl, by omega, by go_num, rfl, by omega, HQ⟩
              case measure => simp [intOf]; omega
            · have d0 : decide (0 ≤ x) = true := by simp; omega
              have d1 : decide (x < (wl.length : Int)) = false := by simp; omega
              have d2 : ¬ x < (wl.length : Int) := by omega
              clear hin
              go_wp2_with fail
              refine HS.out.mono ?_
              rintro e w5 ⟨rfl, rfl⟩
              go_wp2_with fail
              go_roundw
              case rel => exact ⟨j2 + 1, ao4, c4, wl, by omega, by go_num, rfl, by omega, HQ⟩
              case measure => simp [intOf]; omega
          · obtain ⟨k, rfl⟩ := Int.eq_ofNat_of_zero_le (show 0 ≤ x by omega)
            have hk : k < wl.length := by omega
            clear hin
            obtain ⟨p, hp⟩ : ∃ p, wl[k]? = some p := ⟨_, List.getElem?_eq_getElem hk⟩
            have hz := HQ.out.2.size
            have HS := Lib.hid (two_twice HQ.out.1 hz k p hp (by omega))
            have HP := Lib.hid hp
            clear hp
            have d1 : decide ((k : Int) < (wl.length : Int)) = true := by simp; omega
            go_wp2_with fail
            refine HS.out.mono ?_
            rintro e w5 ⟨rfl, h5, hb5, -⟩
            rw [cutPks_id _ (by simp only [List.length_append, List.length_cons, List.length_nil]; omega)] at h5
            obtain ⟨G, hsl⟩ := h5.slice
            obtain ⟨b2, off2, cap2, he, _⟩ := hsl.at (by omega)
            simp only [Value.slice.injEq] at he
            obtain ⟨rfl, -, rfl⟩ := he
            have hc2 := pk_cells hsl HP.out
            have q0 := hc2 0 _ rfl
            have q1 := hc2 1 _ rfl
            have q2 := hc2 2 _ rfl
            have q3 := hc2 3 _ rfl
            have q4 := hc2 4 _ rfl
            have q5 := hc2 5 _ rfl
            rw [Nat.add_zero] at q0
            have hz5 : w.heap.size ≤ w5.heap.size := Nat.le_trans hz hb5.size
            have h6 := h5.below ((Below.refl w5.heap.size w5).alloc (Nat.le_refl _) (pkObj p)) (Nat.le_refl _)
            obtain ⟨ao7, c7, w7, hrun, h7, hb7, -⟩ := two_append h6 (by rw [World.size_alloc]; omega) [p] _ (News.pk (c := 1) p (heap_alloc_new w5 (pkObj p))) (by simp only [List.length_cons, List.length_nil]; omega)
            have HRUN := Lib.hid hrun
            have H7 := Lib.hid h7
            have HB7 : Hid (Below w.heap.size w w7) := ((HQ.out.2.trans hb5).alloc hz5 _).trans hb7
            have e1 : (wl ++ [p]).length = wl.length + 1 := by simp
            rw [e1] at HRUN H7
            clear hc2 hsl h5 hb5 h6 hrun h7 hb7 hz5 HS HQ
            go_wp2_with (at_builtin; refine wpList_append_run rfl rfl rfl rfl HRUN.out ?_)
            go_roundw
            case rel => exact ⟨j2 + 1, ao7, c7, wl ++ [p], by omega, by go_num, by rw [e1], by rw [e1]; omega, by rw [e1]; exact ⟨H7.out, HB7.out⟩⟩
            case measure => simp [intOf]; omega
        · have hw60 : wl.length ≤ 60 := by omega
          go_wp2_with fail
          clear hlt2 hj2
          go_loopw [76] (fun i wq => ∃ j : Nat, j ≤ wl.length ∧ i = .int .i64 j ∧ Hid (Two w.heap.size (fun _ => False) wq w1.heap.size (wl.drop j) (.slice ao4 wl.length c4) wl ∧ Below w.heap.size w wq)) (fun i _ => wl.length - (intOf i).toNat)
          case atStart => exact ⟨0, by omega, rfl, HQ.out⟩
          case round =>
            obtain ⟨j3, hj3, rfl, HD⟩ := hrel
            clear HQ
            by_cases hlt3 : j3 < wl.length
            · obtain ⟨p, hp⟩ : ∃ p, wl[j3]? = some p := ⟨_, List.getElem?_eq_getElem hlt3⟩
              obtain ⟨G, hsl⟩ := HD.out.1.slice
              obtain ⟨b2, off2, cap2, he, _⟩ := hsl.at (by omega)
              simp only [Value.slice.injEq] at he
              obtain ⟨rfl, -, rfl⟩ := he
              have hc2 := pk_cells hsl hp
              have q0 := hc2 0 _ rfl
              have q1 := hc2 1 _ rfl
              have q2 := hc2 2 _ rfl
              have q3 := hc2 3 _ rfl
              have q4 := hc2 4 _ rfl
              have q5 := hc2 5 _ rfl
              rw [Nat.add_zero] at q0
              have hz := HD.out.2.size
              have h6 := HD.out.1.next (Y := fun k => k = wr.heap.size) ((Below.refl wr.heap.size wr).alloc (Nat.le_refl _) (pkObj p)) (Nat.le_refl _) (fun k hk => by rw [World.size_alloc]; omega)
              have HNB := Lib.hid (heap_alloc_new wr (pkObj p))
              have HS := Lib.hid (two_take h6 (by rw [World.size_alloc]; omega) 0 p (by rw [List.getElem?_drop]; exact hp) (by rw [List.length_drop]; omega))
              have HB6 : Hid (Below w.heap.size w (wr.alloc (pkObj p))) := HD.out.2.alloc hz _
              clear hc2 hsl h6 hp
              go_wp2_with fail
              refine HS.out.mono ?_
              rintro e w5 ⟨rfl, h5, hb5, k5⟩
              rw [List.eraseIdx_zero, List.tail_drop] at h5
              have hbox := k5 _ _ rfl HNB.out
              have r0 : w5.cell? ⟨wr.heap.size, 0, none⟩ = some (.int .i64 p.ch) := cell_at hbox rfl
              have r1 : w5.cell? ⟨wr.heap.size, 1, none⟩ = some (.int .i64 p.back) := cell_at hbox rfl
              have r2 : w5.cell? ⟨wr.heap.size, 2, none⟩ = some (.int .i64 p.inc) := cell_at hbox rfl
              have r3 : w5.cell? ⟨wr.heap.size, 3, none⟩ = some (.int .i64 p.seq) := cell_at hbox rfl
              have r4 : w5.cell? ⟨wr.heap.size, 4, none⟩ = some (.int .i64 p.ack) := cell_at hbox rfl
              have r5 : w5.cell? ⟨wr.heap.size, 5, none⟩ = some (.string p.load) := cell_at hbox rfl
              have s0 := cell_alloc r0 (.cells #[.int .i64 p.ch, .int .i64 p.back, .int .i64 p.inc, .int .i64 p.seq, .int .i64 p.ack, .string p.load] 23)
              have s1 := cell_alloc r1 (.cells #[.int .i64 p.ch, .int .i64 p.back, .int .i64 p.inc, .int .i64 p.seq, .int .i64 p.ack, .string p.load] 23)
              have s2 := cell_alloc r2 (.cells #[.int .i64 p.ch, .int .i64 p.back, .int .i64 p.inc, .int .i64 p.seq, .int .i64 p.ack, .string p.load] 23)
              have s3 := cell_alloc r3 (.cells #[.int .i64 p.ch, .int .i64 p.back, .int .i64 p.inc, .int .i64 p.seq, .int .i64 p.ack, .string p.load] 23)
              have s4 := cell_alloc r4 (.cells #[.int .i64 p.ch, .int .i64 p.back, .int .i64 p.inc, .int .i64 p.seq, .int .i64 p.ack, .string p.load] 23)
              have s5 := cell_alloc r5 (.cells #[.int .i64 p.ch, .int .i64 p.back, .int .i64 p.inc, .int .i64 p.seq, .int .i64 p.ack, .string p.load] 23)
              have hz5 : w.heap.size ≤ w5.heap.size := by have := hb5.size; rw [World.size_alloc] at this; omega
              have HR5 : Hid (Two w.heap.size (fun _ => False) (w5.alloc (pkObj p)) w1.heap.size (wl.drop (j3 + 1)) (.slice (some ⟨b2, off2, none⟩) wl.length c4) wl ∧ Below w.heap.size w (w5.alloc (pkObj p))) :=
                ⟨(h5.below ((Below.refl w5.heap.size w5).alloc (Nat.le_refl _) (pkObj p)) (Nat.le_refl _)).forget, (HB6.out.trans hb5).alloc hz5 _⟩
              clear h5 hb5 k5 hbox HS HB6 HNB HD
              go_wp2_with fail
              go_roundw
              case rel => exact ⟨j3 + 1, by omega, by go_num, HR5⟩
              case measure => simp [intOf]; omega
            · have HE : Hid (wl.drop j3 = []) := List.drop_of_length_le (by omega)
              have HS := Lib.hid (two_len HD.out.1)
              rw [HE.out] at HS
              go_wp2_with fail
              refine HS.out.mono ?_
              rintro e w5 ⟨rfl, rfl⟩
              go_wp2_with fail
              go_ret
              exact ⟨rfl, HD.out.2⟩

/-- what the law lets go -/
theorem wireOrder_let (ao : Option Addr) (n cap : Nat) (to : Option Addr) (m tcap : Nat) (w : World) (hn : n ≤ maxLen) (hm : m ≤ maxLen) (hlet : 40 < n ∨ 20 < m) :
    Calls Try.prog 5 #[.slice ao n cap, .slice to m tcap] w fun e w' => e = .returned (.bool true) ∧ Below w.heap.size w w' := by
  unfold maxLen at hn hm
  by_cases c1 : 40 < n
  · clear hlet
    go_enter Try.func5, Try.ntmps5
    go_wp2_with fail
    refine (wireAwake w).mono ?_
    rintro e w1 ⟨rfl, hb1⟩
    have HB1 := Lib.hid hb1
    clear hb1
    go_wp2_with fail
    go_ret
    exact ⟨rfl, HB1.out⟩
  · have c2 : 20 < m := by omega
    clear hlet
    go_enter Try.func5, Try.ntmps5
    go_wp2_with fail
    refine (wireAwake w).mono ?_
    rintro e w1 ⟨rfl, hb1⟩
    have HB1 := Lib.hid hb1
    clear hb1
    go_wp2_with fail
    go_ret
    exact ⟨rfl, HB1.out⟩

set_option maxRecDepth 100000 in
theorem wireOrder_lawful : Lawful 5 Try.f5 := by
  intro H enc W base args ds p hval hA hlt hsz
  rw [Try.params5] at hA hval hsz
  obtain ⟨v0, v1, d0, d1, p0, p1, rfl, rfl, rfl, h0, h1⟩ := trodAll_two hA
  obtain ⟨l, b, off, ao, n, cap, rfl, _, hn, hl, _, hao, hb, hc⟩ := sliceArg pkCells PkOk 6 (by omega) under_pks cells_pk (fun fuel cs y a1 a2 _ => rdPk fuel cs y a1 a2) (hval 0 28 v0 rfl rfl) h0 (weights_in (j := 0) hsz rfl rfl) hlt (fun x hx => List.mem_append_left _ hx)
  obtain ⟨ts, tb, toff, to, m, tcap, rfl, _, hm, htl, _, hto, htb, htc⟩ := sliceArg (fun x : Int => [.int .i64 x]) inI64 1 (by omega) under_ints cells_int (fun fuel cs y a1 _ _ => rdInts fuel cs y a1) (hval 1 50 v1 rfl rfl) h1 (weights_in (j := 1) hsz rfl rfl) hlt (fun x hx => by simp [hx])
  by_cases hlet : 40 < n ∨ 20 < m
  · exact wireOrder_let ao n cap to m tcap W hn hm hlet
  · exact wireOrder_law ao b off n cap l to tb toff m tcap ts W hao hb hl hc hto htb htl (fun i x hx => by have := htc i x hx 0 _ rfl; rwa [Nat.mul_one, Nat.add_zero] at this) (by omega) (by omega)

theorem wireOrder_holds : Rows.WireOrderSaid :=
  OpenClaim.holds_of_wide 5 Try.f5 rfl rfl rfl rfl rfl rfl rfl ⟨rfl, rfl, rfl, rfl, rfl⟩ rfl rfl rfl rfl rfl (by kernel_rfl) Try.func5 (by kernel_rfl)
    (of_decide_eq_true (by kernel_rfl)) (by unfold Func.isWrapper; rw [if_neg (of_decide_eq_false (by kernel_rfl))]; exact ⟨rfl, rfl⟩)
    (fun os started H enc _ => law_lift (s := Rows.wireOrderSpec) Try.func5 (by kernel_rfl) rfl rfl rfl (by rw [Try.params5]; intro t ht; simp at ht; rcases ht with rfl | rfl <;> exact ⟨by kernel_rfl, of_decide_eq_true (by kernel_rfl)⟩)
      (by rw [Try.params5]; intro H ds hds; match ds, hds with | [d1, d2], _ => exact ⟨rfl, rfl, rfl⟩) wireOrder_lawful os started H enc
      (ChangeSpec.witness6 (enc := enc) (C := Try.checked) false ⟨#[], #[.slice none 0 0, .slice none 0 0], []⟩ 8 (by kernel_rfl) (by kernel_rfl) (by kernel_rfl) (by kernel_rfl)))
end Go.Proofs.Ytecpgkcoehnpbaa
