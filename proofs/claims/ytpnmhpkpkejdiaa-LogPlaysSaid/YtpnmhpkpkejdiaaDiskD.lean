/- Layer 14: the walks of Sync, Truncate, Fuse, New. -/
import Derived.Test.YtpnmhpkpkejdiaaDiskC
namespace Go.Proofs.Ytpnmhpkpkejdiaa
open Go.RowKit

/-- y lasts, and nothing else is there -/
def DSt.only (s : DSt) (y : ByteArray) : DSt := ⟨s.left, s.down, y, [], s.cap⟩
def DSt.bytes (s : DSt) : ByteArray := ⟨s.all.toArray⟩
def DSt.sync (s : DSt) : Int × DSt := if s.down then (8, s) else if s.left = 0 then (8, s.burnt) else (0, s.burnt.only s.bytes)
def DSt.trunc (s : DSt) (n : Int) : Int × DSt := if s.down then (8, s) else if n < 0 ∨ (s.all.length : Int) < n then (2, s) else if s.left = 0 then (8, s.burnt) else (0, s.burnt.only (s.bytes.extract 0 n.toNat))
def DSt.fuse (s : DSt) (n : Int) : DSt := ⟨max n (-1), s.down, s.lasts, s.pieces, s.cap⟩

theorem only_store {w : World} {F : Nat → Prop} {g : Nat} {s : DSt} (h : DiskAt w F g s) (y : ByteArray) :
    DiskAt ((w.setCell ⟨g, 2, none⟩ (.string y)).setCell ⟨g, 3, none⟩ (.slice none 0 0)) F g (s.only y) ∧ Chg w ((w.setCell ⟨g, 2, none⟩ (.string y)).setCell ⟨g, 3, none⟩ (.slice none 0 0)) F := by
  obtain ⟨hF, v, hg, _⟩ := h
  exact ⟨⟨hF, _, heap_setCell_same (i := 3) (heap_setCell_same (i := 2) hg _) _, Sl.nil _ _ _ _⟩, ((Chg.refl w F).setCell (fun _ => hF) _).setCell (fun _ => hF) _⟩

set_option maxRecDepth 100000 in
set_option maxHeartbeats 1600000 in
theorem sync_any (g N : Nat) (s : DSt) (F : Nat → Prop) (w : World) (h : DiskAt w F g s) (ok : DOk N s) (hN : N ≤ 100000) :
    Calls Try.prog 31 #[.pointer (some ⟨g, 0, none⟩)] w fun e w' => e = .returned (.int .i64 s.sync.1) ∧ DiskAt w' (fun k => (F k ∧ k < w.heap.size) ∨ w.heap.size ≤ k) g s.sync.2 ∧ Chg w w' F := by
  have o0 := ok.c0; have o1 := ok.c1; have o2 := ok.all; have o3 := ok.pieces
  have hw := wrong_any g s F w h
  unfold DSt.sync
  by_cases hd : s.down = true
  · rw [if_pos hd]
    rw [hd] at hw
    have HW := Lib.hid hw
    have HR := Lib.hid h.tight
    clear hw hd h
    go_enter Try.func31, Try.ntmps31
    go_wp2_with fail
    refine HW.out.mono ?_
    rintro e w1 ⟨rfl, rfl⟩
    go_wp2_with fail
    go_ret
    exact ⟨rfl, HR.out, Chg.refl _ _⟩
  · rw [if_neg hd]
    have hd : s.down = false := by simpa using hd
    rw [hd] at hw
    have HW := Lib.hid hw
    have hb2 := burn_any g s F w h ok.l0 ok.l1
    by_cases h0 : s.left = 0
    · rw [if_pos h0]
      have e0 : (s.left != 0) = false := by rw [bne_eq_false_iff_eq]; exact h0
      rw [e0] at hb2
      have HB2 := Lib.hid hb2
      clear hw h hd hb2 h0 e0 ok
      go_enter Try.func31, Try.ntmps31
      go_wp2_with fail
      refine HW.out.mono ?_
      rintro e w1 ⟨rfl, rfl⟩
      go_wp2_with fail
      refine HB2.out.mono ?_
      rintro e w2 ⟨rfl, h2, c2⟩
      have HD2 : Hid (DiskAt w2 (fun k => (F k ∧ k < w.heap.size) ∨ w.heap.size ≤ k) g s.burnt) := h2.mono fun k _ a => by
        by_cases hk : k < w.heap.size
        · exact .inl ⟨a, hk⟩
        · exact .inr (by omega)
      have HC2 := Lib.hid c2
      clear h2 c2
      go_wp2_with fail
      go_ret
      exact ⟨rfl, HD2.out, HC2.out⟩
    · rw [if_neg h0]
      have e0 : (s.left != 0) = true := by rw [bne_iff_ne]; exact h0
      rw [e0] at hb2
      have HB2 := Lib.hid hb2
      obtain ⟨b1, b2, b3, b4⟩ := burnt_parts s
      obtain ⟨s1, hs1⟩ : ∃ s1, s.burnt = s1 := ⟨_, rfl⟩
      rw [hs1] at HB2 b2 b4 ⊢
      have hby : (⟨s1.all.toArray⟩ : ByteArray) = s.bytes := by rw [b4]; rfl
      have ha1 : s1.all.length ≤ 140737488355328 := by rw [b4]; omega
      have hp1 : s1.pieces.length ≤ 1000000 := by rw [b2]; omega
      have HBY := Lib.hid hby
      clear hw h hd hb2 h0 e0 ok hs1 b1 b2 b3 b4 hby
      generalize s.bytes = y at *
      go_enter Try.func31, Try.ntmps31
      go_wp2_with fail
      refine HW.out.mono ?_
      rintro e w1 ⟨rfl, rfl⟩
      go_wp2_with fail
      refine HB2.out.mono ?_
      rintro e w2 ⟨rfl, h2, c2⟩
      have ha := all_any g s1 F w2 h2 ha1 hp1
      rw [HBY.out] at ha
      have HA := Lib.hid ha
      have HD2 := Lib.hid h2
      have HC2 := Lib.hid c2
      clear h2 c2 ha
      go_wp2_with fail
      refine HA.out.mono ?_
      rintro e w3 ⟨rfl, hb3⟩
      have h3 := HD2.out.below hb3 (Nat.le_refl _)
      have hst := only_store h3 y
      obtain ⟨hF, v, hg, _⟩ := id h3
      have f2 := free_at hg 2
      have f3 := free_at hg 3
      obtain ⟨u2, hu2⟩ : ∃ u, w3.cell? ⟨g, 2, none⟩ = some u := ⟨_, cell_at hg rfl⟩
      obtain ⟨u3, hu3⟩ : ∃ u, w3.cell? ⟨g, 3, none⟩ = some u := ⟨_, cell_at hg rfl⟩
      have hglt := heap_lt hg
      have HST : Hid (DiskAt ((w3.setCell ⟨g, 2, none⟩ (.string y)).setCell ⟨g, 3, none⟩ (.slice none 0 0)) (fun k => (F k ∧ k < w.heap.size) ∨ w.heap.size ≤ k) g (s1.only y)) := hst.1.mono fun k _ a => by
        by_cases hk : k < w.heap.size
        · exact .inl ⟨a, hk⟩
        · exact .inr (by omega)
      have HC : Hid (Chg w ((w3.setCell ⟨g, 2, none⟩ (.string y)).setCell ⟨g, 3, none⟩ (.slice none 0 0)) F) := (HC2.out.trans (Chg.of_below hb3 (fun _ => False) (fun i a b => absurd a (by omega))) (fun _ _ a => a.elim)).trans hst.2 (fun _ _ a => a)
      clear h3 hst hF hg hb3
      go_wp2_with fail
      go_ret
      exact ⟨rfl, HST.out, HC.out⟩

set_option maxRecDepth 100000 in
set_option maxHeartbeats 1600000 in
theorem trunc_any (g N : Nat) (s : DSt) (F : Nat → Prop) (w : World) (n : Int) (h : DiskAt w F g s) (ok : DOk N s) (hN : N ≤ 100000) :
    Calls Try.prog 35 #[.pointer (some ⟨g, 0, none⟩), .int .i64 n] w fun e w' => e = .returned (.int .i64 (s.trunc n).1) ∧ DiskAt w' (fun k => (F k ∧ k < w.heap.size) ∨ w.heap.size ≤ k) g (s.trunc n).2 ∧ Chg w w' F := by
  have o0 := ok.c0; have o1 := ok.c1; have o2 := ok.all; have o3 := ok.pieces
  have hw := wrong_any g s F w h
  unfold DSt.trunc
  by_cases hd : s.down = true
  · rw [if_pos hd]
    rw [hd] at hw
    have HW := Lib.hid hw
    have HR := Lib.hid h.tight
    clear hw hd h
    go_enter Try.func35, Try.ntmps35
    go_wp2_with fail
    refine HW.out.mono ?_
    rintro e w1 ⟨rfl, rfl⟩
    go_wp2_with fail
    go_ret
    exact ⟨rfl, HR.out, Chg.refl _ _⟩
  · rw [if_neg hd]
    have hd : s.down = false := by simpa using hd
    rw [hd] at hw
    have HW := Lib.hid hw
    by_cases hn0 : n < 0
    · rw [if_pos (.inl hn0)]
      have HR := Lib.hid h.tight
      have hdc : decide (n < 0) = true := by simp; omega
      clear hw hd h hn0
      go_enter Try.func35, Try.ntmps35
      go_wp2_with fail
      refine HW.out.mono ?_
      rintro e w1 ⟨rfl, rfl⟩
      go_wp2_with fail
      go_ret
      exact ⟨rfl, HR.out, Chg.refl _ _⟩
    · have HLN := Lib.hid (len_any g s F w h (by omega) (by omega))
      have hdc : decide (n < 0) = false := by simp; omega
      by_cases hn1 : (s.all.length : Int) < n
      · rw [if_pos (.inr hn1)]
        have HR := Lib.hid h.tight
        have hdc1 : decide ((s.all.length : Int) < n) = true := by simp; omega
        clear hw hd h hn0 hn1
        generalize s.all.length = q at *
        go_enter Try.func35, Try.ntmps35
        go_wp2_with fail
        refine HW.out.mono ?_
        rintro e w1 ⟨rfl, rfl⟩
        go_wp2_with fail
        refine HLN.out.mono ?_
        rintro e w1 ⟨rfl, hb⟩
        have HB := Lib.hid hb
        clear hb
        go_wp2_with fail
        go_ret
        exact ⟨rfl, HR.out.below HB.out (Nat.le_refl _), Chg.of_below HB.out _ (fun i a b => absurd a (by omega))⟩
      · rw [if_neg (fun x => x.elim hn0 hn1)]
        have hdc1 : decide ((s.all.length : Int) < n) = false := by simp; omega
        obtain ⟨m, rfl⟩ := Int.eq_ofNat_of_zero_le (show 0 ≤ n by omega)
        rw [Int.toNat_natCast]
        have hdc2 : decide (s.all.length < m) = false := by simp; omega
        have l0 := ok.l0
        have l1 := ok.l1
        have HH := Lib.hid h
        by_cases h0 : s.left = 0
        · rw [if_pos h0]
          have HL : Hid ((s.left != 0) = false) := by show (s.left != 0) = false; rw [bne_eq_false_iff_eq]; exact h0
          clear hw h hd h0 ok hn0 hn1
          go_enter Try.func35, Try.ntmps35
          go_wp2_with fail
          refine HW.out.mono ?_
          rintro e w1 ⟨rfl, rfl⟩
          go_wp2_with fail
          refine HLN.out.mono ?_
          rintro e w1 ⟨rfl, hb⟩
          have hb2 := burn_any g s _ w1 (HH.out.tight.below hb (Nat.le_refl _)) l0 l1
          rw [HL.out] at hb2
          have HB := Lib.hid hb
          have HB2 := Lib.hid hb2
          clear hb hb2
          go_wp2_with fail
          refine HB2.out.mono ?_
          rintro e w2 ⟨rfl, h2, c2⟩
          have HD2 := Lib.hid h2
          have HC2 := Lib.hid c2
          clear h2 c2
          go_wp2_with fail
          go_ret
          refine ⟨rfl, HD2.out, (Chg.of_below HB.out F (fun i a b => absurd a (by omega))).trans HC2.out (fun k hk a => ?_)⟩
          rcases a with ⟨a, _⟩ | a
          · exact a
          · exact absurd a (by omega)
        · rw [if_neg h0]
          have HL : Hid ((s.left != 0) = true) := by show (s.left != 0) = true; rw [bne_iff_ne]; exact h0
          obtain ⟨b1, b2, b3, b4⟩ := burnt_parts s
          obtain ⟨s1, hs1⟩ : ∃ s1, s.burnt = s1 := ⟨_, rfl⟩
          rw [hs1] at b2 b4 ⊢
          have hby : (⟨s1.all.toArray⟩ : ByteArray) = s.bytes := by rw [b4]; rfl
          have hbs : s.bytes.size = s.all.length := size_all s
          have ha1 : s1.all.length ≤ 140737488355328 := by rw [b4]; omega
          have hp1 : s1.pieces.length ≤ 1000000 := by rw [b2]; omega
          have HBY := Lib.hid hby
          have HS1 := Lib.hid hs1
          have hmb : m ≤ s.bytes.size := by omega
          clear hw h hd h0 ok hs1 b1 b2 b3 b4 hby hbs hn0 hn1
          generalize s.bytes = y at *
          go_enter Try.func35, Try.ntmps35
          go_wp2_with fail
          refine HW.out.mono ?_
          rintro e w1 ⟨rfl, rfl⟩
          go_wp2_with fail
          refine HLN.out.mono ?_
          rintro e w1 ⟨rfl, hb⟩
          have hb2 := burn_any g s _ w1 (HH.out.tight.below hb (Nat.le_refl _)) l0 l1
          rw [HL.out, HS1.out] at hb2
          have HB := Lib.hid hb
          have HB2 := Lib.hid hb2
          have hz1 := hb.size
          clear hb hb2
          go_wp2_with fail
          refine HB2.out.mono ?_
          rintro e w2 ⟨rfl, h2, c2⟩
          have ha := all_any g s1 _ w2 h2 ha1 hp1
          rw [HBY.out] at ha
          have HA := Lib.hid ha
          have HD2 := Lib.hid h2
          have HC2 := Lib.hid c2
          clear h2 c2 ha
          go_wp2_with fail
          refine HA.out.mono ?_
          rintro e w3 ⟨rfl, hb3⟩
          have h3 := HD2.out.below hb3 (Nat.le_refl _)
          have hst := only_store h3 (y.extract 0 m)
          obtain ⟨hF, v, hg, _⟩ := id h3
          have f2 := free_at hg 2
          have f3 := free_at hg 3
          obtain ⟨u2, hu2⟩ : ∃ u, w3.cell? ⟨g, 2, none⟩ = some u := ⟨_, cell_at hg rfl⟩
          obtain ⟨u3, hu3⟩ : ∃ u, w3.cell? ⟨g, 3, none⟩ = some u := ⟨_, cell_at hg rfl⟩
          have hglt := heap_lt hg
          have HST := Lib.hid hst.1
          have HC : Hid (Chg w ((w3.setCell ⟨g, 2, none⟩ (.string (y.extract 0 m))).setCell ⟨g, 3, none⟩ (.slice none 0 0)) F) := (((Chg.of_below HB.out F (fun i a b => absurd a (by omega))).trans HC2.out (fun k hk a => by
            rcases a with ⟨a, _⟩ | a
            · exact a
            · exact absurd a (by omega))).trans (Chg.of_below hb3 (fun _ => False) (fun i a b => absurd a (by omega))) (fun _ _ a => a.elim)).trans hst.2 (fun k hk a => by
            rcases a with ⟨a, _⟩ | a
            · exact a
            · exact absurd a (by omega))
          clear h3 hst hF hg hb3
          go_wp2_with fail
          go_ret
          exact ⟨rfl, HST.out, HC.out⟩

set_option maxRecDepth 100000 in
set_option maxHeartbeats 800000 in
theorem fuse_any (g : Nat) (s : DSt) (F : Nat → Prop) (w : World) (n : Int) (h : DiskAt w F g s) :
    Calls Try.prog 32 #[.pointer (some ⟨g, 0, none⟩), .int .i64 n] w fun e w' => e = .returned (.tuple #[]) ∧ DiskAt w' F g (s.fuse n) ∧ Chg w w' F := by
  obtain ⟨hF, v, hg, hs⟩ := h
  have c0 : w.cell? ⟨g, 0, none⟩ = some (.int .i64 s.left) := cell_at hg rfl
  have f0 := free_at hg 0
  have hglt := heap_lt hg
  unfold DSt.fuse
  obtain ⟨q, hq⟩ : ∃ q : Int, max n (-1) = q := ⟨_, rfl⟩
  rw [hq]
  have HR : Hid (DiskAt (w.setCell ⟨g, 0, none⟩ (.int .i64 q)) F g ⟨q, s.down, s.lasts, s.pieces, s.cap⟩ ∧ Chg w (w.setCell ⟨g, 0, none⟩ (.int .i64 q)) F) :=
    ⟨⟨hF, v, heap_setCell_same (i := 0) hg _, hs.keep fun k hk _ => Below.heap_setCell _ _ _ _ hk.2⟩, (Chg.refl w F).setCell (fun _ => hF) _⟩
  clear hg hs
  go_enter Try.func32, Try.ntmps32
  go_wp2_with fail
  go_end0
  exact ⟨rfl, HR.out⟩

def capOf (n : Int) : Int := min (max n 0) 16777216
def dst0 (n : Int) : DSt := ⟨-1, false, ByteArray.empty, [], capOf n⟩
set_option maxRecDepth 100000 in
set_option maxHeartbeats 800000 in
theorem new_any (n : Int) (w : World) :
    Calls Try.prog 24 #[.int .i64 n] w fun e w' => e = .returned (.pointer (some ⟨w.heap.size, 0, none⟩)) ∧ DiskAt w' (fun k => w.heap.size ≤ k) w.heap.size (dst0 n) ∧ Below w.heap.size w w' := by
  unfold dst0 capOf
  obtain ⟨m, hm⟩ : ∃ m : Int, min (max n 0) 16777216 = m := ⟨_, rfl⟩
  rw [hm]
  have HR : Hid (DiskAt (w.alloc (.cells (diskCells ⟨-1, false, ByteArray.empty, [], m⟩ (.slice none 0 0)) 89)) (fun k => w.heap.size ≤ k) w.heap.size ⟨-1, false, ByteArray.empty, [], m⟩ ∧ Below w.heap.size w (w.alloc (.cells (diskCells ⟨-1, false, ByteArray.empty, [], m⟩ (.slice none 0 0)) 89))) :=
    ⟨⟨Nat.le_refl _, _, heap_alloc_new w _, Sl.nil _ _ _ _⟩, (Below.refl _ _).alloc (Nat.le_refl _) _⟩
  go_enter Try.func24, Try.ntmps24
  go_wp2_with fail
  go_ret
  exact ⟨rfl, HR.out⟩
end Go.Proofs.Ytpnmhpkpkejdiaa
