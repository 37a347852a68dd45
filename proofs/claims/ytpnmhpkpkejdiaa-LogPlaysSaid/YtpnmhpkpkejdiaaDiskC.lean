/- Layer 14: the walks of Append, Sync, Truncate, Fuse, New. -/
import Derived.Test.YtpnmhpkpkejdiaaDiskB
namespace Go.Proofs.Ytpnmhpkpkejdiaa
open Go.RowKit

/-- what always holds of a disk that at most N pieces were written to -/
structure DOk (N : Nat) (s : DSt) : Prop where
  c0 : 0 ≤ s.cap
  c1 : s.cap ≤ 16777216
  all : (s.all.length : Int) ≤ s.cap
  pieces : s.pieces.length ≤ N
  l0 : -1 ≤ s.left
  l1 : s.left ≤ 9223372036854775807
theorem burnt_parts (s : DSt) : s.burnt.lasts = s.lasts ∧ s.burnt.pieces = s.pieces ∧ s.burnt.cap = s.cap ∧ s.burnt.all = s.all := by
  unfold DSt.burnt
  split
  · exact ⟨rfl, rfl, rfl, rfl⟩
  · split <;> exact ⟨rfl, rfl, rfl, rfl⟩
theorem DOk.burnt {N : Nat} {s : DSt} (h : DOk N s) : DOk N s.burnt := by
  obtain ⟨b1, b2, b3, b4⟩ := burnt_parts s
  refine ⟨b3 ▸ h.c0, b3 ▸ h.c1, by rw [b3, b4]; exact h.all, b2 ▸ h.pieces, ?_, ?_⟩
  · have := h.l0
    unfold DSt.burnt
    split
    · simp
    · split
      · simp only; omega
      · exact h.l0
  · have := h.l1
    unfold DSt.burnt
    split
    · simp
    · split
      · simp only; omega
      · exact h.l1
/-- a piece more -/
def DSt.more (s : DSt) (x : ByteArray) : DSt := ⟨s.left, s.down, s.lasts, s.pieces ++ [x], s.cap⟩
theorem more_all (s : DSt) (x : ByteArray) : (s.more x).all = s.all ++ x.data.toList := by
  unfold DSt.more DSt.all DSt.tail
  simp
def DSt.append (s : DSt) (x : ByteArray) : Int × DSt :=
  if s.down then (8, s) else if s.cap - (s.all.length : Nat) < (x.size : Nat) then (7, s) else if s.left = 0 then (8, s.burnt) else if x.toList = [] then (0, s.burnt) else (0, s.burnt.more x)

theorem DiskAt.tight {w : World} {F : Nat → Prop} {g : Nat} {s : DSt} (h : DiskAt w F g s) : DiskAt w (fun k => (F k ∧ k < w.heap.size) ∨ w.heap.size ≤ k) g s := h.mono fun k a b => .inl ⟨b, a⟩

set_option maxRecDepth 100000 in
set_option maxHeartbeats 1600000 in
theorem append_any (g N : Nat) (s : DSt) (F : Nat → Prop) (w : World) (x : ByteArray) (h : DiskAt w F g s) (ok : DOk N s) (hN : N ≤ 100000) (hx : x.size ≤ 140737488351232) :
    Calls Try.prog 26 #[.pointer (some ⟨g, 0, none⟩), .string x] w fun e w' => e = .returned (.int .i64 (s.append x).1) ∧ DiskAt w' (fun k => (F k ∧ k < w.heap.size) ∨ w.heap.size ≤ k) g (s.append x).2 ∧ Chg w w' F := by
  have o0 := ok.c0; have o1 := ok.c1; have o2 := ok.all; have o3 := ok.pieces
  have hw := wrong_any g s F w h
  unfold DSt.append
  by_cases hd : s.down = true
  · rw [if_pos hd]
    rw [hd] at hw
    have HW := Lib.hid hw
    have HR := Lib.hid h.tight
    clear hw hd h
    go_enter Try.func26, Try.ntmps26
    go_wp2_with fail
    refine HW.out.mono ?_
    rintro e w1 ⟨rfl, rfl⟩
    go_wp2_with fail
    go_ret
    exact ⟨rfl, HR.out, Chg.refl _ _⟩
  · rw [if_neg hd]
    have hd : s.down = false := by simpa using hd
    rw [hd] at hw
    have HW := Lib.hid hw
    have HRM := Lib.hid (room_any g s F w h (by omega) (by omega) o0 o1)
    by_cases hf : s.cap - (s.all.length : Nat) < (x.size : Nat)
    · rw [if_pos hf]
      have HR := Lib.hid h.tight
      have HH := Lib.hid h
      obtain ⟨q, hq⟩ : ∃ q : Int, s.cap - (s.all.length : Nat) = q := ⟨_, rfl⟩
      rw [hq] at hf HRM
      have hdc : decide (q < (x.size : Int)) = true := by simp; omega
      clear hw h hd hq hf
      go_enter Try.func26, Try.ntmps26
      go_wp2_with fail
      refine HW.out.mono ?_
      rintro e w1 ⟨rfl, rfl⟩
      go_wp2_with fail
      refine HRM.out.mono ?_
      rintro e w1 ⟨rfl, hb⟩
      have HB := Lib.hid hb
      clear hb
      go_wp2_with fail
      go_ret
      exact ⟨rfl, HR.out.below HB.out (Nat.le_refl _), Chg.of_below HB.out _ (fun i a b => absurd a (by omega))⟩
    · rw [if_neg hf]
      obtain ⟨q, hq⟩ : ∃ q : Int, s.cap - (s.all.length : Nat) = q := ⟨_, rfl⟩
      rw [hq] at hf HRM
      have hdc : decide (q < (x.size : Int)) = false := by simp; omega
      have HH := Lib.hid h
      have l0 := ok.l0
      have l1 := ok.l1
      have HOK := Lib.hid ok
      clear hw h hd hq hf ok
      by_cases h0 : s.left = 0
      · rw [if_pos h0]
        have HL : Hid ((s.left != 0) = false) := by show (s.left != 0) = false; rw [bne_eq_false_iff_eq]; exact h0
        clear h0
        go_enter Try.func26, Try.ntmps26
        go_wp2_with fail
        refine HW.out.mono ?_
        rintro e w1 ⟨rfl, rfl⟩
        go_wp2_with fail
        refine HRM.out.mono ?_
        rintro e w1 ⟨rfl, hb⟩
        have hb2 := burn_any g s _ w1 (HH.out.tight.below hb (Nat.le_refl _)) l0 l1
        rw [HL.out] at hb2
        have HB := Lib.hid hb
        have HB2 := Lib.hid hb2
        clear hb hb2
        go_wp2_with fail
        refine HB2.out.mono ?_
        rintro e w2 ⟨rfl, h2, c2⟩
        have HD2 := Lib.hid h2
        have HC2 := Lib.hid c2
        clear h2 c2
        go_wp2_with fail
        go_ret
        refine ⟨rfl, HD2.out, (Chg.of_below HB.out F (fun i a b => absurd a (by omega))).trans HC2.out (fun k hk a => ?_)⟩
        rcases a with ⟨a, _⟩ | a
        · exact a
        · exact absurd a (by omega)
      · rw [if_neg h0]
        have HL : Hid ((s.left != 0) = true) := by show (s.left != 0) = true; rw [bne_iff_ne]; exact h0
        clear h0
        by_cases hx0 : x.toList = []
        · rw [if_pos hx0]
          have hle : x.toList.isEmpty = true := by rw [hx0]; rfl
          go_enter Try.func26, Try.ntmps26
          go_wp2_with fail
          refine HW.out.mono ?_
          rintro e w1 ⟨rfl, rfl⟩
          go_wp2_with fail
          refine HRM.out.mono ?_
          rintro e w1 ⟨rfl, hb⟩
          have hb2 := burn_any g s _ w1 (HH.out.tight.below hb (Nat.le_refl _)) l0 l1
          rw [HL.out] at hb2
          have HB := Lib.hid hb
          have HB2 := Lib.hid hb2
          clear hb hb2
          go_wp2_with fail
          refine HB2.out.mono ?_
          rintro e w2 ⟨rfl, h2, c2⟩
          have HD2 := Lib.hid h2
          have HC2 := Lib.hid c2
          clear h2 c2
          go_wp2_with fail
          go_ret
          refine ⟨rfl, HD2.out, (Chg.of_below HB.out F (fun i a b => absurd a (by omega))).trans HC2.out (fun k hk a => ?_)⟩
          rcases a with ⟨a, _⟩ | a
          · exact a
          · exact absurd a (by omega)
        · rw [if_neg hx0]
          have hle : x.toList.isEmpty = false := by cases h : x.toList with | nil => exact absurd h hx0 | cons a b => rfl
          have HSB : Hid (s.burnt.pieces.length ≤ 100000) := by rw [(burnt_parts s).2.1]; exact Nat.le_trans o3 hN
          clear hx0
          go_enter Try.func26, Try.ntmps26
          go_wp2_with fail
          refine HW.out.mono ?_
          rintro e w1 ⟨rfl, rfl⟩
          go_wp2_with fail
          refine HRM.out.mono ?_
          rintro e w1 ⟨rfl, hb⟩
          have hb2 := burn_any g s _ w1 (HH.out.tight.below hb (Nat.le_refl _)) l0 l1
          rw [HL.out] at hb2
          have HB := Lib.hid hb
          have HB2 := Lib.hid hb2
          clear hb hb2
          go_wp2_with fail
          refine HB2.out.mono ?_
          rintro e w2 ⟨rfl, h2, c2⟩
          have hz1 : w.heap.size ≤ w1.heap.size := HB.out.size
          have hz2 := c2.size
          obtain ⟨b1, b2, b3, b4⟩ := burnt_parts s
          obtain ⟨s1, hs1⟩ : ∃ s1, s.burnt = s1 := ⟨_, rfl⟩
          rw [hs1] at h2 HSB
          obtain ⟨hF, v, hg, hs⟩ := h2.mono (G := fun k => (F k ∧ k < w.heap.size) ∨ (w.heap.size ≤ k ∧ k < w2.heap.size)) (fun k a b => b.imp id fun b => ⟨b, a⟩)
          obtain ⟨ao, cp, rfl, _, _⟩ := hs.shape
          have p3 : w2.cell? ⟨g, 3, none⟩ = some (.slice ao s1.pieces.length cp) := cell_at hg rfl
          have hglt := heap_lt hg
          have sA : Sl (w2.alloc (.cells #[.string x] 9)) (fun k => ((F k ∧ k < w.heap.size) ∨ (w.heap.size ≤ k ∧ k < w2.heap.size)) ∧ k ≠ g) 9 1 (.slice ao s1.pieces.length cp) s1.pieces.length (strCells s1.pieces) := hs.keep fun k _ hk => Below.heap_alloc _ _ _ hk
          obtain ⟨v', w3, hrun, s3, ch3⟩ := append_str x sA (heap_alloc_new w2 _) (by have := HSB.out; omega)
          obtain ⟨ao', cp', rfl, _, _⟩ := s3.shape
          have zA : (w2.alloc (.cells #[.string x] 9)).heap.size = w2.heap.size + 1 := World.size_alloc _ _
          have z3 : w2.heap.size + 1 ≤ w3.heap.size := by rw [← zA]; exact ch3.size
          have g3 := ch3.heap (heap_alloc_same hg _) (fun hk => (own_lt sA hk).1.2 rfl)
          have q3 : w3.cell? ⟨g, 3, none⟩ = some (.slice ao s1.pieces.length cp) := cell_at g3 rfl
          have f3 := free_at g3 3
          have hg3 := heap_lt g3
          have HD : Hid (DiskAt (w3.setCell ⟨g, 3, none⟩ (.slice ao' (s1.pieces.length + 1) cp')) (fun k => (F k ∧ k < w.heap.size) ∨ w.heap.size ≤ k) g (s1.more x)) := by
            refine ⟨hF.imp id fun a => a.1, _, heap_setCell_same (i := 3) g3 _, ?_⟩
            have e : (s1.more x).pieces.length = s1.pieces.length + 1 := by simp [DSt.more]
            rw [e]
            refine (s3.mono (G := fun k => ((F k ∧ k < w.heap.size) ∨ w.heap.size ≤ k) ∧ k ≠ g) fun k _ hk => ?_).keep fun k hk _ => Below.heap_setCell _ _ _ _ hk.2
            rcases hk with ⟨⟨hk, h2⟩, _⟩ | hk
            · exact ⟨hk.imp id fun a => a.1, h2⟩
            · rw [hk, zA]; exact ⟨.inr (by omega), by omega⟩
          have HC : Hid (Chg w (w3.setCell ⟨g, 3, none⟩ (.slice ao' (s1.pieces.length + 1) cp')) F) := by
            have c12 : Chg w w2 F := (Chg.of_below HB.out F (fun i a b => absurd a (by omega))).trans c2 (fun k hk a => by
              rcases a with ⟨a, _⟩ | a
              · exact a
              · exact absurd a (by omega))
            refine ((c12.alloc _).trans ch3 fun k hk a => ?_).setCell (fun hlt => ?_) _
            · rcases (own_lt sA a).1.1 with ⟨b, _⟩ | ⟨b, _⟩
              · exact b
              · exact absurd b (by omega)
            · rcases hF with ⟨b, _⟩ | ⟨b, _⟩
              · exact b
              · exact absurd b (by have : g < w.heap.size := hlt; omega)
          have HRUN := Lib.hid hrun
          have HS1 := Lib.hid hs1
          clear h2 c2 hF hg hs sA s3 ch3 g3 hrun hs1 b1 b2 b3 b4 HB HB2 HH HOK HW HRM
          go_wp2_with (at_builtin; refine wpList_append_run rfl rfl rfl rfl HRUN.out ?_)
          go_ret
          exact ⟨rfl, by rw [HS1.out]; exact HD.out, HC.out⟩
end Go.Proofs.Ytpnmhpkpkejdiaa
