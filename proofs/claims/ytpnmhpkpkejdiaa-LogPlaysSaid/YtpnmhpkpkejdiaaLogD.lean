/- Layer 15: the walks of Open and Append. -/
import Derived.Test.YtpnmhpkpkejdiaaLogC
import Derived.Test.YtpnmhpkpkejdiaaDiskJ
import Derived.Test.YtpnmhpkpkejdiaaAnyAll
set_option linter.unusedSimpArgs false
namespace Go.Proofs.Ytpnmhpkpkejdiaa
open Go.RowKit

/-- a disk and a log of it, in blocks apart, none in a block of X -/
def LD (w : World) (B : Nat) (X : Nat → Prop) (gd gl : Nat) (s : DSt) (l : List ByteArray) : Prop :=
  (∀ q, X q → q < w.heap.size) ∧ ∃ col : Nat → Nat, DiskAt w (fun k => B ≤ k ∧ ¬ X k ∧ col k = 0) gd s ∧ LogAt w (fun k => B ≤ k ∧ ¬ X k ∧ col k = 1) gl gd l
theorem DiskAt.chgAtL {w w' : World} {F S : Nat → Prop} {g : Nat} {s : DSt} (h : DiskAt w F g s) (hc : Chg w w' S) (hs : ∀ k, k < w.heap.size → F k → ¬ S k) : DiskAt w' F g s :=
  (h.mono (G := fun k => F k ∧ k < w.heap.size) (fun k a b => ⟨b, a⟩)).chg hc (fun k a => hs k a.2 a.1) |>.mono (fun k _ a => a.1)
theorem LD.extend {w w' : World} {B gd gl : Nat} {X Y : Nat → Prop} {s : DSt} {l : List ByteArray} (h : LD w B X gd gl s l) (hb : Below w.heap.size w w') (h1 : ∀ q, q < w.heap.size → Y q → X q) (h3 : ∀ q, Y q → q < w'.heap.size) : LD w' B Y gd gl s l := by
  obtain ⟨h2, col, d0, d1⟩ := h
  exact ⟨h3, col, (d0.mono fun q a b => ⟨b.1, fun y => b.2.1 (h1 q a y), b.2.2⟩).below hb (Nat.le_refl _), (d1.mono fun q a b => ⟨b.1, fun y => b.2.1 (h1 q a y), b.2.2⟩).below hb⟩
theorem LD.below {w w' : World} {B gd gl : Nat} {X : Nat → Prop} {s : DSt} {l : List ByteArray} (h : LD w B X gd gl s l) (hb : Below w.heap.size w w') : LD w' B X gd gl s l :=
  h.extend hb (fun _ _ a => a) (fun q hq => Nat.lt_of_lt_of_le (h.1 q hq) hb.size)
/-- .. a cell of the log that holds no slice, and the disk itself, out of it -/
theorem LD.disk {w : World} {B gd gl : Nat} {X : Nat → Prop} {s : DSt} {l : List ByteArray} (h : LD w B X gd gl s l) (hB : B ≤ w.heap.size) : ∃ F : Nat → Prop, DiskAt w F gd s ∧ (∀ q, X q → ¬ F q) ∧ (∀ q, F q → B ≤ q) ∧ ¬ F gl ∧
    ∀ (w' : World) (s' : DSt), DiskAt w' (fun k => (F k ∧ k < w.heap.size) ∨ w.heap.size ≤ k) gd s' → Chg w w' F → LD w' B X gd gl s' l := by
  obtain ⟨h2, col, d0, d1⟩ := h
  refine ⟨_, d0, fun q x a => a.2.1 x, fun q a => a.1, fun a => absurd (a.2.2.symm.trans d1.1.2.2) (by decide), fun w' s' hd hc => ⟨fun q hq => Nat.lt_of_lt_of_le (h2 q hq) hc.size, fun q => if w.heap.size ≤ q then 0 else col q, ?_, ?_⟩⟩
  · refine hd.mono fun q hl hq => ⟨?_, fun x => ?_, ?_⟩
    · rcases hq with a | a
      · exact a.1.1
      · omega
    · rcases hq with a | a
      · exact a.1.2.1 x
      · exact absurd (h2 q x) (by omega)
    · show (if w.heap.size ≤ q then 0 else col q) = 0
      split
      · rfl
      · rcases hq with a | a
        · exact a.1.2.2
        · omega
  · exact (d1.mono (G := fun q => B ≤ q ∧ ¬ X q ∧ (if w.heap.size ≤ q then 0 else col q) = 1) fun q a b => ⟨b.1, b.2.1, by rw [if_neg (by omega)]; exact b.2.2⟩).chg hc (fun q hl a b => by
      have e := a.2.2
      rw [if_neg (by omega)] at e
      exact absurd (e.symm.trans b.2.2) (by decide))
theorem LD.log {w : World} {B gd gl : Nat} {X : Nat → Prop} {s : DSt} {l : List ByteArray} (h : LD w B X gd gl s l) (hB : B ≤ w.heap.size) : ∃ F : Nat → Prop, LogAt w F gl gd l ∧ (∀ q, X q → ¬ F q) ∧ (∀ q, F q → B ≤ q) ∧
    ∀ (w' : World) (l' : List ByteArray), LogAt w' (fun k => (F k ∧ k < w.heap.size) ∨ w.heap.size ≤ k) gl gd l' → Chg w w' F → LD w' B X gd gl s l' := by
  obtain ⟨h2, col, d0, d1⟩ := h
  refine ⟨_, d1, fun q x a => a.2.1 x, fun q a => a.1, fun w' s' hd hc => ⟨fun q hq => Nat.lt_of_lt_of_le (h2 q hq) hc.size, fun q => if w.heap.size ≤ q then 1 else col q, ?_, ?_⟩⟩
  · exact (d0.mono (G := fun q => B ≤ q ∧ ¬ X q ∧ (if w.heap.size ≤ q then 1 else col q) = 0) fun q a b => ⟨b.1, b.2.1, by rw [if_neg (by omega)]; exact b.2.2⟩).chgAtL hc (fun q hl a b => by
      have e := a.2.2
      rw [if_neg (by omega)] at e
      exact absurd (e.symm.trans b.2.2) (by decide))
  · refine hd.mono fun q hl hq => ⟨?_, fun x => ?_, ?_⟩
    · rcases hq with a | a
      · exact a.1.1
      · omega
    · rcases hq with a | a
      · exact a.1.2.1 x
      · exact absurd (h2 q x) (by omega)
    · show (if w.heap.size ≤ q then 1 else col q) = 1
      split
      · rfl
      · rcases hq with a | a
        · exact a.1.2.2
        · omega
theorem LD.row {w : World} {B gd gl : Nat} {X : Nat → Prop} {s : DSt} {l : List ByteArray} (h : LD w B X gd gl s l) : ∃ v, w.heap[gl]? = some (.cells #[.pointer (some ⟨gd, 0, none⟩), v] 93 (0, 0)) := by
  obtain ⟨_, col, _, _, v, h2, _⟩ := h
  exact ⟨v, h2⟩

/-- what opening makes of a disk -/
def openD (s : DSt) : Int × DSt := if s.down then (8, s) else if recLen s.bytes < s.bytes.size then s.trunc (recLen s.bytes : Nat) else s.sync
def OpenPost (B : Nat) (X F : Nat → Prop) (gd : Nat) (s : DSt) (w : World) (e : Ending) (w' : World) : Prop :=
  ∃ v, e = .returned (.tuple #[v, .int .i64 (openD s).1]) ∧ Chg w w' F ∧ DiskAt w' (fun k => (F k ∧ k < w.heap.size) ∨ w.heap.size ≤ k) gd (openD s).2 ∧
    ((openD s).1 = 0 → ∃ gl, v = .pointer (some ⟨gl, 0, none⟩) ∧ LD w' B X gd gl (openD s).2 (recsOf s.bytes)) ∧ ((openD s).1 ≠ 0 → v = .pointer none)
theorem open_ld {B gd : Nat} {X F : Nat → Prop} {w w2 w3 : World} {s' : DSt} {v : Value} {l : List ByteArray} (hF : ∀ k, F k → B ≤ k ∧ ¬ X k) (hX : ∀ k, X k → k < w.heap.size) (hB : B ≤ w.heap.size) (hb : Below w.heap.size w w2) (hsl : Sl w2 (fun k => w.heap.size ≤ k) 9 1 v l.length (strCells l))
    (hd : DiskAt w3 (fun k => ((F k ∧ k < w.heap.size) ∧ k < w2.heap.size) ∨ w2.heap.size ≤ k) gd s') (hc : Chg w2 w3 (fun k => F k ∧ k < w.heap.size)) :
    LD (w3.alloc (.cells #[.pointer (some ⟨gd, 0, none⟩), v] 93)) B X gd w3.heap.size s' l ∧ Chg w (w3.alloc (.cells #[.pointer (some ⟨gd, 0, none⟩), v] 93)) F ∧
      DiskAt (w3.alloc (.cells #[.pointer (some ⟨gd, 0, none⟩), v] 93)) (fun k => (F k ∧ k < w.heap.size) ∨ w.heap.size ≤ k) gd s' := by
  have z2 := hb.size
  have z3 := hc.size
  have hb4 : Below w3.heap.size w3 (w3.alloc (.cells #[.pointer (some ⟨gd, 0, none⟩), v] 93)) := (Below.refl _ _).alloc (Nat.le_refl _) _
  refine ⟨⟨fun q hq => by have := hX q hq; rw [World.size_alloc]; omega, fun k => if k < w.heap.size then 0 else if k < w2.heap.size ∨ k = w3.heap.size then 1 else 0, ?_, ?_⟩, ((Chg.of_below hb F (fun i a b => absurd a (by omega))).trans hc (fun _ _ a => a.1)).alloc _, ?_⟩
  · refine (hd.mono (G := fun k => B ≤ k ∧ ¬ X k ∧ (if k < w.heap.size then 0 else if k < w2.heap.size ∨ k = w3.heap.size then 1 else 0) = 0) fun k hk a => ?_).below hb4 (Nat.le_refl _)
    rcases a with ⟨⟨a, b⟩, _⟩ | a
    · exact ⟨(hF k a).1, (hF k a).2, if_pos b⟩
    · exact ⟨by omega, fun x => by have := hX k x; omega, by rw [if_neg (by omega), if_neg (by omega)]⟩
  · refine ⟨⟨by omega, fun x => by have := hX _ x; omega, by show (if w3.heap.size < w.heap.size then 0 else if w3.heap.size < w2.heap.size ∨ w3.heap.size = w3.heap.size then 1 else 0) = 1; rw [if_neg (by omega), if_pos (.inr rfl)]⟩, v, heap_alloc_new w3 _, ?_⟩
    refine sl_below (((hsl.mono (G := fun k => w.heap.size ≤ k ∧ k < w2.heap.size) fun k a b => ⟨b, a⟩).chg hc (fun k a b => by omega)).mono fun k hk a => ⟨⟨by omega, fun x => by have := hX k x; omega, ?_⟩, by omega⟩) hb4 (Nat.le_refl _)
    show (if k < w.heap.size then 0 else if k < w2.heap.size ∨ k = w3.heap.size then 1 else 0) = 1
    rw [if_neg (by omega), if_pos (.inl a.2)]
  · exact (hd.mono fun k hk a => by
      rcases a with ⟨a, _⟩ | a
      · exact .inl a
      · exact .inr (by omega)).below hb4 (Nat.le_refl _)

set_option maxRecDepth 100000 in
set_option maxHeartbeats 3200000 in
theorem open_log (B N gd : Nat) (X F : Nat → Prop) (s : DSt) (w : World) (h : DiskAt w F gd s) (ok : DOk N s) (hN : N ≤ 100000) (hl : s.all.length ≤ 1000000) (hF : ∀ k, F k → B ≤ k ∧ ¬ X k) (hX : ∀ k, X k → k < w.heap.size) (hB : B ≤ w.heap.size) :
    Calls Try.prog 46 #[.pointer (some ⟨gd, 0, none⟩)] w (OpenPost B X F gd s w) := by
  by_cases hd : s.down = true
  · have ho : openD s = (8, s) := if_pos hd
    have HR := Lib.hid (read_down gd s F w h hd)
    have HP : Hid (OpenPost B X F gd s w (.returned (.tuple #[.pointer none, .int .i64 8])) w) := by
      show OpenPost _ _ _ _ _ _ _ _
      unfold OpenPost
      rw [ho]
      exact ⟨_, rfl, Chg.refl _ _, h.tight, fun a => absurd a (show ¬ ((8 : Int) = 0) by decide), fun _ => rfl⟩
    clear h ho hd
    go_enter Try.func46, Try.ntmps46
    go_wp2_with fail
    refine HR.out.mono ?_
    rintro e w1 ⟨rfl, rfl⟩
    go_wp2_with fail
    go_ret2
    exact HP.out
  · have hd : s.down = false := by simpa using hd
    have hbz := bytes_size s
    have hrd : Calls Try.prog 27 #[.pointer (some ⟨gd, 0, none⟩)] w fun e w' => e = .returned (.tuple #[.string s.bytes, .int .i64 0]) ∧ Below w.heap.size w w' := read_up gd s F w h hd (by omega) (by have := ok.pieces; omega)
    have hrl : recLen s.bytes ≤ s.bytes.size := Nat.sub_le _ _
    have HR := Lib.hid hrd
    have HH := Lib.hid (h.mono (G := fun k => F k ∧ k < w.heap.size) (fun k a b => ⟨b, a⟩))
    have HSC : Hid (∀ v, Calls Try.prog 43 #[.string s.bytes] v (ScanPost s.bytes v)) := fun v => scan_any s.bytes (by omega) v
    by_cases hlt : recLen s.bytes < s.bytes.size
    · have hod : openD s = s.trunc (recLen s.bytes : Nat) := by unfold openD; rw [if_neg (by rw [hd]; decide), if_pos hlt]
      have HK : Hid (∀ w2, Below w.heap.size w w2 → Calls Try.prog 35 #[.pointer (some ⟨gd, 0, none⟩), .int .i64 (recLen s.bytes : Nat)] w2 fun e w' => e = .returned (.int .i64 (openD s).1) ∧ DiskAt w' (fun k => ((F k ∧ k < w.heap.size) ∧ k < w2.heap.size) ∨ w2.heap.size ≤ k) gd (openD s).2 ∧ Chg w2 w' (fun k => F k ∧ k < w.heap.size)) := fun w2 hb => by
        rw [hod]
        exact trunc_any gd N s _ w2 (recLen s.bytes : Nat) (HH.out.below hb (Nat.le_refl _)) ok hN
      have HEND : Hid (∀ (w2 w3 : World) (v : Value), Below w.heap.size w w2 → Sl w2 (fun k => w.heap.size ≤ k) 9 1 v (recsOf s.bytes).length (strCells (recsOf s.bytes)) → DiskAt w3 (fun k => ((F k ∧ k < w.heap.size) ∧ k < w2.heap.size) ∨ w2.heap.size ≤ k) gd (openD s).2 → Chg w2 w3 (fun k => F k ∧ k < w.heap.size) →
          ((openD s).1 = 0 → OpenPost B X F gd s w (.returned (.tuple #[.pointer (some ⟨w3.heap.size, 0, none⟩), .int .i64 0])) (w3.alloc (.cells #[.pointer (some ⟨gd, 0, none⟩), v] 93))) ∧ ((openD s).1 ≠ 0 → OpenPost B X F gd s w (.returned (.tuple #[.pointer none, .int .i64 (openD s).1])) w3)) := by
        intro w2 w3 v hb hsl hdk hc
        have ho := open_ld hF hX hB hb hsl hdk hc
        refine ⟨fun h0 => ⟨_, by rw [h0], ho.2.1, ho.2.2, fun _ => ⟨_, rfl, ho.1⟩, fun a => absurd h0 a⟩, fun h0 => ⟨_, rfl, (Chg.of_below hb F (fun i a b => absurd a (by omega))).trans hc (fun _ _ a => a.1), hdk.mono fun k _ a => ?_, fun a => absurd a h0, fun _ => rfl⟩⟩
        rcases a with ⟨a, _⟩ | a
        · exact .inl a
        · exact .inr (Nat.le_trans hb.size a)
      obtain ⟨code, hcode⟩ : ∃ c, (openD s).1 = c := ⟨_, rfl⟩
      rw [hcode] at HK HEND
      obtain ⟨BY, hBY⟩ : ∃ b, s.bytes = b := ⟨_, rfl⟩
      rw [hBY] at HR HSC HEND hbz hrl hlt
      try rw [hBY] at HK
      obtain ⟨q, hq⟩ : ∃ q, recLen BY = q := ⟨_, rfl⟩
      have HQ := Lib.hid hq
      rw [hq] at hrl hlt
      try rw [hq] at HK
      have hbl : BY.size ≤ 1000000 := by omega
      clear h ok hod hrd hq hcode hBY hd hF hX HH
      by_cases hc0 : code = 0
      · subst hc0
        go_enter Try.func46, Try.ntmps46
        go_wp2_with fail
        refine HR.out.mono ?_
        rintro e w1 ⟨rfl, hb1⟩
        have HB1 := Lib.hid hb1
        clear hb1
        go_wp2_with fail
        refine (HSC.out w1).mono ?_
        rintro e w2 ⟨v, he, hsl, hb2⟩
        rw [HQ.out] at he
        obtain ⟨vao, vcap, rfl, _, _⟩ := hsl.shape
        obtain ⟨vn, hvn⟩ : ∃ vn, (recsOf BY).length = vn := ⟨_, rfl⟩
        rw [hvn] at he hsl
        have HVN := Lib.hid hvn
        clear hvn
        subst he
        have HB2 : Hid (Below w.heap.size w w2) := HB1.out.trans (hb2.mono HB1.out.size)
        have HK2 := Lib.hid (HK.out w2 HB2.out)
        have HSL : Hid (Sl w2 (fun k => w.heap.size ≤ k) 9 1 (.slice vao vn vcap) (recsOf BY).length (strCells (recsOf BY))) := by
          show Sl _ _ _ _ _ (recsOf BY).length _
          rw [HVN.out]
          exact hsl.mono fun k _ a => Nat.le_trans HB1.out.size a
        clear hsl hb2 HK HSC HR
        go_wp2_with fail
        refine HK2.out.mono ?_
        rintro e w3 ⟨rfl, h3, c3⟩
        have HF := Lib.hid ((HEND.out w2 w3 (.slice vao vn vcap) HB2.out HSL.out h3 c3).1 (by first | rfl | trivial))
        clear h3 c3
        go_wp2_with fail
        go_ret2
        exact HF.out
      · have hcb : (code == 0) = false := by rw [beq_eq_false_iff_ne]; exact hc0
        go_enter Try.func46, Try.ntmps46
        go_wp2_with fail
        refine HR.out.mono ?_
        rintro e w1 ⟨rfl, hb1⟩
        have HB1 := Lib.hid hb1
        clear hb1
        go_wp2_with fail
        refine (HSC.out w1).mono ?_
        rintro e w2 ⟨v, he, hsl, hb2⟩
        rw [HQ.out] at he
        obtain ⟨vao, vcap, rfl, _, _⟩ := hsl.shape
        obtain ⟨vn, hvn⟩ : ∃ vn, (recsOf BY).length = vn := ⟨_, rfl⟩
        rw [hvn] at he hsl
        have HVN := Lib.hid hvn
        clear hvn
        subst he
        have HB2 : Hid (Below w.heap.size w w2) := HB1.out.trans (hb2.mono HB1.out.size)
        have HK2 := Lib.hid (HK.out w2 HB2.out)
        have HSL : Hid (Sl w2 (fun k => w.heap.size ≤ k) 9 1 (.slice vao vn vcap) (recsOf BY).length (strCells (recsOf BY))) := by
          show Sl _ _ _ _ _ (recsOf BY).length _
          rw [HVN.out]
          exact hsl.mono fun k _ a => Nat.le_trans HB1.out.size a
        clear hsl hb2 HK HSC HR
        go_wp2_with fail
        refine HK2.out.mono ?_
        rintro e w3 ⟨rfl, h3, c3⟩
        have HF := Lib.hid ((HEND.out w2 w3 (.slice vao vn vcap) HB2.out HSL.out h3 c3).2 hc0)
        clear h3 c3
        go_wp2_with fail
        go_ret2
        exact HF.out
    · have hod : openD s = s.sync := by unfold openD; rw [if_neg (by rw [hd]; decide), if_neg hlt]
      have HK : Hid (∀ w2, Below w.heap.size w w2 → Calls Try.prog 31 #[.pointer (some ⟨gd, 0, none⟩)] w2 fun e w' => e = .returned (.int .i64 (openD s).1) ∧ DiskAt w' (fun k => ((F k ∧ k < w.heap.size) ∧ k < w2.heap.size) ∨ w2.heap.size ≤ k) gd (openD s).2 ∧ Chg w2 w' (fun k => F k ∧ k < w.heap.size)) := fun w2 hb => by
        rw [hod]
        exact sync_any gd N s _ w2 (HH.out.below hb (Nat.le_refl _)) ok hN
      have HEND : Hid (∀ (w2 w3 : World) (v : Value), Below w.heap.size w w2 → Sl w2 (fun k => w.heap.size ≤ k) 9 1 v (recsOf s.bytes).length (strCells (recsOf s.bytes)) → DiskAt w3 (fun k => ((F k ∧ k < w.heap.size) ∧ k < w2.heap.size) ∨ w2.heap.size ≤ k) gd (openD s).2 → Chg w2 w3 (fun k => F k ∧ k < w.heap.size) →
          ((openD s).1 = 0 → OpenPost B X F gd s w (.returned (.tuple #[.pointer (some ⟨w3.heap.size, 0, none⟩), .int .i64 0])) (w3.alloc (.cells #[.pointer (some ⟨gd, 0, none⟩), v] 93))) ∧ ((openD s).1 ≠ 0 → OpenPost B X F gd s w (.returned (.tuple #[.pointer none, .int .i64 (openD s).1])) w3)) := by
        intro w2 w3 v hb hsl hdk hc
        have ho := open_ld hF hX hB hb hsl hdk hc
        refine ⟨fun h0 => ⟨_, by rw [h0], ho.2.1, ho.2.2, fun _ => ⟨_, rfl, ho.1⟩, fun a => absurd h0 a⟩, fun h0 => ⟨_, rfl, (Chg.of_below hb F (fun i a b => absurd a (by omega))).trans hc (fun _ _ a => a.1), hdk.mono fun k _ a => ?_, fun a => absurd a h0, fun _ => rfl⟩⟩
        rcases a with ⟨a, _⟩ | a
        · exact .inl a
        · exact .inr (Nat.le_trans hb.size a)
      obtain ⟨code, hcode⟩ : ∃ c, (openD s).1 = c := ⟨_, rfl⟩
      rw [hcode] at HK HEND
      obtain ⟨BY, hBY⟩ : ∃ b, s.bytes = b := ⟨_, rfl⟩
      rw [hBY] at HR HSC HEND hbz hrl hlt
      try rw [hBY] at HK
      obtain ⟨q, hq⟩ : ∃ q, recLen BY = q := ⟨_, rfl⟩
      have HQ := Lib.hid hq
      rw [hq] at hrl hlt
      try rw [hq] at HK
      have hbl : BY.size ≤ 1000000 := by omega
      clear h ok hod hrd hq hcode hBY hd hF hX HH
      by_cases hc0 : code = 0
      · subst hc0
        go_enter Try.func46, Try.ntmps46
        go_wp2_with fail
        refine HR.out.mono ?_
        rintro e w1 ⟨rfl, hb1⟩
        have HB1 := Lib.hid hb1
        clear hb1
        go_wp2_with fail
        refine (HSC.out w1).mono ?_
        rintro e w2 ⟨v, he, hsl, hb2⟩
        rw [HQ.out] at he
        obtain ⟨vao, vcap, rfl, _, _⟩ := hsl.shape
        obtain ⟨vn, hvn⟩ : ∃ vn, (recsOf BY).length = vn := ⟨_, rfl⟩
        rw [hvn] at he hsl
        have HVN := Lib.hid hvn
        clear hvn
        subst he
        have HB2 : Hid (Below w.heap.size w w2) := HB1.out.trans (hb2.mono HB1.out.size)
        have HK2 := Lib.hid (HK.out w2 HB2.out)
        have HSL : Hid (Sl w2 (fun k => w.heap.size ≤ k) 9 1 (.slice vao vn vcap) (recsOf BY).length (strCells (recsOf BY))) := by
          show Sl _ _ _ _ _ (recsOf BY).length _
          rw [HVN.out]
          exact hsl.mono fun k _ a => Nat.le_trans HB1.out.size a
        clear hsl hb2 HK HSC HR
        go_wp2_with fail
        refine HK2.out.mono ?_
        rintro e w3 ⟨rfl, h3, c3⟩
        have HF := Lib.hid ((HEND.out w2 w3 (.slice vao vn vcap) HB2.out HSL.out h3 c3).1 (by first | rfl | trivial))
        clear h3 c3
        go_wp2_with fail
        go_ret2
        exact HF.out
      · have hcb : (code == 0) = false := by rw [beq_eq_false_iff_ne]; exact hc0
        go_enter Try.func46, Try.ntmps46
        go_wp2_with fail
        refine HR.out.mono ?_
        rintro e w1 ⟨rfl, hb1⟩
        have HB1 := Lib.hid hb1
        clear hb1
        go_wp2_with fail
        refine (HSC.out w1).mono ?_
        rintro e w2 ⟨v, he, hsl, hb2⟩
        rw [HQ.out] at he
        obtain ⟨vao, vcap, rfl, _, _⟩ := hsl.shape
        obtain ⟨vn, hvn⟩ : ∃ vn, (recsOf BY).length = vn := ⟨_, rfl⟩
        rw [hvn] at he hsl
        have HVN := Lib.hid hvn
        clear hvn
        subst he
        have HB2 : Hid (Below w.heap.size w w2) := HB1.out.trans (hb2.mono HB1.out.size)
        have HK2 := Lib.hid (HK.out w2 HB2.out)
        have HSL : Hid (Sl w2 (fun k => w.heap.size ≤ k) 9 1 (.slice vao vn vcap) (recsOf BY).length (strCells (recsOf BY))) := by
          show Sl _ _ _ _ _ (recsOf BY).length _
          rw [HVN.out]
          exact hsl.mono fun k _ a => Nat.le_trans HB1.out.size a
        clear hsl hb2 HK HSC HR
        go_wp2_with fail
        refine HK2.out.mono ?_
        rintro e w3 ⟨rfl, h3, c3⟩
        have HF := Lib.hid ((HEND.out w2 w3 (.slice vao vn vcap) HB2.out HSL.out h3 c3).2 hc0)
        clear h3 c3
        go_wp2_with fail
        go_ret2
        exact HF.out
/-- a record more in memory -/
theorem log_push {w : World} {F : Nat → Prop} {gl gd : Nat} {l : List ByteArray} (h : LogAt w F gl gd l) (x : ByteArray) (hl : l.length ≤ 1000000) :
    ∃ ao cp ao' n' cp' w3, w.cell? ⟨gl, 1, none⟩ = some (.slice ao l.length cp) ∧ Sem.run Try.prog (Builtin.append_ #[22, 22] 22 #[.slice ao l.length cp, .slice (some { block := w.heap.size, off := 0 }) 1 1]) (w.alloc (.cells #[.string x] 9)) = .ok (.slice ao' n' cp') w3 ∧
      (∃ u, w3.cell? ⟨gl, 1, none⟩ = some u) ∧ w3.frozen? ⟨gl, 1, none⟩ = false ∧ gl < w3.heap.size ∧ LogAt (w3.setCell ⟨gl, 1, none⟩ (.slice ao' n' cp')) (fun k => (F k ∧ k < w.heap.size) ∨ w.heap.size ≤ k) gl gd (l ++ [x]) ∧ Chg w (w3.setCell ⟨gl, 1, none⟩ (.slice ao' n' cp')) F := by
  obtain ⟨hF, _⟩ := id h
  obtain ⟨ao, cp, _, _, hg, hs⟩ := h.cells
  have hglt := heap_lt hg
  have zA : (w.alloc (.cells #[.string x] 9)).heap.size = w.heap.size + 1 := World.size_alloc _ _
  have gA := heap_alloc_same hg (.cells #[.string x] 9)
  have sA : Sl (w.alloc (.cells #[.string x] 9)) (fun k => (F k ∧ k ≠ gl) ∧ k < w.heap.size) 9 1 (.slice ao l.length cp) l.length (strCells l) := (hs.mono (fun k a b => ⟨b, a⟩)).keep fun k hk _ => Below.heap_alloc _ _ _ hk.2
  obtain ⟨v', w3, hrun, s3, c3⟩ := append_str x sA (heap_alloc_new w _) hl
  obtain ⟨ao', cp', rfl, _, _⟩ := s3.shape
  have hown : ∀ k, (Value.slice ao l.length cp).ownBlock = some k → (F k ∧ k ≠ gl) ∧ k < w.heap.size := fun k hk => (own_lt sA hk).1
  have g3 := c3.heap gA (fun a => (hown gl a).1.2 rfl)
  refine ⟨ao, cp, ao', _, cp', w3, cell_at hg rfl, hrun, ⟨_, cell_at g3 rfl⟩, free_at g3 1, heap_lt g3, ⟨.inl ⟨hF, hglt⟩, .slice ao' (l.length + 1) cp', heap_setCell_same (i := 1) g3 _, ?_⟩, ?_⟩
  · rw [List.length_append, List.length_singleton]
    refine (s3.mono (G := fun k => ((F k ∧ k < w.heap.size) ∨ w.heap.size ≤ k) ∧ k ≠ gl) fun k _ hk => ?_).keep fun k hk _ => Below.heap_setCell _ _ _ _ hk.2
    rcases hk with ⟨hk, _⟩ | hk
    · exact ⟨.inl ⟨hk.1.1, hk.2⟩, hk.1.2⟩
    · rw [zA] at hk
      exact ⟨.inr (by omega), by omega⟩
  · exact (((Chg.refl w F).alloc _).trans c3 (fun k _ a => (hown k a).1.1)).setCell (fun _ => hF) _
/-- appending a record -/
def appD (s : DSt) (x : ByteArray) : Int × DSt := if (s.append (txt (frameL x.data.toList))).1 = 0 then (s.append (txt (frameL x.data.toList))).2.sync else s.append (txt (frameL x.data.toList))
set_option maxRecDepth 100000 in
set_option maxHeartbeats 3200000 in
theorem append_log (B N gd gl : Nat) (X : Nat → Prop) (s : DSt) (l : List ByteArray) (w : World) (x : ByteArray) (h : LD w B X gd gl s l) (ok : DOk N s) (hN : N ≤ 50000) (hl : l.length ≤ 100000) (hx : x.size ≤ 100000) (hB : B ≤ w.heap.size) :
    Calls Try.prog 47 #[.pointer (some ⟨gl, 0, none⟩), .string x] w fun e w' => e = .returned (.int .i64 (appD s x).1) ∧ LD w' B X gd gl (appD s x).2 (if (appD s x).1 = 0 then l ++ [x] else l) ∧ Chg w w' (fun k => B ≤ k ∧ ¬ X k) := by
  have mixed : Try.prog.follows .mixedOrders = true := by kernel_rfl
  obtain ⟨v0, hrow⟩ := h.row
  have c0 : w.cell? ⟨gl, 0, none⟩ = some (.pointer (some ⟨gd, 0, none⟩)) := cell_at hrow rfl
  have hfl : (txt (frameL x.data.toList)).size = x.size + 8 := by rw [txt_size, frameL_length, all_size]
  have hfr : ∀ v : World, Calls Try.prog 19 #[.string x] v fun e w' => e = .returned (.string (txt (frameL x.data.toList))) ∧ Below v.heap.size v w' := fun v => frame_any x (by omega) v
  have hap : DOk (N + 1) (s.append (txt (frameL x.data.toList))).2 := append_ok ok _
  unfold appD
  obtain ⟨fr, hfre⟩ : ∃ fr, txt (frameL x.data.toList) = fr := ⟨_, rfl⟩
  rw [hfre] at hfl hfr hap ⊢
  obtain ⟨c1, hc1⟩ : ∃ c, (s.append fr).1 = c := ⟨_, rfl⟩
  obtain ⟨s1, hs1⟩ : ∃ c, (s.append fr).2 = c := ⟨_, rfl⟩
  have HAPP : Hid (∀ (v : World) (F : Nat → Prop), DiskAt v F gd s → Calls Try.prog 26 #[.pointer (some ⟨gd, 0, none⟩), .string fr] v fun e w' => e = .returned (.int .i64 c1) ∧ DiskAt w' (fun k => (F k ∧ k < v.heap.size) ∨ v.heap.size ≤ k) gd s1 ∧ Chg v w' F) := fun v F hv => by
    have := append_any gd N s F v fr hv ok (by omega) (by omega)
    rw [hc1, hs1] at this
    exact this
  rw [hs1] at hap
  rw [show s.append fr = (c1, s1) from Prod.ext hc1 hs1]
  have HFR := Lib.hid hfr
  have HH := Lib.hid h
  have HOK1 := Lib.hid hap
  have hxm : x.size ≤ 1048576 := by omega
  have HS0 : Hid ((fun w' => w'.cell? ⟨gl, 0, none⟩ = some (.pointer (some ⟨gd, 0, none⟩)) : World → Prop) w.drew) := c0
  have HL2 : Hid (∀ w2 : World, Below w.heap.size w.drew w2 → LD w2 B X gd gl s l ∧ B ≤ w2.heap.size ∧ Chg w w2 (fun k => B ≤ k ∧ ¬ X k)) := fun w2 hb => by
    have hb' : Below w.heap.size w w2 := ((Below.refl _ _).drew).trans hb
    exact ⟨h.below hb', Nat.le_trans hB hb'.size, Chg.of_below hb' _ (fun i a b => absurd a (by omega))⟩
  clear hfr h hap hrow hc1 hs1 hfre ok
  have HSTEP : Hid (∀ w2 : World, Below w.heap.size w.drew w2 → Calls Try.prog 26 #[.pointer (some ⟨gd, 0, none⟩), .string fr] w2 fun e w' => e = .returned (.int .i64 c1) ∧ LD w' B X gd gl s1 l ∧ Chg w w' (fun k => B ≤ k ∧ ¬ X k) ∧ B ≤ w'.heap.size) := fun w2 hb => by
    obtain ⟨h2, hB2, hc2⟩ := HL2.out w2 hb
    obtain ⟨F, hd, hX, hF, _, ht⟩ := h2.disk hB2
    exact (HAPP.out w2 F hd).mono fun e w' ⟨a, b, c⟩ => ⟨a, ht w' s1 b c, hc2.trans c (fun k _ a => ⟨hF k a, fun x => hX k x a⟩), Nat.le_trans hB2 c.size⟩
  have HSY : Hid (∀ (v : World), LD v B X gd gl s1 l → B ≤ v.heap.size → Calls Try.prog 31 #[.pointer (some ⟨gd, 0, none⟩)] v fun e w' => e = .returned (.int .i64 s1.sync.1) ∧ LD w' B X gd gl s1.sync.2 l ∧ Chg v w' (fun k => B ≤ k ∧ ¬ X k) ∧ B ≤ w'.heap.size) := fun v hv hBv => by
    obtain ⟨F, hd, hX, hF, _, ht⟩ := hv.disk hBv
    exact (sync_any gd (N + 1) s1 F v hd HOK1.out (by omega)).mono fun e w' ⟨a, b, c⟩ => ⟨a, ht w' _ b c, c.mono (fun k _ a => ⟨hF k a, fun x => hX k x a⟩), Nat.le_trans hBv c.size⟩
  clear HL2 HAPP HOK1 HH
  by_cases h1 : c1 = 0
  · subst h1
    rw [if_pos rfl]
    obtain ⟨c2, hc2⟩ : ∃ c, s1.sync.1 = c := ⟨_, rfl⟩
    obtain ⟨s2, hs2⟩ : ∃ c, s1.sync.2 = c := ⟨_, rfl⟩
    rw [hc2, hs2] at HSY
    show Calls _ _ _ _ fun e w' => e = .returned (.int .i64 s1.sync.1) ∧ LD w' B X gd gl s1.sync.2 (if s1.sync.1 = 0 then l ++ [x] else l) ∧ _
    rw [hc2, hs2]
    clear hc2 hs2
    by_cases h2 : c2 = 0
    · subst h2
      rw [if_pos rfl]
      go_enter Try.func47, Try.ntmps47
      have hS := HS0.out
      go_wp2_with fail
      refine AnyTo.region (m := 99) (S := fun w' => w'.cell? ⟨gl, 0, none⟩ = some (.pointer (some ⟨gd, 0, none⟩))) mixed ?_
      refine AnyTo.takeA (i := 0) (v := ?va0) rfl (by kernel_rfl) (of_decide_eq_true (by kernel_rfl)) (by kernel_rfl) (by kernel_rfl) (fun _ _ _ h => h) (Or.inl ⟨by kernel_rfl, ?hya0⟩) hS ?resta0
      case hya0 => (intro w' hw'; (try dsimp only at hw'); go_simp; try (with_reducible rfl))
      refine AnyTo.takeA (i := 1) (v := ?va1) rfl (by kernel_rfl) (of_decide_eq_true (by kernel_rfl)) (by kernel_rfl) (by kernel_rfl) (fun _ _ _ h => h) (Or.inl ⟨by kernel_rfl, ?hya1⟩) hS ?resta1
      case hya1 => (intro w' hw'; (try dsimp only at hw'); go_simp; try (with_reducible rfl))
      refine AnyTo.takeA (i := 2) (v := ?va2) rfl (by kernel_rfl) (of_decide_eq_true (by kernel_rfl)) (by kernel_rfl) (by kernel_rfl) (fun _ _ _ h => h) (Or.inl ⟨by kernel_rfl, ?hya2⟩) hS ?resta2
      case hya2 => (intro w' hw'; (try dsimp only at hw'); go_simp; try (with_reducible rfl))
      refine AnyTo.takeA (i := 3) (v := ?va3) rfl (by kernel_rfl) (of_decide_eq_true (by kernel_rfl)) (by kernel_rfl) (by kernel_rfl) (fun _ _ _ h => h) (Or.inl ⟨by kernel_rfl, ?hya3⟩) hS ?resta3
      case hya3 => (intro w' hw'; (try dsimp only at hw'); go_simp; try (with_reducible rfl))
      refine AnyTo.takeA (i := 4) (v := ?va4) rfl (by kernel_rfl) (of_decide_eq_true (by kernel_rfl)) (by kernel_rfl) (by kernel_rfl) (fun _ _ _ h => h) (Or.inl ⟨by kernel_rfl, ?hya4⟩) hS ?resta4
      case hya4 => (intro w' hw'; (try dsimp only at hw'); go_simp; try (with_reducible rfl))
      try simp only [Act.put, List.getElem_toArray, List.getElem_cons_zero, List.getElem_cons_succ, List.setIfInBounds_toArray, List.set_cons_zero, List.set_cons_succ]
      refine AnyTo.step (i := 5) (by kernel_rfl) rfl (fun K hK => ?_)
      go_simp
      go_at_call 19
      refine (HFR.out w.drew).mono ?_
      rintro e w2 ⟨rfl, hb2⟩
      have HST := Lib.hid (HSTEP.out w2 hb2)
      clear hS
      have hS : (fun w' => w'.cell? ⟨gl, 0, none⟩ = some (.pointer (some ⟨gd, 0, none⟩)) : World → Prop) w2 := (hb2.cell (p := ⟨gl, 0, none⟩) (by exact block_lt_of_cell c0)).trans HS0.out
      clear hb2
      go_wp2_with fail
      refine hK.out _ _ (fun _ => hS) ?_
      clear hK K
      try simp only [Act.put, List.getElem_toArray, List.getElem_cons_zero, List.getElem_cons_succ, List.setIfInBounds_toArray, List.set_cons_zero, List.set_cons_succ]
      refine AnyTo.step (i := 6) (by kernel_rfl) rfl (fun K hK => ?_)
      go_simp
      go_at_call 26
      refine HST.out.mono ?_
      rintro e w3 ⟨rfl, h3, k3, b3⟩
      have HD3 := Lib.hid h3
      have HC3 := Lib.hid k3
      obtain ⟨v3, hr3⟩ := h3.row
      clear hS
      have r0 : w3.cell? ⟨gl, 0, none⟩ = some (.pointer (some ⟨gd, 0, none⟩)) := cell_at hr3 rfl
      clear h3 k3 hr3
      go_wp2_with fail
      refine hK.out _ _ (fun _ => r0) ?_
      clear hK K
      try simp only [Act.put, List.getElem_toArray, List.getElem_cons_zero, List.getElem_cons_succ, List.setIfInBounds_toArray, List.set_cons_zero, List.set_cons_succ]
      refine AnyTo.step (i := 7) (by kernel_rfl) rfl (fun K hK => ?_)
      go_simp
      refine hK.out _ _ (fun _ => r0) ?_
      clear hK K
      try simp only [Act.put, List.getElem_toArray, List.getElem_cons_zero, List.getElem_cons_succ, List.setIfInBounds_toArray, List.set_cons_zero, List.set_cons_succ]
      refine AnyTo.done (by kernel_rfl) ?_
      go_wp2_with fail
      refine (HSY.out w3 HD3.out b3).mono ?_
      rintro e w4 ⟨rfl, h4, k4, b4⟩
      obtain ⟨F, hlg, hX, hF, ht⟩ := h4.log b4
      obtain ⟨ao, cp, ao', n', cp', w5, p1, hrun, ⟨u, p2⟩, pf, pg, hl5, k5⟩ := log_push hlg x (by omega)
      obtain ⟨w6, hw6⟩ : ∃ w6, w5.setCell ⟨gl, 1, none⟩ (.slice ao' n' cp') = w6 := ⟨_, rfl⟩
      rw [hw6] at hl5 k5
      have HFIN : Hid (LD w6 B X gd gl s2 (l ++ [x]) ∧ Chg w w6 (fun k => B ≤ k ∧ ¬ X k)) :=
        ⟨ht w6 _ hl5 k5, (HC3.out.trans k4 (fun _ _ a => a)).trans k5 (fun k _ a => ⟨hF k a, fun x => hX k x a⟩)⟩
      obtain ⟨n, hn⟩ : ∃ n, l.length = n := ⟨_, rfl⟩
      rw [hn] at p1 hrun
      have HRUN := Lib.hid hrun
      clear h4 k4 hlg hX hF ht hl5 k5 hrun hn r0 c0 HD3 HC3 HST HSTEP HSY
      go_wp2_with (at_builtin; refine wpList_append_run rfl rfl rfl rfl HRUN.out ?_)
      try rw [hw6]
      go_ret
      exact ⟨rfl, HFIN.out⟩
    · rw [if_neg h2]
      have hcb : (c2 == 0) = false := by rw [beq_eq_false_iff_ne]; exact h2
      go_enter Try.func47, Try.ntmps47
      have hS := HS0.out
      go_wp2_with fail
      refine AnyTo.region (m := 99) (S := fun w' => w'.cell? ⟨gl, 0, none⟩ = some (.pointer (some ⟨gd, 0, none⟩))) mixed ?_
      refine AnyTo.takeA (i := 0) (v := ?vb0) rfl (by kernel_rfl) (of_decide_eq_true (by kernel_rfl)) (by kernel_rfl) (by kernel_rfl) (fun _ _ _ h => h) (Or.inl ⟨by kernel_rfl, ?hyb0⟩) hS ?restb0
      case hyb0 => (intro w' hw'; (try dsimp only at hw'); go_simp; try (with_reducible rfl))
      refine AnyTo.takeA (i := 1) (v := ?vb1) rfl (by kernel_rfl) (of_decide_eq_true (by kernel_rfl)) (by kernel_rfl) (by kernel_rfl) (fun _ _ _ h => h) (Or.inl ⟨by kernel_rfl, ?hyb1⟩) hS ?restb1
      case hyb1 => (intro w' hw'; (try dsimp only at hw'); go_simp; try (with_reducible rfl))
      refine AnyTo.takeA (i := 2) (v := ?vb2) rfl (by kernel_rfl) (of_decide_eq_true (by kernel_rfl)) (by kernel_rfl) (by kernel_rfl) (fun _ _ _ h => h) (Or.inl ⟨by kernel_rfl, ?hyb2⟩) hS ?restb2
      case hyb2 => (intro w' hw'; (try dsimp only at hw'); go_simp; try (with_reducible rfl))
      refine AnyTo.takeA (i := 3) (v := ?vb3) rfl (by kernel_rfl) (of_decide_eq_true (by kernel_rfl)) (by kernel_rfl) (by kernel_rfl) (fun _ _ _ h => h) (Or.inl ⟨by kernel_rfl, ?hyb3⟩) hS ?restb3
      case hyb3 => (intro w' hw'; (try dsimp only at hw'); go_simp; try (with_reducible rfl))
      refine AnyTo.takeA (i := 4) (v := ?vb4) rfl (by kernel_rfl) (of_decide_eq_true (by kernel_rfl)) (by kernel_rfl) (by kernel_rfl) (fun _ _ _ h => h) (Or.inl ⟨by kernel_rfl, ?hyb4⟩) hS ?restb4
      case hyb4 => (intro w' hw'; (try dsimp only at hw'); go_simp; try (with_reducible rfl))
      try simp only [Act.put, List.getElem_toArray, List.getElem_cons_zero, List.getElem_cons_succ, List.setIfInBounds_toArray, List.set_cons_zero, List.set_cons_succ]
      refine AnyTo.step (i := 5) (by kernel_rfl) rfl (fun K hK => ?_)
      go_simp
      go_at_call 19
      refine (HFR.out w.drew).mono ?_
      rintro e w2 ⟨rfl, hb2⟩
      have HST := Lib.hid (HSTEP.out w2 hb2)
      clear hS
      have hS : (fun w' => w'.cell? ⟨gl, 0, none⟩ = some (.pointer (some ⟨gd, 0, none⟩)) : World → Prop) w2 := (hb2.cell (p := ⟨gl, 0, none⟩) (by exact block_lt_of_cell c0)).trans HS0.out
      clear hb2
      go_wp2_with fail
      refine hK.out _ _ (fun _ => hS) ?_
      clear hK K
      try simp only [Act.put, List.getElem_toArray, List.getElem_cons_zero, List.getElem_cons_succ, List.setIfInBounds_toArray, List.set_cons_zero, List.set_cons_succ]
      refine AnyTo.step (i := 6) (by kernel_rfl) rfl (fun K hK => ?_)
      go_simp
      go_at_call 26
      refine HST.out.mono ?_
      rintro e w3 ⟨rfl, h3, k3, b3⟩
      have HD3 := Lib.hid h3
      have HC3 := Lib.hid k3
      obtain ⟨v3, hr3⟩ := h3.row
      clear hS
      have r0 : w3.cell? ⟨gl, 0, none⟩ = some (.pointer (some ⟨gd, 0, none⟩)) := cell_at hr3 rfl
      clear h3 k3 hr3
      go_wp2_with fail
      refine hK.out _ _ (fun _ => r0) ?_
      clear hK K
      try simp only [Act.put, List.getElem_toArray, List.getElem_cons_zero, List.getElem_cons_succ, List.setIfInBounds_toArray, List.set_cons_zero, List.set_cons_succ]
      refine AnyTo.step (i := 7) (by kernel_rfl) rfl (fun K hK => ?_)
      go_simp
      refine hK.out _ _ (fun _ => r0) ?_
      clear hK K
      try simp only [Act.put, List.getElem_toArray, List.getElem_cons_zero, List.getElem_cons_succ, List.setIfInBounds_toArray, List.set_cons_zero, List.set_cons_succ]
      refine AnyTo.done (by kernel_rfl) ?_
      go_wp2_with fail
      refine (HSY.out w3 HD3.out b3).mono ?_
      rintro e w4 ⟨rfl, h4, k4, b4⟩
      have HFIN : Hid (LD w4 B X gd gl s2 l ∧ Chg w w4 (fun k => B ≤ k ∧ ¬ X k)) := ⟨h4, HC3.out.trans k4 (fun _ _ a => a)⟩
      clear h4 k4 r0 c0 HD3 HC3 HST HSTEP HSY h2
      go_wp2_with fail
      go_ret
      exact ⟨rfl, HFIN.out⟩
  · rw [if_neg h1]
    show Calls _ _ _ _ fun e w' => e = .returned (.int .i64 c1) ∧ LD w' B X gd gl s1 (if c1 = 0 then l ++ [x] else l) ∧ _
    rw [if_neg h1]
    have hcb : (c1 == 0) = false := by rw [beq_eq_false_iff_ne]; exact h1
    go_enter Try.func47, Try.ntmps47
    have hS := HS0.out
    go_wp2_with fail
    refine AnyTo.region (m := 99) (S := fun w' => w'.cell? ⟨gl, 0, none⟩ = some (.pointer (some ⟨gd, 0, none⟩))) mixed ?_
    refine AnyTo.takeA (i := 0) (v := ?vc0) rfl (by kernel_rfl) (of_decide_eq_true (by kernel_rfl)) (by kernel_rfl) (by kernel_rfl) (fun _ _ _ h => h) (Or.inl ⟨by kernel_rfl, ?hyc0⟩) hS ?restc0
    case hyc0 => (intro w' hw'; (try dsimp only at hw'); go_simp; try (with_reducible rfl))
    refine AnyTo.takeA (i := 1) (v := ?vc1) rfl (by kernel_rfl) (of_decide_eq_true (by kernel_rfl)) (by kernel_rfl) (by kernel_rfl) (fun _ _ _ h => h) (Or.inl ⟨by kernel_rfl, ?hyc1⟩) hS ?restc1
    case hyc1 => (intro w' hw'; (try dsimp only at hw'); go_simp; try (with_reducible rfl))
    refine AnyTo.takeA (i := 2) (v := ?vc2) rfl (by kernel_rfl) (of_decide_eq_true (by kernel_rfl)) (by kernel_rfl) (by kernel_rfl) (fun _ _ _ h => h) (Or.inl ⟨by kernel_rfl, ?hyc2⟩) hS ?restc2
    case hyc2 => (intro w' hw'; (try dsimp only at hw'); go_simp; try (with_reducible rfl))
    refine AnyTo.takeA (i := 3) (v := ?vc3) rfl (by kernel_rfl) (of_decide_eq_true (by kernel_rfl)) (by kernel_rfl) (by kernel_rfl) (fun _ _ _ h => h) (Or.inl ⟨by kernel_rfl, ?hyc3⟩) hS ?restc3
    case hyc3 => (intro w' hw'; (try dsimp only at hw'); go_simp; try (with_reducible rfl))
    refine AnyTo.takeA (i := 4) (v := ?vc4) rfl (by kernel_rfl) (of_decide_eq_true (by kernel_rfl)) (by kernel_rfl) (by kernel_rfl) (fun _ _ _ h => h) (Or.inl ⟨by kernel_rfl, ?hyc4⟩) hS ?restc4
    case hyc4 => (intro w' hw'; (try dsimp only at hw'); go_simp; try (with_reducible rfl))
    try simp only [Act.put, List.getElem_toArray, List.getElem_cons_zero, List.getElem_cons_succ, List.setIfInBounds_toArray, List.set_cons_zero, List.set_cons_succ]
    refine AnyTo.step (i := 5) (by kernel_rfl) rfl (fun K hK => ?_)
    go_simp
    go_at_call 19
    refine (HFR.out w.drew).mono ?_
    rintro e w2 ⟨rfl, hb2⟩
    have HST := Lib.hid (HSTEP.out w2 hb2)
    clear hS
    have hS : (fun w' => w'.cell? ⟨gl, 0, none⟩ = some (.pointer (some ⟨gd, 0, none⟩)) : World → Prop) w2 := (hb2.cell (p := ⟨gl, 0, none⟩) (by exact block_lt_of_cell c0)).trans HS0.out
    clear hb2
    go_wp2_with fail
    refine hK.out _ _ (fun _ => hS) ?_
    clear hK K
    try simp only [Act.put, List.getElem_toArray, List.getElem_cons_zero, List.getElem_cons_succ, List.setIfInBounds_toArray, List.set_cons_zero, List.set_cons_succ]
    refine AnyTo.step (i := 6) (by kernel_rfl) rfl (fun K hK => ?_)
    go_simp
    go_at_call 26
    refine HST.out.mono ?_
    rintro e w3 ⟨rfl, h3, k3, b3⟩
    have HD3 := Lib.hid h3
    have HC3 := Lib.hid k3
    obtain ⟨v3, hr3⟩ := h3.row
    clear hS
    have r0 : w3.cell? ⟨gl, 0, none⟩ = some (.pointer (some ⟨gd, 0, none⟩)) := cell_at hr3 rfl
    clear h3 k3 hr3
    go_wp2_with fail
    refine hK.out _ _ (fun _ => r0) ?_
    clear hK K
    try simp only [Act.put, List.getElem_toArray, List.getElem_cons_zero, List.getElem_cons_succ, List.setIfInBounds_toArray, List.set_cons_zero, List.set_cons_succ]
    refine AnyTo.step (i := 7) (by kernel_rfl) rfl (fun K hK => ?_)
    go_simp
    refine hK.out _ _ (fun _ => r0) ?_
    clear hK K
    try simp only [Act.put, List.getElem_toArray, List.getElem_cons_zero, List.getElem_cons_succ, List.setIfInBounds_toArray, List.set_cons_zero, List.set_cons_succ]
    refine AnyTo.done (by kernel_rfl) ?_
    clear h1 c0 HST HSTEP HSY
    go_wp2_with fail
    go_ret
    exact ⟨rfl, HD3.out, HC3.out⟩
end Go.Proofs.Ytpnmhpkpkejdiaa
