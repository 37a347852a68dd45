/- Whatever is written, synced, truncated, burnt and crashed: a disk answers, and holds, what the document says: the law DiskPlays answers true at every input. No condition. -/
import Derived.Test.YtpnmhpkpkejdiaaDiskQ
set_option linter.unusedSimpArgs false
namespace Go.Proofs.Ytpnmhpkpkejdiaa
open Go.ChangeShapes Go.WideShapes Go.ChangeAt Go.RowKit

/-- the disk and the reference's, in blocks apart, none in a block of X -/
def Both (w : World) (B : Nat) (X : Nat → Prop) (g gr : Nat) (s : DSt) (r : RSt) : Prop :=
  (∀ q, X q → q < w.heap.size) ∧ ∃ col : Nat → Nat, DiskAt w (fun k => B ≤ k ∧ ¬ X k ∧ col k = 0) g s ∧ RefAt w (fun k => B ≤ k ∧ ¬ X k ∧ col k = 1) gr r
theorem Both.extend {w w' : World} {B g gr : Nat} {X Y : Nat → Prop} {s : DSt} {r : RSt} (h : Both w B X g gr s r) (hb : Below w.heap.size w w') (h1 : ∀ q, q < w.heap.size → Y q → X q) (h3 : ∀ q, Y q → q < w'.heap.size) : Both w' B Y g gr s r := by
  obtain ⟨h2, col, d0, d1⟩ := h
  exact ⟨h3, col, (d0.mono fun q a b => ⟨b.1, fun y => b.2.1 (h1 q a y), b.2.2⟩).below hb (Nat.le_refl _), (d1.mono fun q a b => ⟨b.1, fun y => b.2.1 (h1 q a y), b.2.2⟩).below hb (Nat.le_refl _)⟩
theorem Both.below {w w' : World} {B g gr : Nat} {X : Nat → Prop} {s : DSt} {r : RSt} (h : Both w B X g gr s r) (hb : Below w.heap.size w w') : Both w' B X g gr s r :=
  h.extend hb (fun _ _ a => a) (fun q hq => Nat.lt_of_lt_of_le (h.1 q hq) hb.size)
theorem RefAt.chgAt {w w' : World} {F S : Nat → Prop} {g : Nat} {r : RSt} (h : RefAt w F g r) (hc : Chg w w' S) (hs : ∀ k, k < w.heap.size → F k → ¬ S k) : RefAt w' F g r :=
  (h.mono (G := fun k => F k ∧ k < w.heap.size) (fun k a b => ⟨b, a⟩)).chg hc (fun k a => hs k a.2 a.1) |>.mono (fun k _ a => a.1)
theorem DiskAt.chgAt2 {w w' : World} {F S : Nat → Prop} {g : Nat} {s : DSt} (h : DiskAt w F g s) (hc : Chg w w' S) (hs : ∀ k, k < w.heap.size → F k → ¬ S k) : DiskAt w' F g s :=
  (h.mono (G := fun k => F k ∧ k < w.heap.size) (fun k a b => ⟨b, a⟩)).chg hc (fun k a => hs k a.2 a.1) |>.mono (fun k _ a => a.1)
theorem Both.disk {w : World} {B g gr : Nat} {X : Nat → Prop} {s : DSt} {r : RSt} (h : Both w B X g gr s r) (hB : B ≤ w.heap.size) : ∃ F : Nat → Prop, DiskAt w F g s ∧ (∀ q, X q → ¬ F q) ∧ (∀ q, F q → B ≤ q) ∧
    ∀ (w' : World) (s' : DSt), DiskAt w' (fun k => (F k ∧ k < w.heap.size) ∨ w.heap.size ≤ k) g s' → Chg w w' F → Both w' B X g gr s' r := by
  obtain ⟨h2, col, d0, d1⟩ := h
  refine ⟨_, d0, fun q x a => a.2.1 x, fun q a => a.1, fun w' s' hd hc => ⟨fun q hq => Nat.lt_of_lt_of_le (h2 q hq) hc.size, fun q => if w.heap.size ≤ q then 0 else col q, ?_, ?_⟩⟩
  · refine hd.mono fun q hl hq => ⟨?_, fun x => ?_, ?_⟩
    · rcases hq with a | a
      · exact a.1.1
      · omega
    · rcases hq with a | a
      · exact a.1.2.1 x
      · exact absurd (h2 q x) (by omega)
    · show (if w.heap.size ≤ q then 0 else col q) = 0
      split
      · rfl
      · rcases hq with a | a
        · exact a.1.2.2
        · omega
  · exact (d1.mono (G := fun q => B ≤ q ∧ ¬ X q ∧ (if w.heap.size ≤ q then 0 else col q) = 1) fun q a b => ⟨b.1, b.2.1, by rw [if_neg (by omega)]; exact b.2.2⟩).chgAt hc (fun q hl a b => by
      have e := a.2.2
      rw [if_neg (by omega)] at e
      exact absurd (e.symm.trans b.2.2) (by decide))
theorem Both.ref {w : World} {B g gr : Nat} {X : Nat → Prop} {s : DSt} {r : RSt} (h : Both w B X g gr s r) (hB : B ≤ w.heap.size) : ∃ F : Nat → Prop, RefAt w F gr r ∧ (∀ q, X q → ¬ F q) ∧ (∀ q, F q → B ≤ q) ∧
    ∀ (w' : World) (s' : RSt), RefAt w' (fun k => (F k ∧ k < w.heap.size) ∨ w.heap.size ≤ k) gr s' → Chg w w' F → Both w' B X g gr s s' := by
  obtain ⟨h2, col, d0, d1⟩ := h
  refine ⟨_, d1, fun q x a => a.2.1 x, fun q a => a.1, fun w' s' hd hc => ⟨fun q hq => Nat.lt_of_lt_of_le (h2 q hq) hc.size, fun q => if w.heap.size ≤ q then 1 else col q, ?_, ?_⟩⟩
  · exact (d0.mono (G := fun q => B ≤ q ∧ ¬ X q ∧ (if w.heap.size ≤ q then 1 else col q) = 0) fun q a b => ⟨b.1, b.2.1, by rw [if_neg (by omega)]; exact b.2.2⟩).chgAt2 hc (fun q hl a b => by
      have e := a.2.2
      rw [if_neg (by omega)] at e
      exact absurd (e.symm.trans b.2.2) (by decide))
  · refine hd.mono fun q hl hq => ⟨?_, fun x => ?_, ?_⟩
    · rcases hq with a | a
      · exact a.1.1
      · omega
    · rcases hq with a | a
      · exact a.1.2.1 x
      · exact absurd (h2 q x) (by omega)
    · show (if w.heap.size ≤ q then 1 else col q) = 1
      split
      · rfl
      · rcases hq with a | a
        · exact a.1.2.2
        · omega
/-- string(d.B) -/
theorem refStr {w : World} {F : Nat → Prop} {g : Nat} {r : RSt} (h : RefAt w F g r) : ∃ ab cb, w.cell? ⟨g, 0, none⟩ = some (.slice ab r.b.length cb) ∧ Sem.run Try.prog (convert 34 9 (.slice ab r.b.length cb)) w = .ok (.string ⟨r.b.toArray⟩) w := by
  obtain ⟨ab, cb, ap, cp, _, _, _, _, hg, hb, _⟩ := h.cells
  refine ⟨ab, cb, cell_at hg rfl, ?_⟩
  have hl : (u8Cells r.b).length = r.b.length := u8Cells_length _
  cases ab with
  | none =>
    by_cases h0 : 0 < r.b.length
    · obtain ⟨_, _, _, he, _⟩ := hb.at h0
      simp at he
    · have e : r.b = [] := List.eq_nil_of_length_eq_zero (by omega)
      rw [e]
      show Sem.run Try.prog (convert 34 9 (.slice none 0 cb)) w = _
      rw [run_convert_bytes_string w 34 9 5 none 0 cb under_bytes under_u8 under_str]
      rfl
  | some a =>
    refine run_convert_bytes_back w 34 9 5 a cb r.b under_bytes under_u8 under_str fun j hj => ?_
    obtain ⟨b, off, cap, he, _, _, _, _, hc⟩ := hb.at (by omega)
    simp only [Value.slice.injEq, Option.some.injEq] at he
    obtain ⟨rfl, -, rfl⟩ := he
    rw [Addr.add_lit]
    exact (hc j _ (by rw [u8Cells, List.getElem?_map, List.getElem?_eq_getElem hj]; rfl)).1
theorem trunc_cap (s : DSt) (n : Int) : (s.trunc n).2.cap = s.cap := by
  obtain ⟨b1, b2, b3, b4⟩ := burnt_parts s
  unfold DSt.trunc
  split
  · rfl
  · split
    · rfl
    · split
      · exact b3
      · exact b3
def rdS (d : Bool) (b : ByteArray) : ByteArray := if d then ByteArray.empty else b
def rdE (d : Bool) : Int := if d then 8 else 0
/-- what the law asks behind each op -/
theorem tail_facts {v : World} {B g gr N : Nat} {X : Nat → Prop} {s : DSt} (h : Both v B X g gr s (rOf s)) (hB : B ≤ v.heap.size) (ok : DOk N s) (hN : N ≤ 1000) :
    (Calls Try.prog 27 #[.pointer (some ⟨g, 0, none⟩)] v fun e w' => e = .returned (.tuple #[.string (rdS s.down s.bytes), .int .i64 (rdE s.down)]) ∧ Below v.heap.size v w') ∧
    (Calls Try.prog 34 #[.pointer (some ⟨g, 0, none⟩)] v fun e w' => e = .returned (.bool s.down) ∧ v = w') ∧
    (Calls Try.prog 28 #[.pointer (some ⟨g, 0, none⟩)] v fun e w' => e = .returned (.int .i64 (s.all.length : Nat)) ∧ Below v.heap.size v w') ∧
    (Calls Try.prog 29 #[.pointer (some ⟨g, 0, none⟩)] v fun e w' => e = .returned (.int .i64 (s.lasts.size : Nat)) ∧ v = w') ∧
    (Calls Try.prog 41 #[.pointer (some ⟨gr, 0, none⟩)] v fun e w' => e = .returned (.int .i64 (s.lasts.size : Nat)) ∧ v = w') ∧
    (Calls Try.prog 25 #[.pointer (some ⟨g, 0, none⟩)] v fun e w' => e = .returned (.int .i64 (s.cap - (s.all.length : Nat))) ∧ Below v.heap.size v w') ∧
    ∃ ab cb, v.cell? ⟨gr, 0, none⟩ = some (.slice ab s.all.length cb) ∧ Sem.run Try.prog (convert 34 9 (.slice ab s.all.length cb)) v = .ok (.string s.bytes) v ∧ v.cell? ⟨gr, 3, none⟩ = some (.int .i64 s.cap) ∧ v.cell? ⟨gr, 5, none⟩ = some (.bool s.down) ∧ gr < v.heap.size := by
  have o0 := ok.c0; have o1 := ok.c1; have o2 := ok.all; have o3 := ok.pieces
  obtain ⟨FD, hD, -, -, -⟩ := h.disk hB
  obtain ⟨FR, hR, -, -, -⟩ := h.ref hB
  have hpl := pieceOf_length s
  have hll := refLasts_any gr (rOf s) FR v hR (by show (pieceOf s).length ≤ _; omega)
  have e : zeros (rOf s).piece = s.lasts.size := zeros_pieceOf s
  rw [e] at hll
  obtain ⟨ab, cb, hc0, hcv⟩ := refStr hR
  obtain ⟨_, _, _, _, _, _, _, _, hgr, _, _⟩ := hR.cells
  refine ⟨?_, down_any g s FD v hD, len_any g s FD v hD (by omega) (by omega), lasts_any g s FD v hD, hll, room_any g s FD v hD (by omega) (by omega) o0 o1, ab, cb, hc0, hcv, cell_at hgr rfl, cell_at hgr rfl, heap_lt hgr⟩
  cases hd : s.down with
  | true => exact (read_down g s FD v hD hd).mono fun e w' ⟨a, b⟩ => ⟨a, b ▸ Below.refl _ _⟩
  | false => exact read_up g s FD v hD hd (by omega) (by omega)

set_option maxRecDepth 100000 in
set_option maxHeartbeats 1600000 in
theorem diskPlays_let (c : Int) (hc1 : -9223372036854775808 ≤ c) (hc2 : c ≤ 9223372036854775807) (so : Option Addr) (sb soff n scap : Nat) (os : List DOp) (w : World) (hn : n ≤ maxLen) (hl : os.length = n) (hao : 0 < n → so = some ⟨sb, soff, none⟩) (hb : 0 < n → sb < w.heap.size) (hok : ∀ o ∈ os, DOpOk w o)
    (hc : ∀ i o, os[i]? = some o → ∀ j u, (dopCells o)[j]? = some u → w.cell? ⟨sb, soff + i * 5 + j, none⟩ = some u) (hbig : Big14 os) :
    Calls Try.prog 10 #[.int .i64 c, .slice so n scap] w fun e w' => e = .returned (.bool true) ∧ Below w.heap.size w w' := by
  have HGR : ∀ w' : World, Below w.heap.size w w' → Calls Try.prog 30 #[.slice so n scap] w' fun e w'' => e = .returned (.bool true) ∧ Below w'.heap.size w' w'' := fun w' hb' =>
    great14_any so sb soff n scap os w' hn hl hao (fun h => Nat.lt_of_lt_of_le (hb h) hb'.size) (fun o ho => ⟨(hok o ho).1, (hok o ho).2.1⟩) (fun i o ho j u hj => (hb'.cell (by exact hb (by have := (List.getElem?_eq_some_iff.1 ho).1; omega))).trans (hc i o ho j u hj)) true (by simp [hbig])
  have HGRT := Lib.hid HGR
  clear hao hb hl hc hok hbig HGR hn hc1 hc2
  go_enter Try.func10, Try.ntmps10
  go_wp2_with fail
  refine (diskAwake w).mono ?_
  rintro e w0 ⟨rfl, hb0⟩
  have HB0 := Lib.hid hb0
  clear hb0
  go_wp2_with fail
  refine (HGRT.out w0 HB0.out).mono ?_
  rintro e w1 ⟨rfl, hb1⟩
  have z1 : w.heap.size ≤ w1.heap.size := Nat.le_trans HB0.out.size hb1.size
  have HB1 : Hid (Below w.heap.size w w1) := HB0.out.trans (hb1.mono HB0.out.size)
  clear hb1 HB0 HGRT
  go_wp2_with fail
  go_ret
  exact ⟨rfl, HB1.out⟩

set_option maxRecDepth 100000 in
set_option maxHeartbeats 12800000 in
theorem diskPlays_law (c : Int) (hc1 : -9223372036854775808 ≤ c) (hc2 : c ≤ 9223372036854775807) (so : Option Addr) (sb soff n scap : Nat) (os : List DOp) (w : World) (hn : n ≤ maxLen) (hl : os.length = n) (hao : 0 < n → so = some ⟨sb, soff, none⟩) (hb : 0 < n → sb < w.heap.size) (hok : ∀ o ∈ os, DOpOk w o)
    (hc : ∀ i o, os[i]? = some o → ∀ j u, (dopCells o)[j]? = some u → w.cell? ⟨sb, soff + i * 5 + j, none⟩ = some u) (hbig : ¬ Big14 os) :
    Calls Try.prog 10 #[.int .i64 c, .slice so n scap] w fun e w' => e = .returned (.bool true) ∧ Below w.heap.size w w' := by
  have mixed : Try.prog.follows .mixedOrders = true := by kernel_rfl
  have HGR : ∀ w' : World, Below w.heap.size w w' → Calls Try.prog 30 #[.slice so n scap] w' fun e w'' => e = .returned (.bool false) ∧ Below w'.heap.size w' w'' := fun w' hb' =>
    great14_any so sb soff n scap os w' hn hl hao (fun h => Nat.lt_of_lt_of_le (hb h) hb'.size) (fun o ho => ⟨(hok o ho).1, (hok o ho).2.1⟩) (fun i o ho j u hj => (hb'.cell (by exact hb (by have := (List.getElem?_eq_some_iff.1 ho).1; omega))).trans (hc i o ho j u hj)) false (by simp [hbig])
  have hn100 : n ≤ 100 := by
    have h : ¬ 100 < os.length := fun h => hbig (.inl h)
    omega
  have hsm : ∀ o ∈ os, o.keep.length ≤ 200 := fun o ho => Nat.le_of_not_lt fun h => hbig (.inr ⟨o, ho, .inr h⟩)
  have HGRT := Lib.hid HGR
  have HAO := Lib.hid hao
  have HB := Lib.hid hb
  have HL := Lib.hid hl
  have HC := Lib.hid hc
  have HOK := Lib.hid hok
  have HSM := Lib.hid hsm
  clear hao hb hl hc hok hsm hbig HGR hn
  go_enter Try.func10, Try.ntmps10
  go_wp2_with fail
  refine (diskAwake w).mono ?_
  rintro e w0 ⟨rfl, hb0⟩
  have HB0 := Lib.hid hb0
  clear hb0
  go_wp2_with fail
  refine (HGRT.out w0 HB0.out).mono ?_
  rintro e w1 ⟨rfl, hb1⟩
  have z1 : w.heap.size ≤ w1.heap.size := Nat.le_trans HB0.out.size hb1.size
  have HB1 : Hid (Below w.heap.size w w1) := HB0.out.trans (hb1.mono HB0.out.size)
  clear hb1 HB0 HGRT
  go_wp2_with fail
  refine (new_any c w1).mono ?_
  rintro e w2 ⟨rfl, hp2, hb2⟩
  obtain ⟨g, hg⟩ : ∃ g, w1.heap.size = g := ⟨_, rfl⟩
  try rw [hg]
  rw [hg] at hp2 hb2
  have HP2 := Lib.hid hp2
  have HW2 : Hid (Below w.heap.size w w2) := HB1.out.trans (hb2.mono (by omega))
  have hgz : g < w2.heap.size := by
    obtain ⟨_, v, hv, _⟩ := hp2
    exact heap_lt hv
  clear hp2 hb2 HB1
  go_wp2_with fail
  refine (refNew_any c w2).mono ?_
  rintro e w3 ⟨rfl, hr3, hb3⟩
  obtain ⟨gr, hgr⟩ : ∃ gr, w2.heap.size = gr := ⟨_, rfl⟩
  try rw [hgr]
  have HR0 : Hid (Both w3 w.heap.size (fun _ => False) g gr (dst0 c) (rOf (dst0 c)) ∧ Below w.heap.size w w3) := by
    rw [hgr] at hr3
    refine ⟨⟨fun q a => a.elim, fun q => if gr ≤ q then 1 else 0, ?_, ?_⟩, HW2.out.trans (hb3.mono (by omega))⟩
    · exact (HP2.out.mono (G := fun k => w.heap.size ≤ k ∧ ¬ False ∧ (if gr ≤ k then 1 else 0) = 0) fun k a b => ⟨by omega, fun x => x, by rw [if_neg (by omega)]⟩).below hb3 (Nat.le_refl _)
    · exact hr3.mono fun k a b => ⟨by omega, fun x => x, by show (if gr ≤ k then 1 else 0) = 1; rw [if_pos b]⟩
  clear hr3 hb3 HP2 HW2 hg hgr hgz z1
  go_wp2_with fail
  go_loopw [23] (fun i wr => ∃ (j : Nat) (s : DSt), j ≤ n ∧ i = .int .i64 j ∧ Hid (DOk j s ∧ s.cap = capOf c) ∧ Hid (Both wr w.heap.size (fun _ => False) g gr s (rOf s)) ∧ Hid (Below w.heap.size w wr)) (fun i _ => n - (intOf i).toNat)
  case atStart => exact ⟨0, dst0 c, by omega, rfl, ⟨dst0_ok c, rfl⟩, HR0.out.1, HR0.out.2⟩
  case round =>
    obtain ⟨j, s, hj, rfl, HP0, HBO, HW⟩ := hrel
    clear HR0
    obtain ⟨wq, hwq⟩ : ∃ wq : World, wq = wr := ⟨_, rfl⟩
    rw [← hwq] at HBO HW ⊢
    clear hwq
    by_cases hlt : j < n
    · obtain rfl := HAO.out (by omega)
      obtain ⟨⟨ok, on, os', oko, okc, okp, oc⟩, ho⟩ : ∃ o, os[j]? = some o := ⟨_, List.getElem?_eq_getElem (by rw [HL.out]; exact hlt)⟩
      have hc : ∀ k u, (dopCells ⟨ok, on, os', oko, okc, okp, oc⟩)[k]? = some u → wq.cell? ⟨sb, soff + j * 5 + k, none⟩ = some u := fun k u hk => (HW.out.cell (by exact HB.out (by omega))).trans (HC.out j _ ho k u hk)
      have q0 : wq.cell? ⟨sb, soff + j * 5, none⟩ = some (.int .i64 ok) := hc 0 _ rfl
      have q1 : wq.cell? ⟨sb, soff + j * 5 + 1, none⟩ = some (.int .i64 on) := hc 1 _ rfl
      have q2 : wq.cell? ⟨sb, soff + j * 5 + 2, none⟩ = some (.string os') := hc 2 _ rfl
      have q3 : wq.cell? ⟨sb, soff + j * 5 + 3, none⟩ = some (.slice oko okp.length okc) := hc 3 _ rfl
      have q4 : wq.cell? ⟨sb, soff + j * 5 + 4, none⟩ = some (.int .i64 oc) := hc 4 _ rfl
      obtain ⟨hs1, hs2, hs3, hs4, hs5, hs6⟩ := HOK.out _ (List.mem_of_getElem? ho)
      have hkl := HSM.out _ (List.mem_of_getElem? ho)
      simp only at hs1 hs2 hs3 hs4 hs5 hs6 hkl
      have hz := HW.out.size
      clear hc ho
      obtain ⟨wb, hwb⟩ : ∃ wb, wq.alloc (.cells #[.int .i64 ok, .int .i64 on, .string os', .slice oko okp.length okc, .int .i64 oc] 50) = wb := ⟨_, rfl⟩
      obtain ⟨X, hX⟩ : ∃ X, wq.heap.size = X := ⟨_, rfl⟩
      have HBX : Hid (wb.heap[X]? = some (.cells #[.int .i64 ok, .int .i64 on, .string os', .slice oko okp.length okc, .int .i64 oc] 50)) := by rw [← hwb, ← hX]; exact heap_alloc_new wq _
      have HBB : Hid (Both wb w.heap.size (fun q => q = X) g gr s (rOf s)) := by
        refine HBO.out.extend (by rw [← hwb]; exact (Below.refl _ _).alloc (Nat.le_refl _) _) (fun q hq a => by omega) (fun q a => ?_)
        rw [a]; exact heap_lt HBX.out
      have HBW : Hid (Below w.heap.size w wb) := by rw [← hwb]; exact HW.out.alloc hz _
      have hXw : w.heap.size ≤ X := by omega
      have hzb := HBW.out.size
      have hXb : X < wb.heap.size := heap_lt HBX.out
      have k0 : wb.cell? ⟨X, 0, none⟩ = some (.int .i64 ok) := cell_at HBX.out rfl
      have k1 : wb.cell? ⟨X, 1, none⟩ = some (.int .i64 on) := cell_at HBX.out rfl
      have k2 : wb.cell? ⟨X, 2, none⟩ = some (.string os') := cell_at HBX.out rfl
      have k3 : wb.cell? ⟨X, 3, none⟩ = some (.slice oko okp.length okc) := cell_at HBX.out rfl
      have k4 : wb.cell? ⟨X, 4, none⟩ = some (.int .i64 oc) := cell_at HBX.out rfl
      try rw [hX]
      clear HBO HW hz
      by_cases e0 : ok = 0
      · subst e0
        have HP : Hid (DOk (j + 1) (s.append os').2 ∧ ((s.append os').2).cap = capOf c) := ⟨append_ok HP0.out.1 os', (append_cap s os').trans HP0.out.2⟩
        have hro := rOf_append s os'
        obtain ⟨FD, hD, hDX, hDB, hturn⟩ := (HBB.out.below (Below.refl _ _).drew).disk (by exact hzb)
        have HKD := Lib.hid (append_any g j s FD wb.drew os' hD HP0.out.1 (by omega) hs1)
        have HT1 : Hid (∀ w5, DiskAt w5 (fun k => (FD k ∧ k < (wb.drew).heap.size) ∨ (wb.drew).heap.size ≤ k) g (s.append os').2 → Chg (wb.drew) w5 FD → Both w5 w.heap.size (fun q => q = X) g gr (s.append os').2 (rOf s) ∧ Below w.heap.size w w5 ∧ w5.heap[X]? = some (.cells #[.int .i64 0, .int .i64 on, .string os', .slice oko okp.length okc, .int .i64 oc] 50)) := fun w5 h5 c5 => ⟨hturn w5 _ h5 c5, HBW.out.drew.trans (c5.below (by exact hzb) (fun q hq a => by have := hDB q a; omega)), c5.heap (w := wb.drew) HBX.out (hDX X rfl)⟩
        clear hD hDX hDB hturn
        have hS : (fun w' => w'.cell? ⟨X, 2, none⟩ = some (.string os') : World → Prop) wb.drew := cell_at (w := wb.drew) HBX.out rfl
        go_wp2_with fail
        try rw [hX]
        try rw [hwb]
        refine AnyTo.region (m := 99) (S := fun w' => w'.cell? ⟨X, 2, none⟩ = some (.string os')) mixed ?_
        refine AnyTo.takeA (i := 0) (v := ?vp00) rfl (by kernel_rfl) (of_decide_eq_true (by kernel_rfl)) (by kernel_rfl) (by kernel_rfl) (fun _ _ _ h => h) (Or.inl ⟨by kernel_rfl, ?hyp00⟩) hS ?restp00
        case hyp00 => (intro w' hw'; (try dsimp only at hw'); go_simp; try (with_reducible rfl))
        refine AnyTo.takeA (i := 1) (v := ?vp01) rfl (by kernel_rfl) (of_decide_eq_true (by kernel_rfl)) (by kernel_rfl) (by kernel_rfl) (fun _ _ _ h => h) (Or.inl ⟨by kernel_rfl, ?hyp01⟩) hS ?restp01
        case hyp01 => (intro w' hw'; (try dsimp only at hw'); go_simp; try (with_reducible rfl))
        refine AnyTo.takeA (i := 2) (v := ?vp02) rfl (by kernel_rfl) (of_decide_eq_true (by kernel_rfl)) (by kernel_rfl) (by kernel_rfl) (fun _ _ _ h => h) (Or.inl ⟨by kernel_rfl, ?hyp02⟩) hS ?restp02
        case hyp02 => (intro w' hw'; (try dsimp only at hw'); go_simp; try (with_reducible rfl))
        refine AnyTo.takeA (i := 4) (v := ?vp04) rfl (by kernel_rfl) (of_decide_eq_true (by kernel_rfl)) (by kernel_rfl) (by kernel_rfl) (fun _ _ _ h => h) (Or.inl ⟨by kernel_rfl, ?hyp04⟩) hS ?restp04
        case hyp04 => (intro w' hw'; (try dsimp only at hw'); go_simp; try (with_reducible rfl))
        refine AnyTo.takeA (i := 5) (v := ?vp05) rfl (by kernel_rfl) (of_decide_eq_true (by kernel_rfl)) (by kernel_rfl) (by kernel_rfl) (fun _ _ _ h => h) (Or.inl ⟨by kernel_rfl, ?hyp05⟩) hS ?restp05
        case hyp05 => (intro w' hw'; (try dsimp only at hw'); go_simp; try (with_reducible rfl))
        refine AnyTo.takeA (i := 6) (v := ?vp06) rfl (by kernel_rfl) (of_decide_eq_true (by kernel_rfl)) (by kernel_rfl) (by kernel_rfl) (fun _ _ _ h => h) (Or.inl ⟨by kernel_rfl, ?hyp06⟩) hS ?restp06
        case hyp06 => (intro w' hw'; (try dsimp only at hw'); go_simp; try (with_reducible rfl))
        try simp only [Act.put, List.getElem_toArray, List.getElem_cons_zero, List.getElem_cons_succ, List.setIfInBounds_toArray, List.set_cons_zero, List.set_cons_succ]
        refine AnyTo.step (i := 3) (by kernel_rfl) rfl (fun K hK => ?_)
        go_simp
        go_at_call 26
        refine HKD.out.mono ?_
        rintro e w5 ⟨rfl, h5, c5⟩
        obtain ⟨hb5, hw5, hx5⟩ := HT1.out w5 h5 c5
        have HB5 := Lib.hid hb5
        have HW5 := Lib.hid hw5
        have HX5 := Lib.hid hx5
        have hz5 := hw5.size
        clear hb5 hw5 hx5 h5 c5 HT1 HKD
        have b0 : w5.cell? ⟨X, 0, none⟩ = some (.int .i64 0) := cell_at HX5.out rfl
        have b1 : w5.cell? ⟨X, 1, none⟩ = some (.int .i64 on) := cell_at HX5.out rfl
        have b2 : w5.cell? ⟨X, 2, none⟩ = some (.string os') := cell_at HX5.out rfl
        have b3 : w5.cell? ⟨X, 3, none⟩ = some (.slice oko okp.length okc) := cell_at HX5.out rfl
        have b4 : w5.cell? ⟨X, 4, none⟩ = some (.int .i64 oc) := cell_at HX5.out rfl
        clear hS
        have hS : (fun w' => w'.cell? ⟨X, 2, none⟩ = some (.string os') : World → Prop) w5 := b2
        obtain ⟨FR, hR, hRX, hRB, hturn⟩ := HB5.out.ref hz5
        have hk := refAppend_any gr j (rOf s) FR w5 os' hR (rOf_ok HP0.out.1) (by omega) hs1
        rw [hro] at hk
        have HKR := Lib.hid hk
        have HT2 : Hid (∀ w6, RefAt w6 (fun k => (FR k ∧ k < w5.heap.size) ∨ w5.heap.size ≤ k) gr (rOf (s.append os').2) → Chg w5 w6 FR → Both w6 w.heap.size (fun q => q = X) g gr (s.append os').2 (rOf (s.append os').2) ∧ Below w.heap.size w w6 ∧ w6.heap[X]? = some (.cells #[.int .i64 0, .int .i64 on, .string os', .slice oko okp.length okc, .int .i64 oc] 50)) := fun w6 h6 c6 => ⟨hturn w6 _ h6 c6, HW5.out.trans (c6.below hz5 (fun q hq a => by have := hRB q a; omega)), c6.heap HX5.out (hRX X rfl)⟩
        clear hk hR hRX hRB hturn
        go_wp2_with fail
        refine hK.out _ _ (fun _ => hS) ?_
        clear hK K
        try simp only [Act.put, List.getElem_toArray, List.getElem_cons_zero, List.getElem_cons_succ, List.setIfInBounds_toArray, List.set_cons_zero, List.set_cons_succ]
        refine AnyTo.step (i := 7) (by kernel_rfl) rfl (fun K hK => ?_)
        go_simp
        go_at_call 37
        refine HKR.out.mono ?_
        rintro e w6 ⟨rfl, h6, c6⟩
        obtain ⟨hb6, hw6, hx6⟩ := HT2.out w6 h6 c6
        have HB2 := Lib.hid hb6
        have HW := Lib.hid hw6
        clear hS
        have hS : (fun w' => w'.cell? ⟨X, 2, none⟩ = some (.string os') : World → Prop) w6 := cell_at hx6 rfl
        clear hb6 hw6 h6 c6
        go_wp2_with fail
        refine hK.out _ _ (fun _ => hS) ?_
        clear hK K
        try simp only [Act.put, List.getElem_toArray, List.getElem_cons_zero, List.getElem_cons_succ, List.setIfInBounds_toArray, List.set_cons_zero, List.set_cons_succ]
        refine AnyTo.takeA (i := 8) (v := ?vp08) rfl (by kernel_rfl) (of_decide_eq_true (by kernel_rfl)) (by kernel_rfl) (by kernel_rfl) (fun _ _ _ h => h) (Or.inl ⟨by kernel_rfl, ?hyp08⟩) hS ?restp08
        case hyp08 => (intro w' hw'; (try dsimp only at hw'); go_simp; try (with_reducible rfl))
        refine AnyTo.takeA (i := 9) (v := ?vp09) rfl (by kernel_rfl) (of_decide_eq_true (by kernel_rfl)) (by kernel_rfl) (by kernel_rfl) (fun _ _ _ h => h) (Or.inl ⟨by kernel_rfl, ?hyp09⟩) hS ?restp09
        case hyp09 => (intro w' hw'; (try dsimp only at hw'); go_simp; try (with_reducible rfl))
        try simp only [Act.put, List.getElem_toArray, List.getElem_cons_zero, List.getElem_cons_succ, List.setIfInBounds_toArray, List.set_cons_zero, List.set_cons_succ]
        refine AnyTo.done (by kernel_rfl) ?_
        clear hS hx6
        obtain ⟨s2, hs2⟩ : ∃ s2, (s.append os').2 = s2 := ⟨_, rfl⟩
        rw [hs2] at HP HB2
        have HP0c := HP0
        clear HP0 hs2 HB5 HW5 HX5 HT2 HKR hro
        clear hwb hX b0 b1 b2 b3 b4 q0 q1 q2 q3 q4 k0 k1 k2 k3 k4
        go_wp2_with fail
        obtain ⟨hpk, hpc⟩ := id HP.out
        have pal := hpk.all
        have ppc := hpk.pieces
        have hc16 := hpk.c1
        have HN := Lib.hid (fun (v : World) (hv : Both v w.heap.size (fun q => q = X) g gr s2 (rOf s2) ∧ Below w.heap.size w v) => tail_facts hv.1 hv.2.size hpk (by omega))
        clear hpk hpc
        obtain ⟨BY, hBY⟩ : ∃ b, s2.bytes = b := ⟨_, rfl⟩
        obtain ⟨AL, hAL⟩ : ∃ b, s2.all.length = b := ⟨_, rfl⟩
        obtain ⟨LL, hLL⟩ : ∃ b, s2.lasts.size = b := ⟨_, rfl⟩
        obtain ⟨CP, hCP⟩ : ∃ b, s2.cap = b := ⟨_, rfl⟩
        rw [hBY, hAL, hLL, hCP] at HN
        rw [hAL, hCP] at pal
        rw [hCP] at hc16
        clear hBY hAL hLL hCP
        have e9 : IntKind.i64.wrap (CP - (AL : Int)) = CP - (AL : Int) := IntWalk.i64_in _ (by omega)
        obtain ⟨RM, hRM⟩ : ∃ x : Int, CP - (AL : Int) = x := ⟨_, rfl⟩
        rw [hRM] at HN
        have HE9 := Lib.hid (e9.trans hRM)
        clear e9
        have HPV : Hid (∀ (v v' : World), Both v w.heap.size (fun q => q = X) g gr s2 (rOf s2) ∧ Below w.heap.size w v → Below v.heap.size v v' → Both v' w.heap.size (fun q => q = X) g gr s2 (rOf s2) ∧ Below w.heap.size w v') := fun v v' hv hb => ⟨hv.1.below hb, hv.2.trans (hb.mono hv.2.size)⟩
        have HV0 : Hid (Both w6 w.heap.size (fun q => q = X) g gr s2 (rOf s2) ∧ Below w.heap.size w w6) := ⟨HB2.out, HW.out⟩
        have HREL : Hid (∀ v, Both v w.heap.size (fun q => q = X) g gr s2 (rOf s2) ∧ Below w.heap.size w v → Both v w.heap.size (fun _ => False) g gr s2 (rOf s2) ∧ Below w.heap.size w v) := fun v hv => ⟨hv.1.extend (Below.refl _ _) (fun q _ a => a.elim) (fun q a => a.elim), hv.2⟩
        clear HB2 HW hRM
        cases hdc : s2.down with
        | true =>
          rw [hdc] at HN
          clear hdc
          have hrd : Calls Try.prog 27 #[.pointer (some ⟨g, 0, none⟩)] w6 fun e w' => e = .returned (.tuple #[.string ByteArray.empty, .int .i64 8]) ∧ Below w6.heap.size w6 w' := (HN.out w6 HV0.out).1
          go_wp2_with fail
          refine hrd.mono ?_
          rintro e v1 ⟨rfl, hb⟩
          have HV1 := Lib.hid (HPV.out _ _ HV0.out hb)
          clear hb hrd
          obtain ⟨-, -, -, -, -, -, ab, cb, t7, -, -, -, tb⟩ := HN.out v1 HV1.out
          have HG : Hid ((fun v => (Both v w.heap.size (fun q => q = X) g gr s2 (rOf s2) ∧ Below w.heap.size w v) ∧ v.cell? ⟨gr, 0, none⟩ = some (.slice ab AL cb) ∧ gr < v.heap.size : World → Prop) v1) := ⟨HV1.out, t7, tb⟩
          clear t7 tb HV1 HV0
          go_wp2_with fail
          refine dpDown (ab := ab) (cb := cb) (BY := BY) (LL := LL) (AL := AL) (G := fun v => (Both v w.heap.size (fun q => q = X) g gr s2 (rOf s2) ∧ Below w.heap.size w v) ∧ v.cell? ⟨gr, 0, none⟩ = some (.slice ab AL cb) ∧ gr < v.heap.size) HG.out (fun v v' hv hb => ⟨HPV.out v v' hv.1 hb, (hb.cell (p := ⟨gr, 0, none⟩) hv.2.2).trans hv.2.1, Nat.lt_of_lt_of_le hv.2.2 hb.size⟩) (fun v hv => ?_) HE9.out (fun _ _ _ _ _ h => h) ?_
          · obtain ⟨-, t2, t3, t4, t5, t6, ab', cb', t7, t8, t9, ta, -⟩ := HN.out v hv.1
            have e := t7.symm.trans hv.2.1
            simp only [Option.some.injEq, Value.slice.injEq] at e
            obtain ⟨rfl, -, rfl⟩ := e
            exact ⟨⟨hv.2.1, t9, ta, t8⟩, t2, t3, t4, t5, t6⟩
          · intro w9 x86 x87 x88 x89 x90 x91 x92 x93 x94 x95 x96 x97 x98 x99 x100 x101 x102 x103 x104 x105 x106 x107 x108 x109 x110 x111 x112 x113 x114 x115 x116 x117 x118 x119 x120 x121 x122 x123 x124 x125 x126 x127 x128 x129 x130 x131 x132 x133 x134 x135 x136 x137 x138 x139 x140 x141 x142 x143 x144 x145 x146 x147 x148 x149 x150 x151 x152 x153 h9
            have HE := Lib.hid (HREL.out w9 h9.1)
            clear h9 HG
            go_wp2_with fail
            go_roundw
            case rel => exact ⟨j + 1, s2, by omega, by go_num, HP.out, HE.out.1, HE.out.2⟩
            case measure => simp [intOf]; omega
        | false =>
          rw [hdc] at HN
          clear hdc
          have hrd : Calls Try.prog 27 #[.pointer (some ⟨g, 0, none⟩)] w6 fun e w' => e = .returned (.tuple #[.string BY, .int .i64 0]) ∧ Below w6.heap.size w6 w' := (HN.out w6 HV0.out).1
          go_wp2_with fail
          refine hrd.mono ?_
          rintro e v1 ⟨rfl, hb⟩
          have HV1 := Lib.hid (HPV.out _ _ HV0.out hb)
          clear hb hrd
          obtain ⟨-, -, -, -, -, -, ab, cb, t7, -, -, -, tb⟩ := HN.out v1 HV1.out
          have HG : Hid ((fun v => (Both v w.heap.size (fun q => q = X) g gr s2 (rOf s2) ∧ Below w.heap.size w v) ∧ v.cell? ⟨gr, 0, none⟩ = some (.slice ab AL cb) ∧ gr < v.heap.size : World → Prop) v1) := ⟨HV1.out, t7, tb⟩
          clear t7 tb HV1 HV0
          go_wp2_with fail
          refine dpUp (ab := ab) (cb := cb) (BY := BY) (LL := LL) (AL := AL) (G := fun v => (Both v w.heap.size (fun q => q = X) g gr s2 (rOf s2) ∧ Below w.heap.size w v) ∧ v.cell? ⟨gr, 0, none⟩ = some (.slice ab AL cb) ∧ gr < v.heap.size) HG.out (fun v v' hv hb => ⟨HPV.out v v' hv.1 hb, (hb.cell (p := ⟨gr, 0, none⟩) hv.2.2).trans hv.2.1, Nat.lt_of_lt_of_le hv.2.2 hb.size⟩) (fun v hv => ?_) HE9.out (fun _ _ _ _ _ h => h) ?_
          · obtain ⟨-, t2, t3, t4, t5, t6, ab', cb', t7, t8, t9, ta, -⟩ := HN.out v hv.1
            have e := t7.symm.trans hv.2.1
            simp only [Option.some.injEq, Value.slice.injEq] at e
            obtain ⟨rfl, -, rfl⟩ := e
            exact ⟨⟨hv.2.1, t9, ta, t8⟩, t2, t3, t4, t5, t6⟩
          · intro w9 x86 x87 x88 x89 x90 x91 x92 x93 x94 x95 x96 x97 x98 x99 x100 x101 x102 x103 x104 x105 x106 x107 x108 x109 x110 x111 x112 x113 x114 x115 x116 x117 x118 x119 x120 x121 x122 x123 x124 x125 x126 x127 x128 x129 x130 x131 x132 x133 x134 x135 x136 x137 x138 x139 x140 x141 x142 x143 x144 x145 x146 x147 x148 x149 x150 x151 x152 x153 h9
            have HE := Lib.hid (HREL.out w9 h9.1)
            clear h9 HG
            go_wp2_with fail
            go_roundw
            case rel => exact ⟨j + 1, s2, by omega, by go_num, HP.out, HE.out.1, HE.out.2⟩
            case measure => simp [intOf]; omega
      by_cases e1 : ok = 1
      · subst e1
        have HP : Hid (DOk (j + 1) s.sync.2 ∧ (s.sync.2).cap = capOf c) := ⟨(sync_ok HP0.out.1).mono (by omega), (sync_cap s).trans HP0.out.2⟩
        have hro := rOf_sync s
        obtain ⟨FD, hD, hDX, hDB, hturn⟩ := (HBB.out).disk (by exact hzb)
        have HKD := Lib.hid (sync_any g j s FD wb hD HP0.out.1 (by omega))
        have HT1 : Hid (∀ w5, DiskAt w5 (fun k => (FD k ∧ k < (wb).heap.size) ∨ (wb).heap.size ≤ k) g s.sync.2 → Chg (wb) w5 FD → Both w5 w.heap.size (fun q => q = X) g gr s.sync.2 (rOf s) ∧ Below w.heap.size w w5 ∧ w5.heap[X]? = some (.cells #[.int .i64 1, .int .i64 on, .string os', .slice oko okp.length okc, .int .i64 oc] 50)) := fun w5 h5 c5 => ⟨hturn w5 _ h5 c5, HBW.out.trans (c5.below (by exact hzb) (fun q hq a => by have := hDB q a; omega)), c5.heap (w := wb) HBX.out (hDX X rfl)⟩
        clear hD hDX hDB hturn
        go_wp2_with fail
        try rw [hX]
        try rw [hwb]
        refine HKD.out.mono ?_
        rintro e w5 ⟨rfl, h5, c5⟩
        obtain ⟨hb5, hw5, hx5⟩ := HT1.out w5 h5 c5
        have HB5 := Lib.hid hb5
        have HW5 := Lib.hid hw5
        have HX5 := Lib.hid hx5
        have hz5 := hw5.size
        clear hb5 hw5 hx5 h5 c5 HT1 HKD
        have b0 : w5.cell? ⟨X, 0, none⟩ = some (.int .i64 1) := cell_at HX5.out rfl
        have b1 : w5.cell? ⟨X, 1, none⟩ = some (.int .i64 on) := cell_at HX5.out rfl
        have b2 : w5.cell? ⟨X, 2, none⟩ = some (.string os') := cell_at HX5.out rfl
        have b3 : w5.cell? ⟨X, 3, none⟩ = some (.slice oko okp.length okc) := cell_at HX5.out rfl
        have b4 : w5.cell? ⟨X, 4, none⟩ = some (.int .i64 oc) := cell_at HX5.out rfl
        obtain ⟨FR, hR, hRX, hRB, hturn⟩ := HB5.out.ref hz5
        have hk := refSync_any gr j (rOf s) FR w5 hR (rOf_ok HP0.out.1)
        rw [hro] at hk
        have HKR := Lib.hid hk
        have HT2 : Hid (∀ w6, RefAt w6 (fun k => (FR k ∧ k < w5.heap.size) ∨ w5.heap.size ≤ k) gr (rOf s.sync.2) → Chg w5 w6 FR → Both w6 w.heap.size (fun q => q = X) g gr s.sync.2 (rOf s.sync.2) ∧ Below w.heap.size w w6 ∧ w6.heap[X]? = some (.cells #[.int .i64 1, .int .i64 on, .string os', .slice oko okp.length okc, .int .i64 oc] 50)) := fun w6 h6 c6 => ⟨hturn w6 _ h6 c6, HW5.out.trans (c6.below hz5 (fun q hq a => by have := hRB q a; omega)), c6.heap HX5.out (hRX X rfl)⟩
        clear hk hR hRX hRB hturn
        go_wp2_with fail
        refine HKR.out.mono ?_
        rintro e w6 ⟨rfl, h6, c6⟩
        obtain ⟨hb6, hw6, hx6⟩ := HT2.out w6 h6 c6
        have HB2 := Lib.hid hb6
        have HW := Lib.hid hw6
        clear hb6 hw6 h6 c6 hx6
        obtain ⟨s2, hs2⟩ : ∃ s2, s.sync.2 = s2 := ⟨_, rfl⟩
        rw [hs2] at HP HB2
        have HP0c := HP0
        clear HP0 hs2 HB5 HW5 HX5 HT2 HKR hro
        clear hwb hX b0 b1 b2 b3 b4 q0 q1 q2 q3 q4 k0 k1 k2 k3 k4
        go_wp2_with fail
        obtain ⟨hpk, hpc⟩ := id HP.out
        have pal := hpk.all
        have ppc := hpk.pieces
        have hc16 := hpk.c1
        have HN := Lib.hid (fun (v : World) (hv : Both v w.heap.size (fun q => q = X) g gr s2 (rOf s2) ∧ Below w.heap.size w v) => tail_facts hv.1 hv.2.size hpk (by omega))
        clear hpk hpc
        obtain ⟨BY, hBY⟩ : ∃ b, s2.bytes = b := ⟨_, rfl⟩
        obtain ⟨AL, hAL⟩ : ∃ b, s2.all.length = b := ⟨_, rfl⟩
        obtain ⟨LL, hLL⟩ : ∃ b, s2.lasts.size = b := ⟨_, rfl⟩
        obtain ⟨CP, hCP⟩ : ∃ b, s2.cap = b := ⟨_, rfl⟩
        rw [hBY, hAL, hLL, hCP] at HN
        rw [hAL, hCP] at pal
        rw [hCP] at hc16
        clear hBY hAL hLL hCP
        have e9 : IntKind.i64.wrap (CP - (AL : Int)) = CP - (AL : Int) := IntWalk.i64_in _ (by omega)
        obtain ⟨RM, hRM⟩ : ∃ x : Int, CP - (AL : Int) = x := ⟨_, rfl⟩
        rw [hRM] at HN
        have HE9 := Lib.hid (e9.trans hRM)
        clear e9
        have HPV : Hid (∀ (v v' : World), Both v w.heap.size (fun q => q = X) g gr s2 (rOf s2) ∧ Below w.heap.size w v → Below v.heap.size v v' → Both v' w.heap.size (fun q => q = X) g gr s2 (rOf s2) ∧ Below w.heap.size w v') := fun v v' hv hb => ⟨hv.1.below hb, hv.2.trans (hb.mono hv.2.size)⟩
        have HV0 : Hid (Both w6 w.heap.size (fun q => q = X) g gr s2 (rOf s2) ∧ Below w.heap.size w w6) := ⟨HB2.out, HW.out⟩
        have HREL : Hid (∀ v, Both v w.heap.size (fun q => q = X) g gr s2 (rOf s2) ∧ Below w.heap.size w v → Both v w.heap.size (fun _ => False) g gr s2 (rOf s2) ∧ Below w.heap.size w v) := fun v hv => ⟨hv.1.extend (Below.refl _ _) (fun q _ a => a.elim) (fun q a => a.elim), hv.2⟩
        clear HB2 HW hRM
        cases hdc : s2.down with
        | true =>
          rw [hdc] at HN
          clear hdc
          have hrd : Calls Try.prog 27 #[.pointer (some ⟨g, 0, none⟩)] w6 fun e w' => e = .returned (.tuple #[.string ByteArray.empty, .int .i64 8]) ∧ Below w6.heap.size w6 w' := (HN.out w6 HV0.out).1
          go_wp2_with fail
          refine hrd.mono ?_
          rintro e v1 ⟨rfl, hb⟩
          have HV1 := Lib.hid (HPV.out _ _ HV0.out hb)
          clear hb hrd
          obtain ⟨-, -, -, -, -, -, ab, cb, t7, -, -, -, tb⟩ := HN.out v1 HV1.out
          have HG : Hid ((fun v => (Both v w.heap.size (fun q => q = X) g gr s2 (rOf s2) ∧ Below w.heap.size w v) ∧ v.cell? ⟨gr, 0, none⟩ = some (.slice ab AL cb) ∧ gr < v.heap.size : World → Prop) v1) := ⟨HV1.out, t7, tb⟩
          clear t7 tb HV1 HV0
          go_wp2_with fail
          refine dpDown (ab := ab) (cb := cb) (BY := BY) (LL := LL) (AL := AL) (G := fun v => (Both v w.heap.size (fun q => q = X) g gr s2 (rOf s2) ∧ Below w.heap.size w v) ∧ v.cell? ⟨gr, 0, none⟩ = some (.slice ab AL cb) ∧ gr < v.heap.size) HG.out (fun v v' hv hb => ⟨HPV.out v v' hv.1 hb, (hb.cell (p := ⟨gr, 0, none⟩) hv.2.2).trans hv.2.1, Nat.lt_of_lt_of_le hv.2.2 hb.size⟩) (fun v hv => ?_) HE9.out (fun _ _ _ _ _ h => h) ?_
          · obtain ⟨-, t2, t3, t4, t5, t6, ab', cb', t7, t8, t9, ta, -⟩ := HN.out v hv.1
            have e := t7.symm.trans hv.2.1
            simp only [Option.some.injEq, Value.slice.injEq] at e
            obtain ⟨rfl, -, rfl⟩ := e
            exact ⟨⟨hv.2.1, t9, ta, t8⟩, t2, t3, t4, t5, t6⟩
          · intro w9 x86 x87 x88 x89 x90 x91 x92 x93 x94 x95 x96 x97 x98 x99 x100 x101 x102 x103 x104 x105 x106 x107 x108 x109 x110 x111 x112 x113 x114 x115 x116 x117 x118 x119 x120 x121 x122 x123 x124 x125 x126 x127 x128 x129 x130 x131 x132 x133 x134 x135 x136 x137 x138 x139 x140 x141 x142 x143 x144 x145 x146 x147 x148 x149 x150 x151 x152 x153 h9
            have HE := Lib.hid (HREL.out w9 h9.1)
            clear h9 HG
            go_wp2_with fail
            go_roundw
            case rel => exact ⟨j + 1, s2, by omega, by go_num, HP.out, HE.out.1, HE.out.2⟩
            case measure => simp [intOf]; omega
        | false =>
          rw [hdc] at HN
          clear hdc
          have hrd : Calls Try.prog 27 #[.pointer (some ⟨g, 0, none⟩)] w6 fun e w' => e = .returned (.tuple #[.string BY, .int .i64 0]) ∧ Below w6.heap.size w6 w' := (HN.out w6 HV0.out).1
          go_wp2_with fail
          refine hrd.mono ?_
          rintro e v1 ⟨rfl, hb⟩
          have HV1 := Lib.hid (HPV.out _ _ HV0.out hb)
          clear hb hrd
          obtain ⟨-, -, -, -, -, -, ab, cb, t7, -, -, -, tb⟩ := HN.out v1 HV1.out
          have HG : Hid ((fun v => (Both v w.heap.size (fun q => q = X) g gr s2 (rOf s2) ∧ Below w.heap.size w v) ∧ v.cell? ⟨gr, 0, none⟩ = some (.slice ab AL cb) ∧ gr < v.heap.size : World → Prop) v1) := ⟨HV1.out, t7, tb⟩
          clear t7 tb HV1 HV0
          go_wp2_with fail
          refine dpUp (ab := ab) (cb := cb) (BY := BY) (LL := LL) (AL := AL) (G := fun v => (Both v w.heap.size (fun q => q = X) g gr s2 (rOf s2) ∧ Below w.heap.size w v) ∧ v.cell? ⟨gr, 0, none⟩ = some (.slice ab AL cb) ∧ gr < v.heap.size) HG.out (fun v v' hv hb => ⟨HPV.out v v' hv.1 hb, (hb.cell (p := ⟨gr, 0, none⟩) hv.2.2).trans hv.2.1, Nat.lt_of_lt_of_le hv.2.2 hb.size⟩) (fun v hv => ?_) HE9.out (fun _ _ _ _ _ h => h) ?_
          · obtain ⟨-, t2, t3, t4, t5, t6, ab', cb', t7, t8, t9, ta, -⟩ := HN.out v hv.1
            have e := t7.symm.trans hv.2.1
            simp only [Option.some.injEq, Value.slice.injEq] at e
            obtain ⟨rfl, -, rfl⟩ := e
            exact ⟨⟨hv.2.1, t9, ta, t8⟩, t2, t3, t4, t5, t6⟩
          · intro w9 x86 x87 x88 x89 x90 x91 x92 x93 x94 x95 x96 x97 x98 x99 x100 x101 x102 x103 x104 x105 x106 x107 x108 x109 x110 x111 x112 x113 x114 x115 x116 x117 x118 x119 x120 x121 x122 x123 x124 x125 x126 x127 x128 x129 x130 x131 x132 x133 x134 x135 x136 x137 x138 x139 x140 x141 x142 x143 x144 x145 x146 x147 x148 x149 x150 x151 x152 x153 h9
            have HE := Lib.hid (HREL.out w9 h9.1)
            clear h9 HG
            go_wp2_with fail
            go_roundw
            case rel => exact ⟨j + 1, s2, by omega, by go_num, HP.out, HE.out.1, HE.out.2⟩
            case measure => simp [intOf]; omega
      by_cases e2 : ok = 2
      · subst e2
        have HP : Hid (DOk (j + 1) (s.trunc on).2 ∧ ((s.trunc on).2).cap = capOf c) := ⟨(trunc_ok HP0.out.1 on).mono (by omega), (trunc_cap s on).trans HP0.out.2⟩
        have hro := rOf_trunc s on
        obtain ⟨FD, hD, hDX, hDB, hturn⟩ := (HBB.out.below (Below.refl _ _).drew).disk (by exact hzb)
        have HKD := Lib.hid (trunc_any g j s FD wb.drew on hD HP0.out.1 (by omega))
        have HT1 : Hid (∀ w5, DiskAt w5 (fun k => (FD k ∧ k < (wb.drew).heap.size) ∨ (wb.drew).heap.size ≤ k) g (s.trunc on).2 → Chg (wb.drew) w5 FD → Both w5 w.heap.size (fun q => q = X) g gr (s.trunc on).2 (rOf s) ∧ Below w.heap.size w w5 ∧ w5.heap[X]? = some (.cells #[.int .i64 2, .int .i64 on, .string os', .slice oko okp.length okc, .int .i64 oc] 50)) := fun w5 h5 c5 => ⟨hturn w5 _ h5 c5, HBW.out.drew.trans (c5.below (by exact hzb) (fun q hq a => by have := hDB q a; omega)), c5.heap (w := wb.drew) HBX.out (hDX X rfl)⟩
        clear hD hDX hDB hturn
        have hS : (fun w' => w'.cell? ⟨X, 1, none⟩ = some (.int .i64 on) : World → Prop) wb.drew := cell_at (w := wb.drew) HBX.out rfl
        go_wp2_with fail
        try rw [hX]
        try rw [hwb]
        refine AnyTo.region (m := 99) (S := fun w' => w'.cell? ⟨X, 1, none⟩ = some (.int .i64 on)) mixed ?_
        refine AnyTo.takeA (i := 0) (v := ?vp20) rfl (by kernel_rfl) (of_decide_eq_true (by kernel_rfl)) (by kernel_rfl) (by kernel_rfl) (fun _ _ _ h => h) (Or.inl ⟨by kernel_rfl, ?hyp20⟩) hS ?restp20
        case hyp20 => (intro w' hw'; (try dsimp only at hw'); go_simp; try (with_reducible rfl))
        refine AnyTo.takeA (i := 1) (v := ?vp21) rfl (by kernel_rfl) (of_decide_eq_true (by kernel_rfl)) (by kernel_rfl) (by kernel_rfl) (fun _ _ _ h => h) (Or.inl ⟨by kernel_rfl, ?hyp21⟩) hS ?restp21
        case hyp21 => (intro w' hw'; (try dsimp only at hw'); go_simp; try (with_reducible rfl))
        refine AnyTo.takeA (i := 2) (v := ?vp22) rfl (by kernel_rfl) (of_decide_eq_true (by kernel_rfl)) (by kernel_rfl) (by kernel_rfl) (fun _ _ _ h => h) (Or.inl ⟨by kernel_rfl, ?hyp22⟩) hS ?restp22
        case hyp22 => (intro w' hw'; (try dsimp only at hw'); go_simp; try (with_reducible rfl))
        refine AnyTo.takeA (i := 4) (v := ?vp24) rfl (by kernel_rfl) (of_decide_eq_true (by kernel_rfl)) (by kernel_rfl) (by kernel_rfl) (fun _ _ _ h => h) (Or.inl ⟨by kernel_rfl, ?hyp24⟩) hS ?restp24
        case hyp24 => (intro w' hw'; (try dsimp only at hw'); go_simp; try (with_reducible rfl))
        refine AnyTo.takeA (i := 5) (v := ?vp25) rfl (by kernel_rfl) (of_decide_eq_true (by kernel_rfl)) (by kernel_rfl) (by kernel_rfl) (fun _ _ _ h => h) (Or.inl ⟨by kernel_rfl, ?hyp25⟩) hS ?restp25
        case hyp25 => (intro w' hw'; (try dsimp only at hw'); go_simp; try (with_reducible rfl))
        refine AnyTo.takeA (i := 6) (v := ?vp26) rfl (by kernel_rfl) (of_decide_eq_true (by kernel_rfl)) (by kernel_rfl) (by kernel_rfl) (fun _ _ _ h => h) (Or.inl ⟨by kernel_rfl, ?hyp26⟩) hS ?restp26
        case hyp26 => (intro w' hw'; (try dsimp only at hw'); go_simp; try (with_reducible rfl))
        try simp only [Act.put, List.getElem_toArray, List.getElem_cons_zero, List.getElem_cons_succ, List.setIfInBounds_toArray, List.set_cons_zero, List.set_cons_succ]
        refine AnyTo.step (i := 3) (by kernel_rfl) rfl (fun K hK => ?_)
        go_simp
        go_at_call 35
        refine HKD.out.mono ?_
        rintro e w5 ⟨rfl, h5, c5⟩
        obtain ⟨hb5, hw5, hx5⟩ := HT1.out w5 h5 c5
        have HB5 := Lib.hid hb5
        have HW5 := Lib.hid hw5
        have HX5 := Lib.hid hx5
        have hz5 := hw5.size
        clear hb5 hw5 hx5 h5 c5 HT1 HKD
        have b0 : w5.cell? ⟨X, 0, none⟩ = some (.int .i64 2) := cell_at HX5.out rfl
        have b1 : w5.cell? ⟨X, 1, none⟩ = some (.int .i64 on) := cell_at HX5.out rfl
        have b2 : w5.cell? ⟨X, 2, none⟩ = some (.string os') := cell_at HX5.out rfl
        have b3 : w5.cell? ⟨X, 3, none⟩ = some (.slice oko okp.length okc) := cell_at HX5.out rfl
        have b4 : w5.cell? ⟨X, 4, none⟩ = some (.int .i64 oc) := cell_at HX5.out rfl
        clear hS
        have hS : (fun w' => w'.cell? ⟨X, 1, none⟩ = some (.int .i64 on) : World → Prop) w5 := b1
        obtain ⟨FR, hR, hRX, hRB, hturn⟩ := HB5.out.ref hz5
        have hk := refTrunc_any gr j (rOf s) FR w5 on hR (rOf_ok HP0.out.1)
        rw [hro] at hk
        have HKR := Lib.hid hk
        have HT2 : Hid (∀ w6, RefAt w6 (fun k => (FR k ∧ k < w5.heap.size) ∨ w5.heap.size ≤ k) gr (rOf (s.trunc on).2) → Chg w5 w6 FR → Both w6 w.heap.size (fun q => q = X) g gr (s.trunc on).2 (rOf (s.trunc on).2) ∧ Below w.heap.size w w6 ∧ w6.heap[X]? = some (.cells #[.int .i64 2, .int .i64 on, .string os', .slice oko okp.length okc, .int .i64 oc] 50)) := fun w6 h6 c6 => ⟨hturn w6 _ h6 c6, HW5.out.trans (c6.below hz5 (fun q hq a => by have := hRB q a; omega)), c6.heap HX5.out (hRX X rfl)⟩
        clear hk hR hRX hRB hturn
        go_wp2_with fail
        refine hK.out _ _ (fun _ => hS) ?_
        clear hK K
        try simp only [Act.put, List.getElem_toArray, List.getElem_cons_zero, List.getElem_cons_succ, List.setIfInBounds_toArray, List.set_cons_zero, List.set_cons_succ]
        refine AnyTo.step (i := 7) (by kernel_rfl) rfl (fun K hK => ?_)
        go_simp
        go_at_call 39
        refine HKR.out.mono ?_
        rintro e w6 ⟨rfl, h6, c6⟩
        obtain ⟨hb6, hw6, hx6⟩ := HT2.out w6 h6 c6
        have HB2 := Lib.hid hb6
        have HW := Lib.hid hw6
        clear hS
        have hS : (fun w' => w'.cell? ⟨X, 1, none⟩ = some (.int .i64 on) : World → Prop) w6 := cell_at hx6 rfl
        clear hb6 hw6 h6 c6
        go_wp2_with fail
        refine hK.out _ _ (fun _ => hS) ?_
        clear hK K
        try simp only [Act.put, List.getElem_toArray, List.getElem_cons_zero, List.getElem_cons_succ, List.setIfInBounds_toArray, List.set_cons_zero, List.set_cons_succ]
        refine AnyTo.takeA (i := 8) (v := ?vp28) rfl (by kernel_rfl) (of_decide_eq_true (by kernel_rfl)) (by kernel_rfl) (by kernel_rfl) (fun _ _ _ h => h) (Or.inl ⟨by kernel_rfl, ?hyp28⟩) hS ?restp28
        case hyp28 => (intro w' hw'; (try dsimp only at hw'); go_simp; try (with_reducible rfl))
        refine AnyTo.takeA (i := 9) (v := ?vp29) rfl (by kernel_rfl) (of_decide_eq_true (by kernel_rfl)) (by kernel_rfl) (by kernel_rfl) (fun _ _ _ h => h) (Or.inl ⟨by kernel_rfl, ?hyp29⟩) hS ?restp29
        case hyp29 => (intro w' hw'; (try dsimp only at hw'); go_simp; try (with_reducible rfl))
        try simp only [Act.put, List.getElem_toArray, List.getElem_cons_zero, List.getElem_cons_succ, List.setIfInBounds_toArray, List.set_cons_zero, List.set_cons_succ]
        refine AnyTo.done (by kernel_rfl) ?_
        clear hS hx6
        obtain ⟨s2, hs2⟩ : ∃ s2, (s.trunc on).2 = s2 := ⟨_, rfl⟩
        rw [hs2] at HP HB2
        have HP0c := HP0
        clear HP0 hs2 HB5 HW5 HX5 HT2 HKR hro
        clear hwb hX b0 b1 b2 b3 b4 q0 q1 q2 q3 q4 k0 k1 k2 k3 k4
        go_wp2_with fail
        obtain ⟨hpk, hpc⟩ := id HP.out
        have pal := hpk.all
        have ppc := hpk.pieces
        have hc16 := hpk.c1
        have HN := Lib.hid (fun (v : World) (hv : Both v w.heap.size (fun q => q = X) g gr s2 (rOf s2) ∧ Below w.heap.size w v) => tail_facts hv.1 hv.2.size hpk (by omega))
        clear hpk hpc
        obtain ⟨BY, hBY⟩ : ∃ b, s2.bytes = b := ⟨_, rfl⟩
        obtain ⟨AL, hAL⟩ : ∃ b, s2.all.length = b := ⟨_, rfl⟩
        obtain ⟨LL, hLL⟩ : ∃ b, s2.lasts.size = b := ⟨_, rfl⟩
        obtain ⟨CP, hCP⟩ : ∃ b, s2.cap = b := ⟨_, rfl⟩
        rw [hBY, hAL, hLL, hCP] at HN
        rw [hAL, hCP] at pal
        rw [hCP] at hc16
        clear hBY hAL hLL hCP
        have e9 : IntKind.i64.wrap (CP - (AL : Int)) = CP - (AL : Int) := IntWalk.i64_in _ (by omega)
        obtain ⟨RM, hRM⟩ : ∃ x : Int, CP - (AL : Int) = x := ⟨_, rfl⟩
        rw [hRM] at HN
        have HE9 := Lib.hid (e9.trans hRM)
        clear e9
        have HPV : Hid (∀ (v v' : World), Both v w.heap.size (fun q => q = X) g gr s2 (rOf s2) ∧ Below w.heap.size w v → Below v.heap.size v v' → Both v' w.heap.size (fun q => q = X) g gr s2 (rOf s2) ∧ Below w.heap.size w v') := fun v v' hv hb => ⟨hv.1.below hb, hv.2.trans (hb.mono hv.2.size)⟩
        have HV0 : Hid (Both w6 w.heap.size (fun q => q = X) g gr s2 (rOf s2) ∧ Below w.heap.size w w6) := ⟨HB2.out, HW.out⟩
        have HREL : Hid (∀ v, Both v w.heap.size (fun q => q = X) g gr s2 (rOf s2) ∧ Below w.heap.size w v → Both v w.heap.size (fun _ => False) g gr s2 (rOf s2) ∧ Below w.heap.size w v) := fun v hv => ⟨hv.1.extend (Below.refl _ _) (fun q _ a => a.elim) (fun q a => a.elim), hv.2⟩
        clear HB2 HW hRM
        cases hdc : s2.down with
        | true =>
          rw [hdc] at HN
          clear hdc
          have hrd : Calls Try.prog 27 #[.pointer (some ⟨g, 0, none⟩)] w6 fun e w' => e = .returned (.tuple #[.string ByteArray.empty, .int .i64 8]) ∧ Below w6.heap.size w6 w' := (HN.out w6 HV0.out).1
          go_wp2_with fail
          refine hrd.mono ?_
          rintro e v1 ⟨rfl, hb⟩
          have HV1 := Lib.hid (HPV.out _ _ HV0.out hb)
          clear hb hrd
          obtain ⟨-, -, -, -, -, -, ab, cb, t7, -, -, -, tb⟩ := HN.out v1 HV1.out
          have HG : Hid ((fun v => (Both v w.heap.size (fun q => q = X) g gr s2 (rOf s2) ∧ Below w.heap.size w v) ∧ v.cell? ⟨gr, 0, none⟩ = some (.slice ab AL cb) ∧ gr < v.heap.size : World → Prop) v1) := ⟨HV1.out, t7, tb⟩
          clear t7 tb HV1 HV0
          go_wp2_with fail
          refine dpDown (ab := ab) (cb := cb) (BY := BY) (LL := LL) (AL := AL) (G := fun v => (Both v w.heap.size (fun q => q = X) g gr s2 (rOf s2) ∧ Below w.heap.size w v) ∧ v.cell? ⟨gr, 0, none⟩ = some (.slice ab AL cb) ∧ gr < v.heap.size) HG.out (fun v v' hv hb => ⟨HPV.out v v' hv.1 hb, (hb.cell (p := ⟨gr, 0, none⟩) hv.2.2).trans hv.2.1, Nat.lt_of_lt_of_le hv.2.2 hb.size⟩) (fun v hv => ?_) HE9.out (fun _ _ _ _ _ h => h) ?_
          · obtain ⟨-, t2, t3, t4, t5, t6, ab', cb', t7, t8, t9, ta, -⟩ := HN.out v hv.1
            have e := t7.symm.trans hv.2.1
            simp only [Option.some.injEq, Value.slice.injEq] at e
            obtain ⟨rfl, -, rfl⟩ := e
            exact ⟨⟨hv.2.1, t9, ta, t8⟩, t2, t3, t4, t5, t6⟩
          · intro w9 x86 x87 x88 x89 x90 x91 x92 x93 x94 x95 x96 x97 x98 x99 x100 x101 x102 x103 x104 x105 x106 x107 x108 x109 x110 x111 x112 x113 x114 x115 x116 x117 x118 x119 x120 x121 x122 x123 x124 x125 x126 x127 x128 x129 x130 x131 x132 x133 x134 x135 x136 x137 x138 x139 x140 x141 x142 x143 x144 x145 x146 x147 x148 x149 x150 x151 x152 x153 h9
            have HE := Lib.hid (HREL.out w9 h9.1)
            clear h9 HG
            go_wp2_with fail
            go_roundw
            case rel => exact ⟨j + 1, s2, by omega, by go_num, HP.out, HE.out.1, HE.out.2⟩
            case measure => simp [intOf]; omega
        | false =>
          rw [hdc] at HN
          clear hdc
          have hrd : Calls Try.prog 27 #[.pointer (some ⟨g, 0, none⟩)] w6 fun e w' => e = .returned (.tuple #[.string BY, .int .i64 0]) ∧ Below w6.heap.size w6 w' := (HN.out w6 HV0.out).1
          go_wp2_with fail
          refine hrd.mono ?_
          rintro e v1 ⟨rfl, hb⟩
          have HV1 := Lib.hid (HPV.out _ _ HV0.out hb)
          clear hb hrd
          obtain ⟨-, -, -, -, -, -, ab, cb, t7, -, -, -, tb⟩ := HN.out v1 HV1.out
          have HG : Hid ((fun v => (Both v w.heap.size (fun q => q = X) g gr s2 (rOf s2) ∧ Below w.heap.size w v) ∧ v.cell? ⟨gr, 0, none⟩ = some (.slice ab AL cb) ∧ gr < v.heap.size : World → Prop) v1) := ⟨HV1.out, t7, tb⟩
          clear t7 tb HV1 HV0
          go_wp2_with fail
          refine dpUp (ab := ab) (cb := cb) (BY := BY) (LL := LL) (AL := AL) (G := fun v => (Both v w.heap.size (fun q => q = X) g gr s2 (rOf s2) ∧ Below w.heap.size w v) ∧ v.cell? ⟨gr, 0, none⟩ = some (.slice ab AL cb) ∧ gr < v.heap.size) HG.out (fun v v' hv hb => ⟨HPV.out v v' hv.1 hb, (hb.cell (p := ⟨gr, 0, none⟩) hv.2.2).trans hv.2.1, Nat.lt_of_lt_of_le hv.2.2 hb.size⟩) (fun v hv => ?_) HE9.out (fun _ _ _ _ _ h => h) ?_
          · obtain ⟨-, t2, t3, t4, t5, t6, ab', cb', t7, t8, t9, ta, -⟩ := HN.out v hv.1
            have e := t7.symm.trans hv.2.1
            simp only [Option.some.injEq, Value.slice.injEq] at e
            obtain ⟨rfl, -, rfl⟩ := e
            exact ⟨⟨hv.2.1, t9, ta, t8⟩, t2, t3, t4, t5, t6⟩
          · intro w9 x86 x87 x88 x89 x90 x91 x92 x93 x94 x95 x96 x97 x98 x99 x100 x101 x102 x103 x104 x105 x106 x107 x108 x109 x110 x111 x112 x113 x114 x115 x116 x117 x118 x119 x120 x121 x122 x123 x124 x125 x126 x127 x128 x129 x130 x131 x132 x133 x134 x135 x136 x137 x138 x139 x140 x141 x142 x143 x144 x145 x146 x147 x148 x149 x150 x151 x152 x153 h9
            have HE := Lib.hid (HREL.out w9 h9.1)
            clear h9 HG
            go_wp2_with fail
            go_roundw
            case rel => exact ⟨j + 1, s2, by omega, by go_num, HP.out, HE.out.1, HE.out.2⟩
            case measure => simp [intOf]; omega
      by_cases e3 : ok = 3
      · subst e3
        have HP : Hid (DOk (j + 1) (s.fuse on) ∧ ((s.fuse on)).cap = capOf c) := ⟨(fuse_ok HP0.out.1 on hs5.2).mono (by omega), HP0.out.2⟩
        have hro := rOf_fuse s on
        obtain ⟨FD, hD, hDX, hDB, hturn⟩ := (HBB.out).disk (by exact hzb)
        have HKD := Lib.hid (fuse_any g s FD wb on hD)
        have HT1 : Hid (∀ w5, DiskAt w5 (fun k => (FD k ∧ k < (wb).heap.size) ∨ (wb).heap.size ≤ k) g (s.fuse on) → Chg (wb) w5 FD → Both w5 w.heap.size (fun q => q = X) g gr (s.fuse on) (rOf s) ∧ Below w.heap.size w w5 ∧ w5.heap[X]? = some (.cells #[.int .i64 3, .int .i64 on, .string os', .slice oko okp.length okc, .int .i64 oc] 50)) := fun w5 h5 c5 => ⟨hturn w5 _ h5 c5, HBW.out.trans (c5.below (by exact hzb) (fun q hq a => by have := hDB q a; omega)), c5.heap (w := wb) HBX.out (hDX X rfl)⟩
        clear hD hDX hDB hturn
        go_wp2_with fail
        try rw [hX]
        try rw [hwb]
        refine HKD.out.mono ?_
        rintro e w5 ⟨rfl, h5, c5⟩
        obtain ⟨hb5, hw5, hx5⟩ := HT1.out w5 (h5.mono fun k _ a => by
          by_cases hk : k < wb.heap.size
          · exact .inl ⟨a, hk⟩
          · exact .inr (by omega)) c5
        have HB5 := Lib.hid hb5
        have HW5 := Lib.hid hw5
        have HX5 := Lib.hid hx5
        have hz5 := hw5.size
        clear hb5 hw5 hx5 h5 c5 HT1 HKD
        have b0 : w5.cell? ⟨X, 0, none⟩ = some (.int .i64 3) := cell_at HX5.out rfl
        have b1 : w5.cell? ⟨X, 1, none⟩ = some (.int .i64 on) := cell_at HX5.out rfl
        have b2 : w5.cell? ⟨X, 2, none⟩ = some (.string os') := cell_at HX5.out rfl
        have b3 : w5.cell? ⟨X, 3, none⟩ = some (.slice oko okp.length okc) := cell_at HX5.out rfl
        have b4 : w5.cell? ⟨X, 4, none⟩ = some (.int .i64 oc) := cell_at HX5.out rfl
        obtain ⟨FR, hR, hRX, hRB, hturn⟩ := HB5.out.ref hz5
        obtain ⟨q, hq⟩ : ∃ q : Int, max on (-1) = q := ⟨_, rfl⟩
        obtain ⟨_, _, _, _, _, _, _, _, hgr, _, _⟩ := hR.cells
        have r4 : w5.cell? ⟨gr, 4, none⟩ = some (.int .i64 s.left) := cell_at hgr rfl
        have rf4 := free_at hgr 4
        have hgrz := heap_lt hgr
        have hfd := hR.field (r' := rOf (s.fuse on)) 4 (.int .i64 q) rfl rfl (fun _ _ => by rw [← hq]; rfl)
        obtain ⟨w6, hw6⟩ : ∃ w6, w5.setCell ⟨gr, 4, none⟩ (.int .i64 q) = w6 := ⟨_, rfl⟩
        rw [hw6] at hfd
        have HB2 : Hid (Both w6 w.heap.size (fun q => q = X) g gr (s.fuse on) (rOf (s.fuse on))) := hturn w6 _ (hfd.1.mono fun k _ a => by
          by_cases hk : k < w5.heap.size
          · exact .inl ⟨a, hk⟩
          · exact .inr (by omega)) hfd.2
        have HW : Hid (Below w.heap.size w w6) := HW5.out.trans (hfd.2.below hz5 (fun q hq a => by have := hRB q a; omega))
        clear hR hRX hRB hturn hgr hfd HB5 HW5 hro
        go_wp2_with fail
        try rw [hw6]
        clear hw6 r4 rf4 hgrz
        obtain ⟨s2, hs2⟩ : ∃ s2, s.fuse on = s2 := ⟨_, rfl⟩
        rw [hs2] at HP HB2
        clear HP0 hs2 HX5
        clear hwb hX b0 b1 b2 b3 b4 q0 q1 q2 q3 q4 k0 k1 k2 k3 k4
        obtain ⟨hpk, hpc⟩ := id HP.out
        have pal := hpk.all
        have ppc := hpk.pieces
        have hc16 := hpk.c1
        have HN := Lib.hid (fun (v : World) (hv : Both v w.heap.size (fun q => q = X) g gr s2 (rOf s2) ∧ Below w.heap.size w v) => tail_facts hv.1 hv.2.size hpk (by omega))
        clear hpk hpc
        obtain ⟨BY, hBY⟩ : ∃ b, s2.bytes = b := ⟨_, rfl⟩
        obtain ⟨AL, hAL⟩ : ∃ b, s2.all.length = b := ⟨_, rfl⟩
        obtain ⟨LL, hLL⟩ : ∃ b, s2.lasts.size = b := ⟨_, rfl⟩
        obtain ⟨CP, hCP⟩ : ∃ b, s2.cap = b := ⟨_, rfl⟩
        rw [hBY, hAL, hLL, hCP] at HN
        rw [hAL, hCP] at pal
        rw [hCP] at hc16
        clear hBY hAL hLL hCP
        have e9 : IntKind.i64.wrap (CP - (AL : Int)) = CP - (AL : Int) := IntWalk.i64_in _ (by omega)
        obtain ⟨RM, hRM⟩ : ∃ x : Int, CP - (AL : Int) = x := ⟨_, rfl⟩
        rw [hRM] at HN
        have HE9 := Lib.hid (e9.trans hRM)
        clear e9
        have HPV : Hid (∀ (v v' : World), Both v w.heap.size (fun q => q = X) g gr s2 (rOf s2) ∧ Below w.heap.size w v → Below v.heap.size v v' → Both v' w.heap.size (fun q => q = X) g gr s2 (rOf s2) ∧ Below w.heap.size w v') := fun v v' hv hb => ⟨hv.1.below hb, hv.2.trans (hb.mono hv.2.size)⟩
        have HV0 : Hid (Both w6 w.heap.size (fun q => q = X) g gr s2 (rOf s2) ∧ Below w.heap.size w w6) := ⟨HB2.out, HW.out⟩
        have HREL : Hid (∀ v, Both v w.heap.size (fun q => q = X) g gr s2 (rOf s2) ∧ Below w.heap.size w v → Both v w.heap.size (fun _ => False) g gr s2 (rOf s2) ∧ Below w.heap.size w v) := fun v hv => ⟨hv.1.extend (Below.refl _ _) (fun q _ a => a.elim) (fun q a => a.elim), hv.2⟩
        clear HB2 HW hRM
        cases hdc : s2.down with
        | true =>
          rw [hdc] at HN
          clear hdc
          have hrd : Calls Try.prog 27 #[.pointer (some ⟨g, 0, none⟩)] w6 fun e w' => e = .returned (.tuple #[.string ByteArray.empty, .int .i64 8]) ∧ Below w6.heap.size w6 w' := (HN.out w6 HV0.out).1
          go_wp2_with fail
          refine hrd.mono ?_
          rintro e v1 ⟨rfl, hb⟩
          have HV1 := Lib.hid (HPV.out _ _ HV0.out hb)
          clear hb hrd
          obtain ⟨-, -, -, -, -, -, ab, cb, t7, -, -, -, tb⟩ := HN.out v1 HV1.out
          have HG : Hid ((fun v => (Both v w.heap.size (fun q => q = X) g gr s2 (rOf s2) ∧ Below w.heap.size w v) ∧ v.cell? ⟨gr, 0, none⟩ = some (.slice ab AL cb) ∧ gr < v.heap.size : World → Prop) v1) := ⟨HV1.out, t7, tb⟩
          clear t7 tb HV1 HV0
          go_wp2_with fail
          refine dpDown (ab := ab) (cb := cb) (BY := BY) (LL := LL) (AL := AL) (G := fun v => (Both v w.heap.size (fun q => q = X) g gr s2 (rOf s2) ∧ Below w.heap.size w v) ∧ v.cell? ⟨gr, 0, none⟩ = some (.slice ab AL cb) ∧ gr < v.heap.size) HG.out (fun v v' hv hb => ⟨HPV.out v v' hv.1 hb, (hb.cell (p := ⟨gr, 0, none⟩) hv.2.2).trans hv.2.1, Nat.lt_of_lt_of_le hv.2.2 hb.size⟩) (fun v hv => ?_) HE9.out (fun _ _ _ _ _ h => h) ?_
          · obtain ⟨-, t2, t3, t4, t5, t6, ab', cb', t7, t8, t9, ta, -⟩ := HN.out v hv.1
            have e := t7.symm.trans hv.2.1
            simp only [Option.some.injEq, Value.slice.injEq] at e
            obtain ⟨rfl, -, rfl⟩ := e
            exact ⟨⟨hv.2.1, t9, ta, t8⟩, t2, t3, t4, t5, t6⟩
          · intro w9 x86 x87 x88 x89 x90 x91 x92 x93 x94 x95 x96 x97 x98 x99 x100 x101 x102 x103 x104 x105 x106 x107 x108 x109 x110 x111 x112 x113 x114 x115 x116 x117 x118 x119 x120 x121 x122 x123 x124 x125 x126 x127 x128 x129 x130 x131 x132 x133 x134 x135 x136 x137 x138 x139 x140 x141 x142 x143 x144 x145 x146 x147 x148 x149 x150 x151 x152 x153 h9
            have HE := Lib.hid (HREL.out w9 h9.1)
            clear h9 HG
            go_wp2_with fail
            go_roundw
            case rel => exact ⟨j + 1, s2, by omega, by go_num, HP.out, HE.out.1, HE.out.2⟩
            case measure => simp [intOf]; omega
        | false =>
          rw [hdc] at HN
          clear hdc
          have hrd : Calls Try.prog 27 #[.pointer (some ⟨g, 0, none⟩)] w6 fun e w' => e = .returned (.tuple #[.string BY, .int .i64 0]) ∧ Below w6.heap.size w6 w' := (HN.out w6 HV0.out).1
          go_wp2_with fail
          refine hrd.mono ?_
          rintro e v1 ⟨rfl, hb⟩
          have HV1 := Lib.hid (HPV.out _ _ HV0.out hb)
          clear hb hrd
          obtain ⟨-, -, -, -, -, -, ab, cb, t7, -, -, -, tb⟩ := HN.out v1 HV1.out
          have HG : Hid ((fun v => (Both v w.heap.size (fun q => q = X) g gr s2 (rOf s2) ∧ Below w.heap.size w v) ∧ v.cell? ⟨gr, 0, none⟩ = some (.slice ab AL cb) ∧ gr < v.heap.size : World → Prop) v1) := ⟨HV1.out, t7, tb⟩
          clear t7 tb HV1 HV0
          go_wp2_with fail
          refine dpUp (ab := ab) (cb := cb) (BY := BY) (LL := LL) (AL := AL) (G := fun v => (Both v w.heap.size (fun q => q = X) g gr s2 (rOf s2) ∧ Below w.heap.size w v) ∧ v.cell? ⟨gr, 0, none⟩ = some (.slice ab AL cb) ∧ gr < v.heap.size) HG.out (fun v v' hv hb => ⟨HPV.out v v' hv.1 hb, (hb.cell (p := ⟨gr, 0, none⟩) hv.2.2).trans hv.2.1, Nat.lt_of_lt_of_le hv.2.2 hb.size⟩) (fun v hv => ?_) HE9.out (fun _ _ _ _ _ h => h) ?_
          · obtain ⟨-, t2, t3, t4, t5, t6, ab', cb', t7, t8, t9, ta, -⟩ := HN.out v hv.1
            have e := t7.symm.trans hv.2.1
            simp only [Option.some.injEq, Value.slice.injEq] at e
            obtain ⟨rfl, -, rfl⟩ := e
            exact ⟨⟨hv.2.1, t9, ta, t8⟩, t2, t3, t4, t5, t6⟩
          · intro w9 x86 x87 x88 x89 x90 x91 x92 x93 x94 x95 x96 x97 x98 x99 x100 x101 x102 x103 x104 x105 x106 x107 x108 x109 x110 x111 x112 x113 x114 x115 x116 x117 x118 x119 x120 x121 x122 x123 x124 x125 x126 x127 x128 x129 x130 x131 x132 x133 x134 x135 x136 x137 x138 x139 x140 x141 x142 x143 x144 x145 x146 x147 x148 x149 x150 x151 x152 x153 h9
            have HE := Lib.hid (HREL.out w9 h9.1)
            clear h9 HG
            go_wp2_with fail
            go_roundw
            case rel => exact ⟨j + 1, s2, by omega, by go_num, HP.out, HE.out.1, HE.out.2⟩
            case measure => simp [intOf]; omega
      by_cases e4 : ok = 4
      · subst e4
        have HP : Hid (DOk (j + 1) (s.crash okp oc) ∧ ((s.crash okp oc)).cap = capOf c) := ⟨(crash_ok HP0.out.1 okp oc).mono (by omega), HP0.out.2⟩
        have hro := rOf_crash s okp oc
        obtain ⟨FD, hD, hDX, hDB, hturn⟩ := (HBB.out).disk (by exact hzb)
        have HKD := Lib.hid (crash_any g j s FD wb okp oko okc oc hD HP0.out.1 (by omega) (hs3.below HBW.out) (by omega))
        have HT1 : Hid (∀ w5, DiskAt w5 (fun k => (FD k ∧ k < (wb).heap.size) ∨ (wb).heap.size ≤ k) g (s.crash okp oc) → Chg (wb) w5 FD → Both w5 w.heap.size (fun q => q = X) g gr (s.crash okp oc) (rOf s) ∧ Below w.heap.size w w5 ∧ w5.heap[X]? = some (.cells #[.int .i64 4, .int .i64 on, .string os', .slice oko okp.length okc, .int .i64 oc] 50)) := fun w5 h5 c5 => ⟨hturn w5 _ h5 c5, HBW.out.trans (c5.below (by exact hzb) (fun q hq a => by have := hDB q a; omega)), c5.heap (w := wb) HBX.out (hDX X rfl)⟩
        clear hD hDX hDB hturn
        go_wp2_with fail
        try rw [hX]
        try rw [hwb]
        refine HKD.out.mono ?_
        rintro e w5 ⟨rfl, h5, c5⟩
        obtain ⟨hb5, hw5, hx5⟩ := HT1.out w5 h5 c5
        have HB5 := Lib.hid hb5
        have HW5 := Lib.hid hw5
        have HX5 := Lib.hid hx5
        have hz5 := hw5.size
        clear hb5 hw5 hx5 h5 c5 HT1 HKD
        have b0 : w5.cell? ⟨X, 0, none⟩ = some (.int .i64 4) := cell_at HX5.out rfl
        have b1 : w5.cell? ⟨X, 1, none⟩ = some (.int .i64 on) := cell_at HX5.out rfl
        have b2 : w5.cell? ⟨X, 2, none⟩ = some (.string os') := cell_at HX5.out rfl
        have b3 : w5.cell? ⟨X, 3, none⟩ = some (.slice oko okp.length okc) := cell_at HX5.out rfl
        have b4 : w5.cell? ⟨X, 4, none⟩ = some (.int .i64 oc) := cell_at HX5.out rfl
        obtain ⟨FR, hR, hRX, hRB, hturn⟩ := HB5.out.ref hz5
        have hk := refCrash_any gr j (rOf s) FR w5 okp oko okc oc hR (rOf_ok HP0.out.1) (by omega) (pieceOf_pos HP0.out.1) (hs3.below HW5.out) (by omega) (fun i b blk off hi he q => by
          obtain ⟨blk', off', e, hc⟩ := hs3 i b hi
          rw [he] at e
          simp only [Option.some.injEq, Addr.mk.injEq] at e
          have h1 := block_lt_of_cell hc
          have h2 := hRB _ q
          have h3 : blk' < w.heap.size := h1
          omega) hs6
        rw [hro] at hk
        have HKR := Lib.hid hk
        have HT2 : Hid (∀ w6, RefAt w6 (fun k => (FR k ∧ k < w5.heap.size) ∨ w5.heap.size ≤ k) gr (rOf (s.crash okp oc)) → Chg w5 w6 FR → Both w6 w.heap.size (fun q => q = X) g gr (s.crash okp oc) (rOf (s.crash okp oc)) ∧ Below w.heap.size w w6 ∧ w6.heap[X]? = some (.cells #[.int .i64 4, .int .i64 on, .string os', .slice oko okp.length okc, .int .i64 oc] 50)) := fun w6 h6 c6 => ⟨hturn w6 _ h6 c6, HW5.out.trans (c6.below hz5 (fun q hq a => by have := hRB q a; omega)), c6.heap HX5.out (hRX X rfl)⟩
        clear hk hR hRX hRB hturn
        go_wp2_with fail
        refine HKR.out.mono ?_
        rintro e w6 ⟨rfl, h6, c6⟩
        obtain ⟨hb6, hw6, hx6⟩ := HT2.out w6 h6 c6
        have HB2 := Lib.hid hb6
        have HW := Lib.hid hw6
        clear hb6 hw6 h6 c6 hx6
        obtain ⟨s2, hs2⟩ : ∃ s2, (s.crash okp oc) = s2 := ⟨_, rfl⟩
        rw [hs2] at HP HB2
        have HP0c := HP0
        clear HP0 hs2 HB5 HW5 HX5 HT2 HKR hro
        clear hwb hX b0 b1 b2 b3 b4 q0 q1 q2 q3 q4 k0 k1 k2 k3 k4
        go_wp2_with fail
        obtain ⟨hpk, hpc⟩ := id HP.out
        have pal := hpk.all
        have ppc := hpk.pieces
        have hc16 := hpk.c1
        have HN := Lib.hid (fun (v : World) (hv : Both v w.heap.size (fun q => q = X) g gr s2 (rOf s2) ∧ Below w.heap.size w v) => tail_facts hv.1 hv.2.size hpk (by omega))
        clear hpk hpc
        obtain ⟨BY, hBY⟩ : ∃ b, s2.bytes = b := ⟨_, rfl⟩
        obtain ⟨AL, hAL⟩ : ∃ b, s2.all.length = b := ⟨_, rfl⟩
        obtain ⟨LL, hLL⟩ : ∃ b, s2.lasts.size = b := ⟨_, rfl⟩
        obtain ⟨CP, hCP⟩ : ∃ b, s2.cap = b := ⟨_, rfl⟩
        rw [hBY, hAL, hLL, hCP] at HN
        rw [hAL, hCP] at pal
        rw [hCP] at hc16
        clear hBY hAL hLL hCP
        have e9 : IntKind.i64.wrap (CP - (AL : Int)) = CP - (AL : Int) := IntWalk.i64_in _ (by omega)
        obtain ⟨RM, hRM⟩ : ∃ x : Int, CP - (AL : Int) = x := ⟨_, rfl⟩
        rw [hRM] at HN
        have HE9 := Lib.hid (e9.trans hRM)
        clear e9
        have HPV : Hid (∀ (v v' : World), Both v w.heap.size (fun q => q = X) g gr s2 (rOf s2) ∧ Below w.heap.size w v → Below v.heap.size v v' → Both v' w.heap.size (fun q => q = X) g gr s2 (rOf s2) ∧ Below w.heap.size w v') := fun v v' hv hb => ⟨hv.1.below hb, hv.2.trans (hb.mono hv.2.size)⟩
        have HV0 : Hid (Both w6 w.heap.size (fun q => q = X) g gr s2 (rOf s2) ∧ Below w.heap.size w w6) := ⟨HB2.out, HW.out⟩
        have HREL : Hid (∀ v, Both v w.heap.size (fun q => q = X) g gr s2 (rOf s2) ∧ Below w.heap.size w v → Both v w.heap.size (fun _ => False) g gr s2 (rOf s2) ∧ Below w.heap.size w v) := fun v hv => ⟨hv.1.extend (Below.refl _ _) (fun q _ a => a.elim) (fun q a => a.elim), hv.2⟩
        clear HB2 HW hRM
        cases hdc : s2.down with
        | true =>
          rw [hdc] at HN
          clear hdc
          have hrd : Calls Try.prog 27 #[.pointer (some ⟨g, 0, none⟩)] w6 fun e w' => e = .returned (.tuple #[.string ByteArray.empty, .int .i64 8]) ∧ Below w6.heap.size w6 w' := (HN.out w6 HV0.out).1
          go_wp2_with fail
          refine hrd.mono ?_
          rintro e v1 ⟨rfl, hb⟩
          have HV1 := Lib.hid (HPV.out _ _ HV0.out hb)
          clear hb hrd
          obtain ⟨-, -, -, -, -, -, ab, cb, t7, -, -, -, tb⟩ := HN.out v1 HV1.out
          have HG : Hid ((fun v => (Both v w.heap.size (fun q => q = X) g gr s2 (rOf s2) ∧ Below w.heap.size w v) ∧ v.cell? ⟨gr, 0, none⟩ = some (.slice ab AL cb) ∧ gr < v.heap.size : World → Prop) v1) := ⟨HV1.out, t7, tb⟩
          clear t7 tb HV1 HV0
          go_wp2_with fail
          refine dpDown (ab := ab) (cb := cb) (BY := BY) (LL := LL) (AL := AL) (G := fun v => (Both v w.heap.size (fun q => q = X) g gr s2 (rOf s2) ∧ Below w.heap.size w v) ∧ v.cell? ⟨gr, 0, none⟩ = some (.slice ab AL cb) ∧ gr < v.heap.size) HG.out (fun v v' hv hb => ⟨HPV.out v v' hv.1 hb, (hb.cell (p := ⟨gr, 0, none⟩) hv.2.2).trans hv.2.1, Nat.lt_of_lt_of_le hv.2.2 hb.size⟩) (fun v hv => ?_) HE9.out (fun _ _ _ _ _ h => h) ?_
          · obtain ⟨-, t2, t3, t4, t5, t6, ab', cb', t7, t8, t9, ta, -⟩ := HN.out v hv.1
            have e := t7.symm.trans hv.2.1
            simp only [Option.some.injEq, Value.slice.injEq] at e
            obtain ⟨rfl, -, rfl⟩ := e
            exact ⟨⟨hv.2.1, t9, ta, t8⟩, t2, t3, t4, t5, t6⟩
          · intro w9 x86 x87 x88 x89 x90 x91 x92 x93 x94 x95 x96 x97 x98 x99 x100 x101 x102 x103 x104 x105 x106 x107 x108 x109 x110 x111 x112 x113 x114 x115 x116 x117 x118 x119 x120 x121 x122 x123 x124 x125 x126 x127 x128 x129 x130 x131 x132 x133 x134 x135 x136 x137 x138 x139 x140 x141 x142 x143 x144 x145 x146 x147 x148 x149 x150 x151 x152 x153 h9
            have HE := Lib.hid (HREL.out w9 h9.1)
            clear h9 HG
            go_wp2_with fail
            go_roundw
            case rel => exact ⟨j + 1, s2, by omega, by go_num, HP.out, HE.out.1, HE.out.2⟩
            case measure => simp [intOf]; omega
        | false =>
          rw [hdc] at HN
          clear hdc
          have hrd : Calls Try.prog 27 #[.pointer (some ⟨g, 0, none⟩)] w6 fun e w' => e = .returned (.tuple #[.string BY, .int .i64 0]) ∧ Below w6.heap.size w6 w' := (HN.out w6 HV0.out).1
          go_wp2_with fail
          refine hrd.mono ?_
          rintro e v1 ⟨rfl, hb⟩
          have HV1 := Lib.hid (HPV.out _ _ HV0.out hb)
          clear hb hrd
          obtain ⟨-, -, -, -, -, -, ab, cb, t7, -, -, -, tb⟩ := HN.out v1 HV1.out
          have HG : Hid ((fun v => (Both v w.heap.size (fun q => q = X) g gr s2 (rOf s2) ∧ Below w.heap.size w v) ∧ v.cell? ⟨gr, 0, none⟩ = some (.slice ab AL cb) ∧ gr < v.heap.size : World → Prop) v1) := ⟨HV1.out, t7, tb⟩
          clear t7 tb HV1 HV0
          go_wp2_with fail
          refine dpUp (ab := ab) (cb := cb) (BY := BY) (LL := LL) (AL := AL) (G := fun v => (Both v w.heap.size (fun q => q = X) g gr s2 (rOf s2) ∧ Below w.heap.size w v) ∧ v.cell? ⟨gr, 0, none⟩ = some (.slice ab AL cb) ∧ gr < v.heap.size) HG.out (fun v v' hv hb => ⟨HPV.out v v' hv.1 hb, (hb.cell (p := ⟨gr, 0, none⟩) hv.2.2).trans hv.2.1, Nat.lt_of_lt_of_le hv.2.2 hb.size⟩) (fun v hv => ?_) HE9.out (fun _ _ _ _ _ h => h) ?_
          · obtain ⟨-, t2, t3, t4, t5, t6, ab', cb', t7, t8, t9, ta, -⟩ := HN.out v hv.1
            have e := t7.symm.trans hv.2.1
            simp only [Option.some.injEq, Value.slice.injEq] at e
            obtain ⟨rfl, -, rfl⟩ := e
            exact ⟨⟨hv.2.1, t9, ta, t8⟩, t2, t3, t4, t5, t6⟩
          · intro w9 x86 x87 x88 x89 x90 x91 x92 x93 x94 x95 x96 x97 x98 x99 x100 x101 x102 x103 x104 x105 x106 x107 x108 x109 x110 x111 x112 x113 x114 x115 x116 x117 x118 x119 x120 x121 x122 x123 x124 x125 x126 x127 x128 x129 x130 x131 x132 x133 x134 x135 x136 x137 x138 x139 x140 x141 x142 x143 x144 x145 x146 x147 x148 x149 x150 x151 x152 x153 h9
            have HE := Lib.hid (HREL.out w9 h9.1)
            clear h9 HG
            go_wp2_with fail
            go_roundw
            case rel => exact ⟨j + 1, s2, by omega, by go_num, HP.out, HE.out.1, HE.out.2⟩
            case measure => simp [intOf]; omega
      have HP : Hid (DOk (j + 1) s ∧ s.cap = capOf c) := ⟨HP0.out.1.mono (by omega), HP0.out.2⟩
      have f0 : (ok == 0) = false := by rw [beq_eq_false_iff_ne]; exact e0
      have f1 : (ok == 1) = false := by rw [beq_eq_false_iff_ne]; exact e1
      have f2 : (ok == 2) = false := by rw [beq_eq_false_iff_ne]; exact e2
      have f3 : (ok == 3) = false := by rw [beq_eq_false_iff_ne]; exact e3
      have f4 : (ok == 4) = false := by rw [beq_eq_false_iff_ne]; exact e4
      have HB2 := HBB
      have HW := HBW
      clear e0 e1 e2 e3 e4 HP0 HBB HBW
      go_wp2_with fail
      try rw [hX]
      try rw [hwb]
      clear hwb hX q0 q1 q2 q3 q4 k0 k1 k2 k3 k4
      obtain ⟨hpk, hpc⟩ := id HP.out
      have pal := hpk.all
      have ppc := hpk.pieces
      have hc16 := hpk.c1
      have HN := Lib.hid (fun (v : World) (hv : Both v w.heap.size (fun q => q = X) g gr s (rOf s) ∧ Below w.heap.size w v) => tail_facts hv.1 hv.2.size hpk (by omega))
      clear hpk hpc
      obtain ⟨BY, hBY⟩ : ∃ b, s.bytes = b := ⟨_, rfl⟩
      obtain ⟨AL, hAL⟩ : ∃ b, s.all.length = b := ⟨_, rfl⟩
      obtain ⟨LL, hLL⟩ : ∃ b, s.lasts.size = b := ⟨_, rfl⟩
      obtain ⟨CP, hCP⟩ : ∃ b, s.cap = b := ⟨_, rfl⟩
      rw [hBY, hAL, hLL, hCP] at HN
      rw [hAL, hCP] at pal
      rw [hCP] at hc16
      clear hBY hAL hLL hCP
      have e9 : IntKind.i64.wrap (CP - (AL : Int)) = CP - (AL : Int) := IntWalk.i64_in _ (by omega)
      obtain ⟨RM, hRM⟩ : ∃ x : Int, CP - (AL : Int) = x := ⟨_, rfl⟩
      rw [hRM] at HN
      have HE9 := Lib.hid (e9.trans hRM)
      clear e9
      have HPV : Hid (∀ (v v' : World), Both v w.heap.size (fun q => q = X) g gr s (rOf s) ∧ Below w.heap.size w v → Below v.heap.size v v' → Both v' w.heap.size (fun q => q = X) g gr s (rOf s) ∧ Below w.heap.size w v') := fun v v' hv hb => ⟨hv.1.below hb, hv.2.trans (hb.mono hv.2.size)⟩
      have HV0 : Hid (Both wb w.heap.size (fun q => q = X) g gr s (rOf s) ∧ Below w.heap.size w wb) := ⟨HB2.out, HW.out⟩
      have HREL : Hid (∀ v, Both v w.heap.size (fun q => q = X) g gr s (rOf s) ∧ Below w.heap.size w v → Both v w.heap.size (fun _ => False) g gr s (rOf s) ∧ Below w.heap.size w v) := fun v hv => ⟨hv.1.extend (Below.refl _ _) (fun q _ a => a.elim) (fun q a => a.elim), hv.2⟩
      clear HB2 HW hRM
      cases hdc : s.down with
      | true =>
        rw [hdc] at HN
        clear hdc
        have hrd : Calls Try.prog 27 #[.pointer (some ⟨g, 0, none⟩)] wb fun e w' => e = .returned (.tuple #[.string ByteArray.empty, .int .i64 8]) ∧ Below wb.heap.size wb w' := (HN.out wb HV0.out).1
        go_wp2_with fail
        refine hrd.mono ?_
        rintro e v1 ⟨rfl, hb⟩
        have HV1 := Lib.hid (HPV.out _ _ HV0.out hb)
        clear hb hrd
        obtain ⟨-, -, -, -, -, -, ab, cb, t7, -, -, -, tb⟩ := HN.out v1 HV1.out
        have HG : Hid ((fun v => (Both v w.heap.size (fun q => q = X) g gr s (rOf s) ∧ Below w.heap.size w v) ∧ v.cell? ⟨gr, 0, none⟩ = some (.slice ab AL cb) ∧ gr < v.heap.size : World → Prop) v1) := ⟨HV1.out, t7, tb⟩
        clear t7 tb HV1 HV0
        go_wp2_with fail
        refine dpDown (ab := ab) (cb := cb) (BY := BY) (LL := LL) (AL := AL) (G := fun v => (Both v w.heap.size (fun q => q = X) g gr s (rOf s) ∧ Below w.heap.size w v) ∧ v.cell? ⟨gr, 0, none⟩ = some (.slice ab AL cb) ∧ gr < v.heap.size) HG.out (fun v v' hv hb => ⟨HPV.out v v' hv.1 hb, (hb.cell (p := ⟨gr, 0, none⟩) hv.2.2).trans hv.2.1, Nat.lt_of_lt_of_le hv.2.2 hb.size⟩) (fun v hv => ?_) HE9.out (fun _ _ _ _ _ h => h) ?_
        · obtain ⟨-, t2, t3, t4, t5, t6, ab', cb', t7, t8, t9, ta, -⟩ := HN.out v hv.1
          have e := t7.symm.trans hv.2.1
          simp only [Option.some.injEq, Value.slice.injEq] at e
          obtain ⟨rfl, -, rfl⟩ := e
          exact ⟨⟨hv.2.1, t9, ta, t8⟩, t2, t3, t4, t5, t6⟩
        · intro w9 x86 x87 x88 x89 x90 x91 x92 x93 x94 x95 x96 x97 x98 x99 x100 x101 x102 x103 x104 x105 x106 x107 x108 x109 x110 x111 x112 x113 x114 x115 x116 x117 x118 x119 x120 x121 x122 x123 x124 x125 x126 x127 x128 x129 x130 x131 x132 x133 x134 x135 x136 x137 x138 x139 x140 x141 x142 x143 x144 x145 x146 x147 x148 x149 x150 x151 x152 x153 h9
          have HE := Lib.hid (HREL.out w9 h9.1)
          clear h9 HG
          go_wp2_with fail
          go_roundw
          case rel => exact ⟨j + 1, s, by omega, by go_num, HP.out, HE.out.1, HE.out.2⟩
          case measure => simp [intOf]; omega
      | false =>
        rw [hdc] at HN
        clear hdc
        have hrd : Calls Try.prog 27 #[.pointer (some ⟨g, 0, none⟩)] wb fun e w' => e = .returned (.tuple #[.string BY, .int .i64 0]) ∧ Below wb.heap.size wb w' := (HN.out wb HV0.out).1
        go_wp2_with fail
        refine hrd.mono ?_
        rintro e v1 ⟨rfl, hb⟩
        have HV1 := Lib.hid (HPV.out _ _ HV0.out hb)
        clear hb hrd
        obtain ⟨-, -, -, -, -, -, ab, cb, t7, -, -, -, tb⟩ := HN.out v1 HV1.out
        have HG : Hid ((fun v => (Both v w.heap.size (fun q => q = X) g gr s (rOf s) ∧ Below w.heap.size w v) ∧ v.cell? ⟨gr, 0, none⟩ = some (.slice ab AL cb) ∧ gr < v.heap.size : World → Prop) v1) := ⟨HV1.out, t7, tb⟩
        clear t7 tb HV1 HV0
        go_wp2_with fail
        refine dpUp (ab := ab) (cb := cb) (BY := BY) (LL := LL) (AL := AL) (G := fun v => (Both v w.heap.size (fun q => q = X) g gr s (rOf s) ∧ Below w.heap.size w v) ∧ v.cell? ⟨gr, 0, none⟩ = some (.slice ab AL cb) ∧ gr < v.heap.size) HG.out (fun v v' hv hb => ⟨HPV.out v v' hv.1 hb, (hb.cell (p := ⟨gr, 0, none⟩) hv.2.2).trans hv.2.1, Nat.lt_of_lt_of_le hv.2.2 hb.size⟩) (fun v hv => ?_) HE9.out (fun _ _ _ _ _ h => h) ?_
        · obtain ⟨-, t2, t3, t4, t5, t6, ab', cb', t7, t8, t9, ta, -⟩ := HN.out v hv.1
          have e := t7.symm.trans hv.2.1
          simp only [Option.some.injEq, Value.slice.injEq] at e
          obtain ⟨rfl, -, rfl⟩ := e
          exact ⟨⟨hv.2.1, t9, ta, t8⟩, t2, t3, t4, t5, t6⟩
        · intro w9 x86 x87 x88 x89 x90 x91 x92 x93 x94 x95 x96 x97 x98 x99 x100 x101 x102 x103 x104 x105 x106 x107 x108 x109 x110 x111 x112 x113 x114 x115 x116 x117 x118 x119 x120 x121 x122 x123 x124 x125 x126 x127 x128 x129 x130 x131 x132 x133 x134 x135 x136 x137 x138 x139 x140 x141 x142 x143 x144 x145 x146 x147 x148 x149 x150 x151 x152 x153 h9
          have HE := Lib.hid (HREL.out w9 h9.1)
          clear h9 HG
          go_wp2_with fail
          go_roundw
          case rel => exact ⟨j + 1, s, by omega, by go_num, HP.out, HE.out.1, HE.out.2⟩
          case measure => simp [intOf]; omega
    · go_wp2_with fail
      go_ret
      exact ⟨rfl, HW.out⟩

set_option maxRecDepth 100000 in
theorem diskPlays_lawful : Lawful 10 Try.f10 := by
  intro H enc W base args ds p hval hA hlt hsz
  rw [Try.params10] at hA hval hsz
  obtain ⟨v0, v1, d0, d1, p0, p1, rfl, rfl, rfl, h0, h1⟩ := trodAll_two hA
  obtain ⟨c, rfl, rfl, rfl, hw⟩ := open_int under_int (hval 0 3 v0 rfl rfl) h0
  have hcb := bounds_i64 hw
  obtain ⟨os, b, off, ao, n, cap, rfl, _, hn, hl, hok, hao, hb, hc⟩ := sliceArg dopCells (DOpOk W) 5 (by omega) under_dops cells_dop rdDOp (hval 1 44 v1 rfl rfl) h1 (weights_in (j := 1) hsz rfl rfl) hlt (fun x hx => by simp [hx])
  by_cases hlet : Big14 os
  · exact diskPlays_let c hcb.1 hcb.2 ao b off n cap os W hn hl hao hb hok hc hlet
  · exact diskPlays_law c hcb.1 hcb.2 ao b off n cap os W hn hl hao hb hok hc hlet

theorem diskPlays_holds : Rows.DiskPlaysSaid :=
  OpenClaim.holds_of_wide 10 Try.f10 rfl rfl rfl rfl rfl rfl rfl ⟨rfl, rfl, rfl, rfl, rfl⟩ rfl rfl rfl rfl rfl (by kernel_rfl) Try.func10 (by kernel_rfl)
    (of_decide_eq_true (by kernel_rfl)) (by unfold Func.isWrapper; rw [if_neg (of_decide_eq_false (by kernel_rfl))]; exact ⟨rfl, rfl⟩)
    (fun os started H enc _ => law_lift (s := Rows.diskPlaysSpec) Try.func10 (by kernel_rfl) rfl rfl rfl (by rw [Try.params10]; intro t ht; simp at ht; rcases ht with rfl | rfl <;> exact ⟨by kernel_rfl, of_decide_eq_true (by kernel_rfl)⟩)
      (by rw [Try.params10]; intro H ds hds; match ds, hds with | [d1, d2], _ => exact ⟨rfl, rfl, rfl⟩) diskPlays_lawful os started H enc
      (ChangeSpec.witness6 (enc := enc) (C := Try.checked) false ⟨#[], #[.int .i64 0, .slice none 0 0], []⟩ 8 (by kernel_rfl) (by kernel_rfl) (by kernel_rfl) (by kernel_rfl)))
end Go.Proofs.Ytpnmhpkpkejdiaa
