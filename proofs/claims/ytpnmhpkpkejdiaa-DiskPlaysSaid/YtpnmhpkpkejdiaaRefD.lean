/- Layer 14's reference: the walk of Crash. -/
import Derived.Test.YtpnmhpkpkejdiaaRefC
namespace Go.Proofs.Ytpnmhpkpkejdiaa
open Go.RowKit

def RSt.withB (r : RSt) (b : List UInt8) : RSt := ⟨b, r.piece, r.many, r.cap, r.left, r.down⟩
/-- the bytes, those from n up to k spoilt where their piece is not kept -/
def spoilB (r : RSt) (keep : List Bool) (n k : Nat) : List UInt8 := (List.range r.b.length).map fun i => if n ≤ i ∧ i < k ∧ keep.getD (r.piece.getD i 0 - 1) false = false then 0 else r.b.getD i 0
theorem spoilB_length (r : RSt) (keep : List Bool) (n k : Nat) : (spoilB r keep n k).length = r.b.length := by simp [spoilB]
theorem spoilB_get (r : RSt) (keep : List Bool) (n k i : Nat) (hi : i < r.b.length) : (spoilB r keep n k)[i]? = some (if n ≤ i ∧ i < k ∧ keep.getD (r.piece.getD i 0 - 1) false = false then 0 else r.b.getD i 0) := by
  simp only [spoilB, List.getElem?_map, List.getElem?_range hi, Option.map_some]
theorem spoilB_none (r : RSt) (keep : List Bool) (n k i : Nat) (hi : r.b.length ≤ i) : (spoilB r keep n k)[i]? = none := List.getElem?_eq_none (by rw [spoilB_length]; exact hi)
theorem spoilB_start (r : RSt) (keep : List Bool) (n : Nat) : spoilB r keep n n = r.b := by
  apply List.ext_getElem?
  intro i
  by_cases hi : i < r.b.length
  · rw [spoilB_get r keep n n i hi, if_neg (by omega), List.getD_eq_getElem?_getD, List.getElem?_eq_getElem hi]; rfl
  · rw [spoilB_none r keep n n i (by omega), List.getElem?_eq_none (by omega)]
theorem spoilB_keep (r : RSt) (keep : List Bool) (n k : Nat) (hb : keep.getD (r.piece.getD k 0 - 1) false = true) : spoilB r keep n (k + 1) = spoilB r keep n k := by
  apply List.ext_getElem?
  intro i
  by_cases hi : i < r.b.length
  · rw [spoilB_get r keep n _ i hi, spoilB_get r keep n _ i hi]
    by_cases e : i = k
    · subst e; rw [if_neg (by rw [hb]; simp), if_neg (by omega)]
    · have : i < k + 1 ↔ i < k := by omega
      simp only [this]
  · rw [spoilB_none r keep n _ i (by omega), spoilB_none r keep n _ i (by omega)]
theorem spoilB_set (r : RSt) (keep : List Bool) (n k : Nat) (hn : n ≤ k) (hk : k < r.b.length) (hb : keep.getD (r.piece.getD k 0 - 1) false = false) : spoilB r keep n (k + 1) = (spoilB r keep n k).set k 0 := by
  apply List.ext_getElem?
  intro i
  rw [List.getElem?_set]
  by_cases hi : i < r.b.length
  · rw [spoilB_get r keep n _ i hi]
    by_cases e : k = i
    · subst e; rw [if_pos ⟨hn, by omega, hb⟩, if_pos rfl, if_pos (by rw [spoilB_length]; exact hk)]
    · rw [if_neg e, spoilB_get r keep n _ i hi]
      have : i < k + 1 ↔ i < k := by omega
      simp only [this]
  · rw [spoilB_none r keep n _ i (by omega), if_neg (by omega), spoilB_none r keep n _ i (by omega)]
def crashB (r : RSt) (keep : List Bool) (cut : Int) : List UInt8 :=
  let n := zeros r.piece
  let b := spoilB r keep n r.b.length
  if 0 ≤ cut ∧ cut < (r.b.length : Int) - (n : Int) then b.take (n + cut.toNat) else b
def RSt.crash (r : RSt) (keep : List Bool) (cut : Int) : RSt := ⟨crashB r keep cut, List.replicate (crashB r keep cut).length 0, 0, r.cap, -1, false⟩

theorem Sl.set1 {w : World} {F : Nat → Prop} {e : TypeId} {b off n cap i : Nat} {xs : List Value} (h : Sl w F e 1 (.slice (some ⟨b, off, none⟩) n cap) n xs) (hi : i < n) (u : Value) : Sl (w.setCell ⟨b, off + i, none⟩ u) F e 1 (.slice (some ⟨b, off, none⟩) n cap) n (xs.set i u) := by
  have hl := h.1
  refine ⟨by rw [List.length_set]; exact hl, ?_⟩
  rcases h.2 with ⟨h0, h1⟩ | ⟨g, off', cap', cur, h0, h2, h3, h4, h5, h6, h7⟩
  · omega
  · simp only [Value.slice.injEq, Option.some.injEq, Addr.mk.injEq] at h0
    obtain ⟨⟨rfl, rfl, -⟩, -, rfl⟩ := h0
    refine .inr ⟨b, off, cap, _, rfl, h2, heap_setCell_same (i := off + i) h3 u, h4, h5, by simpa using h6, ?_⟩
    rw [Array.toList_setIfInBounds, List.drop_set, if_neg (by omega), show off + i - off = i by omega, List.take_set, h7]
theorem refB_set {w : World} {F : Nat → Prop} {g : Nat} {r : RSt} (h : RefAt w F g r) {i : Nat} (hi : i < r.b.length) :
    ∃ sb soff scb, w.cell? ⟨g, 0, none⟩ = some (.slice (some ⟨sb, soff, none⟩) r.b.length scb) ∧ (∃ u, w.cell? ⟨sb, soff + i, none⟩ = some u) ∧ w.frozen? ⟨sb, soff + i, none⟩ = false ∧ sb < w.heap.size ∧
      RefAt (w.setCell ⟨sb, soff + i, none⟩ (.int .u8 0)) F g (r.withB (r.b.set i 0)) ∧ Chg w (w.setCell ⟨sb, soff + i, none⟩ (.int .u8 0)) F := by
  obtain ⟨hF, _⟩ := id h
  obtain ⟨ab, cb, ap, cp, _, _, _, _, hg, hb, hp⟩ := h.cells
  obtain ⟨sb, soff, cap, he, hsb, hlt, _, _, hc⟩ := hb.at (by omega)
  simp only [Value.slice.injEq] at he
  obtain ⟨rfl, -, rfl⟩ := he
  obtain ⟨x, hx⟩ : ∃ x, (u8Cells r.b)[i]? = some x := ⟨_, List.getElem?_eq_getElem (by rw [u8Cells_length]; exact hi)⟩
  obtain ⟨k1, k2⟩ := hc i x hx
  refine ⟨sb, soff, cb, cell_at hg rfl, ⟨x, k1⟩, k2, hlt, ⟨hF, .slice (some ⟨sb, soff, none⟩) r.b.length cb, .slice ap r.piece.length cp, heap_setCell_other hg (Ne.symm hsb.2.1) _, ?_, ?_⟩, (Chg.refl w F).setCell (fun _ => hsb.1) _⟩
  · have := hb.set1 hi (.int .u8 0)
    show Sl _ _ _ 1 _ (r.b.set i 0).length (u8Cells (r.b.set i 0))
    rw [List.length_set, show u8Cells (r.b.set i 0) = (u8Cells r.b).set i (.int .u8 0) from List.map_set ..]
    exact this
  · exact (hp.owned.keep fun k hk _ => Below.heap_setCell _ _ _ _ (fun e => hsb.2.2 (by have e' : k = sb := e; rw [← e']; exact hk.2))).mono fun k _ hk => hk.1

set_option maxRecDepth 100000 in
set_option maxHeartbeats 3200000 in
theorem refCrash_any (g N : Nat) (r : RSt) (F : Nat → Prop) (w : World) (keep : List Bool) (ko : Option Addr) (kcap : Nat) (cut : Int) (h : RefAt w F g r) (ok : ROk N r) (hN : N ≤ 100000) (hpc : ∀ i p, zeros r.piece ≤ i → r.piece[i]? = some p → 1 ≤ p ∧ p ≤ N) (hk : BoolsAt w ko keep) (hkn : keep.length ≤ 100000) (hkF : ∀ (i : Nat) (b : Bool) (blk off : Nat), keep[i]? = some b → ko = some ⟨blk, off, none⟩ → ¬ F blk)
    (hcut : -9223372036854775808 ≤ cut ∧ cut ≤ 9223372036854775807) :
    Calls Try.prog 40 #[.pointer (some ⟨g, 0, none⟩), .slice ko keep.length kcap, .int .i64 cut] w fun e w' => e = .returned (.tuple #[]) ∧ RefAt w' (fun k => (F k ∧ k < w.heap.size) ∨ w.heap.size ≤ k) g (r.crash keep cut) ∧ Chg w w' F := by
  have o0 := ok.c0; have o1 := ok.c1; have o2 := ok.all; have o3 := ok.piece
  have hla := refLasts_any g r F w h (by omega)
  have hnl := zeros_le r.piece
  obtain ⟨q, hq⟩ : ∃ q, r.b.length = q := ⟨_, rfl⟩
  obtain ⟨n, hn⟩ : ∃ n, zeros r.piece = n := ⟨_, rfl⟩
  obtain ⟨kn, hknl⟩ : ∃ kn, keep.length = kn := ⟨_, rfl⟩
  rw [hn] at hla hnl hpc
  rw [hq] at o2 o3
  rw [o3] at hnl
  rw [hknl] at hkn ⊢
  have HLA := Lib.hid hla
  have HH := Lib.hid h
  have HK := Lib.hid hk
  have HKF := Lib.hid hkF
  have HPC := Lib.hid hpc
  have HQ := Lib.hid hq
  have HN := Lib.hid hn
  have HKL := Lib.hid hknl
  have HP3 := Lib.hid o3
  clear hla h hk hkF hpc hq hn hknl o3 ok
  go_enter Try.func40, Try.ntmps40
  go_wp2_with fail
  refine HLA.out.mono ?_
  rintro e w1 ⟨rfl, rfl⟩
  clear HLA
  go_wp2_with fail
  go_loopw [7] (fun i wr => ∃ k : Nat, n ≤ k ∧ k ≤ q ∧ i = .int .i64 k ∧ Hid (RefAt wr F g (r.withB (spoilB r keep n k))) ∧ Hid (Chg w wr F)) (fun i _ => q - (intOf i).toNat)
  case atStart => exact ⟨n, by omega, hnl, rfl, by rw [spoilB_start]; exact HH.out, Chg.refl _ _⟩
  case round =>
    obtain ⟨k, hnk, hkq, rfl, HD, HC⟩ := hrel
    clear HH
    obtain ⟨wq, hwq⟩ : ∃ wq : World, wq = wr := ⟨_, rfl⟩
    rw [← hwq] at HD HC ⊢
    clear hwq
    obtain ⟨ab, cb, ap, cp, hcb, hcm, _, _, hg, _, hp⟩ := HD.out.cells
    have hab : wq.cell? ⟨g, 0, none⟩ = some (.slice ab q cb) := by
      have := cell_at hg (i := 0) rfl
      rw [this]
      show some (Value.slice ab (spoilB r keep n k).length cb) = _
      rw [spoilB_length, HQ.out]
    have hap : wq.cell? ⟨g, 1, none⟩ = some (.slice ap q cp) := by
      have := cell_at hg (i := 1) rfl
      rw [this]
      show some (Value.slice ap r.piece.length cp) = _
      rw [HP3.out]
    by_cases hlt0 : k < q
    · have hlt : k < r.b.length := by rw [HQ.out]; exact hlt0
      have hkp : k < r.piece.length := by rw [HP3.out]; exact hlt0
      obtain ⟨x, hx⟩ : ∃ x, r.piece[k]? = some x := ⟨_, List.getElem?_eq_getElem hkp⟩
      obtain ⟨pb, po, pcap, he, _, hpb, _, _, hpcl⟩ := hp.at (by show 0 < r.piece.length; omega)
      simp only [Value.slice.injEq] at he
      obtain ⟨rfl, -, rfl⟩ := he
      have ck : wq.cell? ⟨pb, po + k, none⟩ = some (.int .i64 (x : Nat)) := (hpcl k _ (by simp [natCells, RSt.withB, hx])).1
      obtain ⟨hx1, hx2⟩ := HPC.out k x hnk hx
      obtain ⟨y, hy⟩ : ∃ y, x - 1 = y := ⟨_, rfl⟩
      have hxy : (x : Int) - 1 = (y : Int) := by omega
      have hyx : r.piece.getD k 0 - 1 = y := by rw [List.getD_eq_getElem?_getD, hx]; exact hy
      clear hp hpcl hx hg
      have HLT := Lib.hid hlt
      have HYX := Lib.hid hyx
      clear hyx hy
      by_cases hkk : keep.getD y false = true
      · have hyk : y < keep.length := by
          apply Classical.byContradiction
          intro hn
          rw [List.getD_eq_getElem?_getD, List.getElem?_eq_none (by omega)] at hkk
          cases hkk
        have hk1 : keep[y]? = some true := by
          rw [List.getD_eq_getElem?_getD, List.getElem?_eq_getElem hyk] at hkk
          rw [List.getElem?_eq_getElem hyk]; exact congrArg some hkk
        obtain ⟨kb, koff, rfl, hkc⟩ := HK.out y true hk1
        have kc : wq.cell? ⟨kb, koff + y, none⟩ = some (.bool true) := (HC.out.cell (p := ⟨kb, koff + y, none⟩) (by exact block_lt_of_cell hkc) (HKF.out y true kb koff hk1 rfl)).trans hkc
        have hyn : y < kn := by rw [← HKL.out]; exact hyk
        have HN1 : Hid (RefAt wq F g (r.withB (spoilB r keep n (k + 1)))) := by
          rw [spoilB_keep r keep n k (by rw [HYX.out]; exact hkk)]
          exact HD.out
        clear hkk hk1 hkc hyk HD
        go_wp2_with fail
        go_roundw
        case rel => exact ⟨k + 1, by omega, by omega, by go_num, HN1.out, HC.out⟩
        case measure => simp [intOf]; omega
      · have HBAD : Hid (keep.getD (r.piece.getD k 0 - 1) false = false) := by
          show keep.getD (r.piece.getD k 0 - 1) false = false
          rw [HYX.out]; simpa using hkk
        by_cases hyk : y < keep.length
        · have hk1 : keep[y]? = some false := by
            rw [List.getD_eq_getElem?_getD, List.getElem?_eq_getElem hyk] at hkk
            rw [List.getElem?_eq_getElem hyk]
            have : keep[y] ≠ true := hkk
            exact congrArg some (by simpa using this)
          obtain ⟨kb, koff, rfl, hkc⟩ := HK.out y false hk1
          have kc : wq.cell? ⟨kb, koff + y, none⟩ = some (.bool false) := (HC.out.cell (p := ⟨kb, koff + y, none⟩) (by exact block_lt_of_cell hkc) (HKF.out y false kb koff hk1 rfl)).trans hkc
          have hyn : y < kn := by rw [← HKL.out]; exact hyk
          clear hkk hk1 hkc hyk
          have hset := refB_set HD.out (i := k) (by show k < (spoilB r keep n k).length; rw [spoilB_length]; exact HLT.out)
          obtain ⟨sb, soff, scb, hs0, ⟨su, hs1⟩, hs2, hs3, hs4, hs5⟩ := hset
          have hlen : (r.withB (spoilB r keep n k)).b.length = q := by show (spoilB r keep n k).length = q; rw [spoilB_length]; exact HQ.out
          rw [hlen] at hs0
          rw [hab] at hs0
          simp only [Option.some.injEq, Value.slice.injEq] at hs0
          obtain ⟨rfl, -, rfl⟩ := hs0
          obtain ⟨w3, hw3⟩ : ∃ w3, wq.setCell ⟨sb, soff + k, none⟩ (.int .u8 0) = w3 := ⟨_, rfl⟩
          rw [hw3] at hs4 hs5
          have HN : Hid (RefAt w3 F g (r.withB (spoilB r keep n (k + 1))) ∧ Chg w w3 F) := by
            rw [spoilB_set r keep n k hnk HLT.out HBAD.out]
            exact ⟨hs4, HC.out.trans hs5 (fun _ _ a => a)⟩
          clear hs4 hs5 hlen HD HC
          go_wp2_with fail
          try rw [hw3]
          clear hw3
          go_roundw
          case rel => exact ⟨k + 1, by omega, by omega, by go_num, HN.out.1, HN.out.2⟩
          case measure => simp [intOf]; omega
        · have hyn : kn ≤ y := by rw [← HKL.out]; omega
          clear hkk hyk
          have hset := refB_set HD.out (i := k) (by show k < (spoilB r keep n k).length; rw [spoilB_length]; exact HLT.out)
          obtain ⟨sb, soff, scb, hs0, ⟨su, hs1⟩, hs2, hs3, hs4, hs5⟩ := hset
          have hlen : (r.withB (spoilB r keep n k)).b.length = q := by show (spoilB r keep n k).length = q; rw [spoilB_length]; exact HQ.out
          rw [hlen] at hs0
          rw [hab] at hs0
          simp only [Option.some.injEq, Value.slice.injEq] at hs0
          obtain ⟨rfl, -, rfl⟩ := hs0
          obtain ⟨w3, hw3⟩ : ∃ w3, wq.setCell ⟨sb, soff + k, none⟩ (.int .u8 0) = w3 := ⟨_, rfl⟩
          rw [hw3] at hs4 hs5
          have HN : Hid (RefAt w3 F g (r.withB (spoilB r keep n (k + 1))) ∧ Chg w w3 F) := by
            rw [spoilB_set r keep n k hnk HLT.out HBAD.out]
            exact ⟨hs4, HC.out.trans hs5 (fun _ _ a => a)⟩
          clear hs4 hs5 hlen HD HC
          go_wp2_with fail
          try rw [hw3]
          clear hw3
          go_roundw
          case rel => exact ⟨k + 1, by omega, by omega, by go_num, HN.out.1, HN.out.2⟩
          case measure => simp [intOf]; omega
    · obtain rfl : k = q := by omega
      have hcb' : k ≤ cb := by
        have : (r.withB (spoilB r keep n k)).b.length = k := by show (spoilB r keep n k).length = k; rw [spoilB_length]; exact HQ.out
        omega
      have hg0 := heap_lt hg
      have f0 := free_at hg 0
      unfold maxLen at hcm
      have e1 : IntKind.i64.wrap ((k : Int) - (n : Int)) = (k : Int) - (n : Int) := IntWalk.i64_in _ (by omega)
      by_cases hct : 0 ≤ cut ∧ cut < (k : Int) - (n : Int)
      · obtain ⟨m, rfl⟩ := Int.eq_ofNat_of_zero_le hct.1
        have d0 : decide ((0 : Int) ≤ (m : Int)) = true := by simp
        have d1 : decide ((m : Int) < (k : Int) - (n : Int)) = true := by simp; omega
        obtain ⟨p, hp'⟩ : ∃ p, n + m = p := ⟨_, rfl⟩
        have hpi : (n : Int) + (m : Int) = (p : Int) := by omega
        have hpk : p ≤ k := by omega
        have HCB : Hid (crashB r keep (m : Int) = ((r.withB (spoilB r keep n k)).cut p).b) := by
          show crashB r keep (m : Int) = (spoilB r keep n k).take p
          unfold crashB
          simp only
          rw [HN.out, HQ.out, if_pos hct, Int.toNat_natCast, hp']
        have hrun : ∀ w : World, Sem.run Try.prog (Instr.slice 34 (.slice ab k cb) none (some (.int .i64 (p : Int))) none) w = .ok (.slice ab p cb) w := fun w => run_take1 w 34 under_bytes (size := 1) (by kernel_rfl) (by omega)
        have hst := refCut_store HD.out (k := p) (ab := ab) (cb := cb) (vp := .slice ap (r.withB (spoilB r keep n k)).piece.length cp) hg (by show p ≤ (spoilB r keep n k).length; rw [spoilB_length, HQ.out]; exact hpk)
        obtain ⟨w3, hw3⟩ : ∃ w3, wq.setCell ⟨g, 0, none⟩ (.slice ab p cb) = w3 := ⟨_, rfl⟩
        rw [hw3] at hst
        have HL := Lib.hid (refLast_any g _ F w3 hst.1 (by show ((spoilB r keep n k).take p).length ≤ _; rw [List.length_take, spoilB_length, HQ.out]; omega))
        have HC3 : Hid (Chg w w3 F) := HC.out.trans hst.2 (fun _ _ a => a)
        clear hst hg hp hct hp' HD HC HK HPC hap hcb
        go_wp2_with fail
        try rw [hw3]
        clear hw3 hab f0 hg0 hrun e1
        refine HL.out.mono ?_
        rintro e w4 ⟨rfl, h4, c4⟩
        have hz := HC3.out.size
        obtain ⟨vb4, vp4, hg4⟩ : ∃ vb vp, w4.heap[g]? = some (.cells (refCells ((r.withB (spoilB r keep n k)).cut p).lasted vb vp) 61 (0, 0)) := by obtain ⟨_, vb, vp, h, _⟩ := h4; exact ⟨vb, vp, h⟩
        have k4 : w4.cell? ⟨g, 4, none⟩ = some (.int .i64 r.left) := cell_at hg4 rfl
        have k5 : w4.cell? ⟨g, 5, none⟩ = some (.bool r.down) := cell_at hg4 rfl
        have f4 := free_at hg4 4
        have f5 := free_at hg4 5
        have hg4l := heap_lt hg4
        have e1 := h4.field (r' := ⟨((r.withB (spoilB r keep n k)).cut p).b, List.replicate ((r.withB (spoilB r keep n k)).cut p).b.length 0, 0, r.cap, -1, r.down⟩) 4 (.int .i64 (-1)) rfl rfl (fun _ _ => rfl)
        have e2 := e1.1.field (r' := ⟨((r.withB (spoilB r keep n k)).cut p).b, List.replicate ((r.withB (spoilB r keep n k)).cut p).b.length 0, 0, r.cap, -1, false⟩) 5 (.bool false) rfl rfl (fun _ _ => rfl)
        have HEND : Hid (∀ w', (w4.setCell ⟨g, 4, none⟩ (.int .i64 (-1))).setCell ⟨g, 5, none⟩ (.bool false) = w' → RefAt w' (fun k => (F k ∧ k < w.heap.size) ∨ w.heap.size ≤ k) g (r.crash keep (m : Int)) ∧ Chg w w' F) := by
          rintro _ rfl
          have ec : r.crash keep (m : Int) = ⟨((r.withB (spoilB r keep n k)).cut p).b, List.replicate ((r.withB (spoilB r keep n k)).cut p).b.length 0, 0, r.cap, -1, false⟩ := by
            show RSt.mk (crashB r keep (m : Int)) _ _ _ _ _ = _
            rw [HCB.out]
          rw [ec]
          have c5 := (HC3.out.trans c4 (fun _ _ a => a)).trans (e1.2.trans e2.2 (fun _ _ a => a)) (T := fun k => (F k ∧ k < w3.heap.size) ∨ w3.heap.size ≤ k) (fun k hk a => by
            rcases a with ⟨a, _⟩ | a
            · exact a
            · omega)
          refine ⟨e2.1.mono fun k _ a => ?_, c5⟩
          by_cases hk : k < w.heap.size
          · rcases a with ⟨a, _⟩ | a
            · exact .inl ⟨a, hk⟩
            · omega
          · exact .inr (by omega)
        clear h4 c4 hg4 e1 e2 HL HC3 HCB
        go_wp2_with fail
        go_end0
        exact ⟨rfl, HEND.out _ rfl⟩
      · have HCB : Hid (crashB r keep cut = (r.withB (spoilB r keep n k)).b) := by
          show crashB r keep cut = spoilB r keep n k
          unfold crashB
          simp only
          rw [HN.out, HQ.out, if_neg hct]
        have HL := Lib.hid (refLast_any g _ F wq HD.out (by show (spoilB r keep n k).length ≤ _; rw [spoilB_length, HQ.out]; omega))
        have HC3 := HC
        clear hg hp HD HC HK HPC hap hcb
        by_cases hc0 : 0 ≤ cut
        · have d0 : decide ((0 : Int) ≤ cut) = true := by simp; omega
          have d1 : decide (cut < (k : Int) - (n : Int)) = false := by rw [decide_eq_false_iff_not]; omega
          clear hct hc0
          go_wp2_with fail
          refine HL.out.mono ?_
          rintro e w4 ⟨rfl, h4, c4⟩
          have hz := HC3.out.size
          obtain ⟨vb4, vp4, hg4⟩ : ∃ vb vp, w4.heap[g]? = some (.cells (refCells (r.withB (spoilB r keep n k)).lasted vb vp) 61 (0, 0)) := by obtain ⟨_, vb, vp, h, _⟩ := h4; exact ⟨vb, vp, h⟩
          have k4 : w4.cell? ⟨g, 4, none⟩ = some (.int .i64 r.left) := cell_at hg4 rfl
          have k5 : w4.cell? ⟨g, 5, none⟩ = some (.bool r.down) := cell_at hg4 rfl
          have f4 := free_at hg4 4
          have f5 := free_at hg4 5
          have hg4l := heap_lt hg4
          have e1 := h4.field (r' := ⟨(r.withB (spoilB r keep n k)).b, List.replicate (r.withB (spoilB r keep n k)).b.length 0, 0, r.cap, -1, r.down⟩) 4 (.int .i64 (-1)) rfl rfl (fun _ _ => rfl)
          have e2 := e1.1.field (r' := ⟨(r.withB (spoilB r keep n k)).b, List.replicate (r.withB (spoilB r keep n k)).b.length 0, 0, r.cap, -1, false⟩) 5 (.bool false) rfl rfl (fun _ _ => rfl)
          have HEND : Hid (∀ w', (w4.setCell ⟨g, 4, none⟩ (.int .i64 (-1))).setCell ⟨g, 5, none⟩ (.bool false) = w' → RefAt w' (fun k => (F k ∧ k < w.heap.size) ∨ w.heap.size ≤ k) g (r.crash keep cut) ∧ Chg w w' F) := by
            rintro _ rfl
            have ec : r.crash keep cut = ⟨(r.withB (spoilB r keep n k)).b, List.replicate (r.withB (spoilB r keep n k)).b.length 0, 0, r.cap, -1, false⟩ := by
              show RSt.mk (crashB r keep cut) _ _ _ _ _ = _
              rw [HCB.out]
            rw [ec]
            have c5 := (HC3.out.trans c4 (fun _ _ a => a)).trans (e1.2.trans e2.2 (fun _ _ a => a)) (T := fun k => (F k ∧ k < wq.heap.size) ∨ wq.heap.size ≤ k) (fun k hk a => by
              rcases a with ⟨a, _⟩ | a
              · exact a
              · omega)
            refine ⟨e2.1.mono fun k _ a => ?_, c5⟩
            by_cases hk : k < w.heap.size
            · rcases a with ⟨a, _⟩ | a
              · exact .inl ⟨a, hk⟩
              · omega
            · exact .inr (by omega)
          clear h4 c4 hg4 e1 e2 HL HC3 HCB
          go_wp2_with fail
          go_end0
          exact ⟨rfl, HEND.out _ rfl⟩
        · have d0 : decide ((0 : Int) ≤ cut) = false := by rw [decide_eq_false_iff_not]; omega
          clear hct hc0
          go_wp2_with fail
          refine HL.out.mono ?_
          rintro e w4 ⟨rfl, h4, c4⟩
          have hz := HC3.out.size
          obtain ⟨vb4, vp4, hg4⟩ : ∃ vb vp, w4.heap[g]? = some (.cells (refCells (r.withB (spoilB r keep n k)).lasted vb vp) 61 (0, 0)) := by obtain ⟨_, vb, vp, h, _⟩ := h4; exact ⟨vb, vp, h⟩
          have k4 : w4.cell? ⟨g, 4, none⟩ = some (.int .i64 r.left) := cell_at hg4 rfl
          have k5 : w4.cell? ⟨g, 5, none⟩ = some (.bool r.down) := cell_at hg4 rfl
          have f4 := free_at hg4 4
          have f5 := free_at hg4 5
          have hg4l := heap_lt hg4
          have e1 := h4.field (r' := ⟨(r.withB (spoilB r keep n k)).b, List.replicate (r.withB (spoilB r keep n k)).b.length 0, 0, r.cap, -1, r.down⟩) 4 (.int .i64 (-1)) rfl rfl (fun _ _ => rfl)
          have e2 := e1.1.field (r' := ⟨(r.withB (spoilB r keep n k)).b, List.replicate (r.withB (spoilB r keep n k)).b.length 0, 0, r.cap, -1, false⟩) 5 (.bool false) rfl rfl (fun _ _ => rfl)
          have HEND : Hid (∀ w', (w4.setCell ⟨g, 4, none⟩ (.int .i64 (-1))).setCell ⟨g, 5, none⟩ (.bool false) = w' → RefAt w' (fun k => (F k ∧ k < w.heap.size) ∨ w.heap.size ≤ k) g (r.crash keep cut) ∧ Chg w w' F) := by
            rintro _ rfl
            have ec : r.crash keep cut = ⟨(r.withB (spoilB r keep n k)).b, List.replicate (r.withB (spoilB r keep n k)).b.length 0, 0, r.cap, -1, false⟩ := by
              show RSt.mk (crashB r keep cut) _ _ _ _ _ = _
              rw [HCB.out]
            rw [ec]
            have c5 := (HC3.out.trans c4 (fun _ _ a => a)).trans (e1.2.trans e2.2 (fun _ _ a => a)) (T := fun k => (F k ∧ k < wq.heap.size) ∨ wq.heap.size ≤ k) (fun k hk a => by
              rcases a with ⟨a, _⟩ | a
              · exact a
              · omega)
            refine ⟨e2.1.mono fun k _ a => ?_, c5⟩
            by_cases hk : k < w.heap.size
            · rcases a with ⟨a, _⟩ | a
              · exact .inl ⟨a, hk⟩
              · omega
            · exact .inr (by omega)
          clear h4 c4 hg4 e1 e2 HL HC3 HCB
          go_wp2_with fail
          go_end0
          exact ⟨rfl, HEND.out _ rfl⟩
end Go.Proofs.Ytpnmhpkpkejdiaa
