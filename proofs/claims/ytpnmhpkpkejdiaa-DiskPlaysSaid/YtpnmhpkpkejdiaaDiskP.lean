/- Layer 14, in plain words: the disk and the reference's disk do alike. -/
import Derived.Test.YtpnmhpkpkejdiaaRefD
namespace Go.Proofs.Ytpnmhpkpkejdiaa

/-- whose piece each byte is, from number k on -/
def piecesFrom (k : Nat) : List ByteArray → List Nat
  | [] => []
  | x :: l => List.replicate x.size k ++ piecesFrom (k + 1) l
def pieceOf (s : DSt) : List Nat := List.replicate s.lasts.size 0 ++ piecesFrom 1 s.pieces
def rOf (s : DSt) : RSt := ⟨s.all, pieceOf s, s.pieces.length, s.cap, s.left, s.down⟩
theorem piecesFrom_length (k : Nat) (l : List ByteArray) : (piecesFrom k l).length = ((l.map (·.data.toList)).flatten).length := by
  induction l generalizing k with
  | nil => rfl
  | cons x l ih => simp [piecesFrom, ih]
theorem piecesFrom_snoc (k : Nat) (l : List ByteArray) (x : ByteArray) : piecesFrom k (l ++ [x]) = piecesFrom k l ++ List.replicate x.size (k + l.length) := by
  induction l generalizing k with
  | nil => simp [piecesFrom]
  | cons y l ih => simp [piecesFrom, ih]; congr 1; omega
theorem piecesFrom_mem (k : Nat) (l : List ByteArray) (p : Nat) (h : p ∈ piecesFrom k l) : k ≤ p ∧ p < k + l.length := by
  induction l generalizing k with
  | nil => simp [piecesFrom] at h
  | cons x l ih =>
    simp only [piecesFrom, List.mem_append] at h
    rcases h with h | h
    · have := (List.mem_replicate.1 h).2
      simp; omega
    · have := ih (k + 1) h
      simp; omega
theorem pieceOf_length (s : DSt) : (pieceOf s).length = s.all.length := by
  have e : s.all.length = s.lasts.data.toList.length + s.tail.length := List.length_append
  rw [e, all_size]
  simp only [pieceOf, List.length_append, List.length_replicate, piecesFrom_length]
  rfl
theorem zeros_pieceOf (s : DSt) : zeros (pieceOf s) = s.lasts.size := by
  unfold zeros pieceOf
  rw [List.filter_append, List.length_append]
  have h1 : (List.replicate s.lasts.size 0).filter (fun x : Nat => x == 0) = List.replicate s.lasts.size 0 := List.filter_eq_self.2 (fun a ha => by simp [(List.mem_replicate.1 ha).2])
  have h2 : (piecesFrom 1 s.pieces).filter (fun x : Nat => x == 0) = [] := List.filter_eq_nil_iff.2 (fun a ha => by have := piecesFrom_mem 1 s.pieces a ha; simp; omega)
  rw [h1, h2]; simp
theorem pieceOf_pos {N : Nat} {s : DSt} (h : DOk N s) (i p : Nat) (hi : zeros (pieceOf s) ≤ i) (hp : (pieceOf s)[i]? = some p) : 1 ≤ p ∧ p ≤ N := by
  rw [zeros_pieceOf] at hi
  unfold pieceOf at hp
  rw [List.getElem?_append_right (by rw [List.length_replicate]; exact hi)] at hp
  have := piecesFrom_mem 1 s.pieces p (List.mem_of_getElem? hp)
  have := h.pieces
  omega
theorem rOf_ok {N : Nat} {s : DSt} (h : DOk N s) : ROk N (rOf s) := ⟨h.c0, h.c1, h.all, pieceOf_length s, h.pieces, h.l0, h.l1⟩
theorem rOf_new (n : Int) : rOf (dst0 n) = r0 (capOf n) := rfl
theorem rOf_burnt (s : DSt) : (rOf s).burnt = rOf s.burnt := by
  unfold RSt.burnt DSt.burnt
  show (if s.left = 0 then _ else if 0 < s.left then _ else _) = _
  split
  · rfl
  · split
    · rfl
    · rfl
theorem rOf_append (s : DSt) (x : ByteArray) : (rOf s).append x = ((s.append x).1, rOf (s.append x).2) := by
  obtain ⟨b1, b2, b3, b4⟩ := burnt_parts s
  have hx : x.data.toList.length = x.size := all_size x
  unfold RSt.append DSt.append
  rw [rOf_burnt]
  show (if s.down then _ else if s.cap < (s.all.length : Int) + (x.size : Nat) then _ else if s.left = 0 then _ else _) = _
  by_cases hd : s.down = true
  · rw [if_pos hd, if_pos hd]
  · rw [if_neg hd, if_neg hd]
    by_cases hf : s.cap < (s.all.length : Int) + (x.size : Nat)
    · rw [if_pos hf, if_pos (show s.cap - (s.all.length : Int) < (x.size : Nat) by omega)]
    · rw [if_neg hf, if_neg (show ¬ s.cap - (s.all.length : Int) < (x.size : Nat) by omega)]
      by_cases hl : s.left = 0
      · rw [if_pos hl, if_pos hl]
      · rw [if_neg hl, if_neg hl]
        by_cases h0 : x.toList = []
        · have e : x.data.toList = [] := by rw [← ByteArray.toList_eq]; exact h0
          have e0 : x.size = 0 := by rw [← hx, e]; rfl
          rw [if_pos h0, e0, if_neg (by omega)]
          show ((0 : Int), (rOf s.burnt).upto x s.pieces.length 0) = _
          rw [upto_zero, ← b2]
          rfl
        · have e0 : 0 < x.size := by
            rw [← hx]
            rw [ByteArray.toList_eq] at h0
            exact List.length_pos_iff.2 h0
          rw [if_neg h0, if_pos e0]
          show ((0 : Int), (rOf s.burnt).upto x (s.pieces.length + 1) x.size) = _
          congr 1
          unfold RSt.upto rOf
          rw [more_all, ← hx, List.take_length, hx]
          simp only [RSt.mk.injEq, true_and]
          refine ⟨?_, ?_, rfl, rfl, rfl⟩
          · show pieceOf s.burnt ++ _ = List.replicate s.burnt.lasts.size 0 ++ piecesFrom 1 (s.burnt.pieces ++ [x])
            rw [piecesFrom_snoc, b2, Nat.add_comm 1]
            unfold pieceOf
            rw [List.append_assoc, b2]
          · show s.pieces.length + 1 = (s.burnt.pieces ++ [x]).length
            rw [List.length_append, b2]; rfl
theorem rOf_only (s : DSt) (y : ByteArray) : rOf (s.only y) = ⟨y.data.toList, List.replicate y.data.toList.length 0, 0, s.cap, s.left, s.down⟩ := by
  unfold rOf
  rw [only_all]
  simp only [RSt.mk.injEq, true_and]
  refine ⟨?_, rfl, rfl, rfl, rfl⟩
  show List.replicate y.size 0 ++ [] = _
  rw [List.append_nil, all_size]
theorem rOf_sync (s : DSt) : (rOf s).sync = (s.sync.1, rOf s.sync.2) := by
  obtain ⟨b1, b2, b3, b4⟩ := burnt_parts s
  unfold RSt.sync DSt.sync
  rw [rOf_burnt]
  show (if s.down then _ else if s.left = 0 then _ else _) = _
  split
  · rfl
  · split
    · rfl
    · simp only [Prod.mk.injEq, true_and]
      rw [rOf_only, bytes_data, ← b4]
      rfl
theorem rOf_trunc (s : DSt) (n : Int) : (rOf s).trunc n = ((s.trunc n).1, rOf (s.trunc n).2) := by
  obtain ⟨b1, b2, b3, b4⟩ := burnt_parts s
  unfold RSt.trunc DSt.trunc
  rw [rOf_burnt]
  show (if s.down then _ else if n < 0 ∨ (s.all.length : Int) < n then _ else if s.left = 0 then _ else _) = _
  split
  · rfl
  · split
    · rfl
    · split
      · rfl
      · simp only [Prod.mk.injEq, true_and]
        have e : (s.bytes.extract 0 n.toNat).data.toList = s.all.take n.toNat := by
          rename_i h1 h2 h3
          unfold DSt.bytes
          rw [extract_take _ _ (by omega)]
        rw [rOf_only, e]
        show RSt.mk (s.burnt.all.take n.toNat) (List.replicate (s.burnt.all.take n.toNat).length 0) 0 _ _ _ = _
        rw [b4]
        rfl
theorem rOf_fuse (s : DSt) (n : Int) : rOf (s.fuse n) = ⟨(rOf s).b, (rOf s).piece, (rOf s).many, (rOf s).cap, max n (-1), (rOf s).down⟩ := rfl

/-- what a crash makes of the pieces from number k on -/
def tailFrom (keep : List Bool) (k : Nat) : List ByteArray → List UInt8
  | [] => []
  | x :: l => spoilt keep k x ++ tailFrom keep (k + 1) l
theorem tailFrom_range (keep : List Bool) (k : Nat) (l : List ByteArray) : ((List.range l.length).map fun i => spoilt keep (k + i) (l.getD i ByteArray.empty)).flatten = tailFrom keep k l := by
  induction l generalizing k with
  | nil => rfl
  | cons x l ih =>
    rw [List.length_cons, List.range_succ_eq_map, List.map_cons, List.flatten_cons, List.map_map, tailFrom, ← ih (k + 1)]
    congr 2
    apply List.map_congr_left
    intro i _
    show spoilt keep (k + (i + 1)) ((x :: l).getD (i + 1) _) = _
    rw [List.getD_cons_succ, show k + (i + 1) = k + 1 + i by omega]
theorem tailTo_from (keep : List Bool) (l : List ByteArray) : tailTo l keep l.length = tailFrom keep 0 l := by
  rw [← tailFrom_range]
  unfold tailTo
  simp only [Nat.zero_add]
def spoil1 (keep : List Bool) (c : UInt8) (p : Nat) : UInt8 := if keep.getD (p - 1) false = false then 0 else c
theorem spoil_piece (keep : List Bool) (k : Nat) (x : ByteArray) : List.zipWith (spoil1 keep) x.data.toList (List.replicate x.size (k + 1)) = spoilt keep k x := by
  rw [← all_size x]
  unfold spoilt
  rw [← all_size x]
  generalize x.data.toList = l
  induction l with
  | nil => split <;> rfl
  | cons c l ih =>
    rw [List.length_cons, List.replicate_succ, List.zipWith_cons_cons, ih]
    by_cases h : keep.getD k false = true
    · rw [if_pos h, if_pos h]
      show spoil1 keep c (k + 1) :: l = _
      unfold spoil1
      rw [Nat.add_sub_cancel, h]; rfl
    · rw [if_neg h, if_neg h, List.replicate_succ]
      unfold spoil1
      rw [Nat.add_sub_cancel, if_pos (by simpa using h)]
theorem spoil_tail (keep : List Bool) (k : Nat) (l : List ByteArray) : List.zipWith (spoil1 keep) (l.map (·.data.toList)).flatten (piecesFrom (k + 1) l) = tailFrom keep k l := by
  induction l generalizing k with
  | nil => rfl
  | cons x l ih =>
    rw [List.map_cons, List.flatten_cons, piecesFrom, tailFrom, List.zipWith_append (by rw [List.length_replicate, all_size]), spoil_piece, ih]
theorem spoilB_zip (r : RSt) (keep : List Bool) (n : Nat) (hn : n ≤ r.b.length) (hp : r.piece.length = r.b.length) : spoilB r keep n r.b.length = r.b.take n ++ List.zipWith (spoil1 keep) (r.b.drop n) (r.piece.drop n) := by
  apply List.ext_getElem?
  intro i
  by_cases hi : i < r.b.length
  · rw [spoilB_get r keep n _ i hi]
    by_cases hin : i < n
    · rw [if_neg (by omega), List.getElem?_append_left (by rw [List.length_take]; omega), List.getElem?_take, if_pos hin, List.getD_eq_getElem?_getD, List.getElem?_eq_getElem hi]; rfl
    · rw [List.getElem?_append_right (by rw [List.length_take]; omega), List.length_take, Nat.min_eq_left hn, List.getElem?_zipWith, List.getElem?_drop, List.getElem?_drop, show n + (i - n) = i by omega, List.getElem?_eq_getElem hi, List.getElem?_eq_getElem (by omega)]
      simp only
      unfold spoil1
      rw [List.getD_eq_getElem?_getD (l := r.piece), List.getElem?_eq_getElem (by omega), List.getD_eq_getElem?_getD (l := r.b), List.getElem?_eq_getElem hi]
      simp only [Option.getD_some]
      by_cases hk : keep.getD (r.piece[i] - 1) false = false
      · rw [if_pos hk, if_pos ⟨by omega, hi, hk⟩]
      · rw [if_neg hk, if_neg (fun a => hk a.2.2)]
  · rw [spoilB_none r keep n _ i (by omega), List.getElem?_eq_none (by rw [List.length_append, List.length_take, List.length_zipWith, List.length_drop, List.length_drop]; omega)]
theorem rOf_crashB (s : DSt) (keep : List Bool) (cut : Int) : crashB (rOf s) keep cut = s.lasts.data.toList ++ crashTail s keep cut := by
  have ha : s.all.length = s.lasts.data.toList.length + s.tail.length := List.length_append
  have hl : s.lasts.data.toList.length = s.lasts.size := all_size _
  have hz : zeros (rOf s).piece = s.lasts.size := zeros_pieceOf s
  have hb : spoilB (rOf s) keep s.lasts.size (rOf s).b.length = s.lasts.data.toList ++ tailTo s.pieces keep s.pieces.length := by
    rw [spoilB_zip (rOf s) keep s.lasts.size (by show _ ≤ s.all.length; omega) (pieceOf_length s), tailTo_from, ← spoil_tail]
    show s.all.take _ ++ List.zipWith _ (s.all.drop _) ((pieceOf s).drop _) = _
    have e1 : s.all.take s.lasts.size = s.lasts.data.toList := by unfold DSt.all; rw [← hl]; exact List.take_left
    have e2 : s.all.drop s.lasts.size = s.tail := by unfold DSt.all; rw [← hl]; exact List.drop_left
    have e3 : (pieceOf s).drop s.lasts.size = piecesFrom 1 s.pieces := by
      unfold pieceOf
      have : (List.replicate s.lasts.size 0).length = s.lasts.size := List.length_replicate
      conv => lhs; rw [← this]
      exact List.drop_left' (by simp)
    rw [e1, e2, e3]
    rfl
  have ht : (tailTo s.pieces keep s.pieces.length).length = s.tail.length := by rw [tailTo_length _ _ _ (Nat.le_refl _), List.take_length, tail_length]
  unfold crashB crashTail
  simp only
  rw [hz, hb, ht]
  show (if 0 ≤ cut ∧ cut < (s.all.length : Int) - (s.lasts.size : Nat) then _ else _) = _
  by_cases hc : 0 ≤ cut ∧ cut < (s.tail.length : Int)
  · rw [if_pos hc, if_pos (by omega), ← hl, List.take_length_add_append]
  · rw [if_neg hc, if_neg (by omega)]
theorem rOf_crash (s : DSt) (keep : List Bool) (cut : Int) : (rOf s).crash keep cut = rOf (s.crash keep cut) := by
  unfold RSt.crash
  rw [rOf_crashB]
  have e : s.crash keep cut = (⟨-1, false, s.lasts, s.pieces, s.cap⟩ : DSt).only ⟨(s.lasts.data.toList ++ crashTail s keep cut).toArray⟩ := rfl
  rw [e, rOf_only]
  rfl
end Go.Proofs.Ytpnmhpkpkejdiaa
