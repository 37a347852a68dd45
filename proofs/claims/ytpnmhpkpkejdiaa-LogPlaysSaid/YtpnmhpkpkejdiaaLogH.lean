/- Layer 15, in plain words: what LogPlays plays, and what always holds of it. -/
import Derived.Test.YtpnmhpkpkejdiaaLogG
import Derived.Test.YtpnmhpkpkejdiaaSumNoughts
namespace Go.Proofs.Ytpnmhpkpkejdiaa

theorem burnt_zero {s : DSt} (hl : s.left = 0) : s.burnt = ⟨-1, true, s.lasts, s.pieces, s.cap⟩ := by unfold DSt.burnt; rw [if_pos hl]
theorem burnt_down {s : DSt} (hl : s.left ≠ 0) : s.burnt.down = s.down := by
  unfold DSt.burnt
  rw [if_neg hl]
  split <;> rfl
/-- records, and what is no frame behind them, opened, a fuse of nought -/
theorem open_zero {s : DSt} (hd : s.down = false) (hl : s.left = 0) (hb : s.bytes.size ≤ 100000000) : openD s = (8, ⟨-1, true, s.lasts, s.pieces, s.cap⟩) := by
  have hrl : recLen s.bytes ≤ s.bytes.size := Nat.sub_le _ _
  have hbs := bytes_size s
  unfold openD
  rw [if_neg (show ¬ s.down = true by rw [hd]; decide)]
  by_cases hlt : recLen s.bytes < s.bytes.size
  · rw [if_pos hlt]
    generalize recLen s.bytes = q at *
    unfold DSt.trunc
    rw [if_neg (show ¬ s.down = true by rw [hd]; decide), if_neg (show ¬ ((q : Int) < 0 ∨ (s.all.length : Int) < (q : Int)) by omega), if_pos hl, burnt_zero hl]
  · rw [if_neg hlt]
    unfold DSt.sync
    rw [if_neg (show ¬ s.down = true by rw [hd]; decide), if_pos hl, burnt_zero hl]
/-- .. any other fuse -/
theorem open_left {s : DSt} (ls : List ByteArray) (j : List UInt8) (hd : s.down = false) (hl : s.left ≠ 0) (h : ∀ x ∈ ls, x.size ≤ 1048576) (ha : s.all = bytesL ls ++ j) (hj : (openL j).2.2 ≠ 0) :
    openD s = (0, ⟨s.burnt.left, false, txt (bytesL ls), [], s.cap⟩) ∧ recsOf s.bytes = ls := by
  have hr := recs_frames ls s.bytes j h (by rw [bytes_data, ha]) hj
  refine ⟨?_, hr.1⟩
  obtain ⟨b1, b2, b3, b4⟩ := burnt_parts s
  have bd := burnt_down hl
  have hal : s.all.length = (bytesL ls).length + j.length := by rw [ha, List.length_append]
  have e1 : s.all.take (bytesL ls).length = bytesL ls := by rw [ha]; exact List.take_left
  have ho : openD s = if recLen s.bytes < s.bytes.size then s.trunc (recLen s.bytes : Nat) else s.sync := by
    unfold openD
    exact if_neg (by rw [hd]; decide)
  rw [ho, hr.2.2, bytes_size]
  have hx := bytes_take s (bytesL ls).length (by omega)
  rw [e1] at hx
  have hbd := bytes_data s
  have ht : s.trunc ((bytesL ls).length : Nat) = (0, s.burnt.only (s.bytes.extract 0 (bytesL ls).length)) := by
    unfold DSt.trunc
    rw [if_neg (show ¬ s.down = true by rw [hd]; decide), if_neg (show ¬ (((bytesL ls).length : Int) < 0 ∨ (s.all.length : Int) < ((bytesL ls).length : Int)) by omega), if_neg hl]
    exact congrArg (fun k => ((0 : Int), s.burnt.only (s.bytes.extract 0 k))) (Int.toNat_natCast _)
  have hsy : s.sync = (0, s.burnt.only s.bytes) := by
    unfold DSt.sync
    rw [if_neg (show ¬ s.down = true by rw [hd]; decide), if_neg hl]
  by_cases hlt : (bytesL ls).length < s.all.length
  · rw [if_pos hlt, ht]
    generalize s.bytes.extract 0 (bytesL ls).length = y at *
    have ey : y = txt (bytesL ls) := by rw [← hx]; exact (txt_of y).symm
    rw [ey]
    unfold DSt.only
    rw [bd, hd, b3]
  · have hj0 : j = [] := List.eq_nil_of_length_eq_zero (by omega)
    rw [if_neg hlt, hsy]
    have ey : s.bytes = txt (bytesL ls) := by
      rw [ha, hj0, List.append_nil] at hbd
      rw [← hbd]; exact (txt_of _).symm
    rw [ey]
    unfold DSt.only
    rw [bd, hd, b3]

/-- what always holds -/
structure PlayInv (c : Int) (s : DSt) (has might : List ByteArray) : Prop where
  cap : s.cap = c
  c1 : c ≤ 65535
  l0 : -1 ≤ s.left
  l1 : s.left ≤ 9223372036854775807
  lasts : s.lasts = txt (bytesL has)
  fits : ((bytesL has).length : Int) ≤ c
  small : ∀ x ∈ has, x.size ≤ 65535
  up : s.down = false → s.pieces = [] ∧ might = has
  dn : s.down = true → ∃ z : ByteArray, might = has ++ [z] ∧ (s.pieces = [] ∨ s.pieces = [txt (frameL z.data.toList)]) ∧ ((bytesL has).length : Int) + 8 + (z.size : Nat) ≤ c
theorem PlayInv.all_up {c : Int} {s : DSt} {has might : List ByteArray} (h : PlayInv c s has might) (hd : s.down = false) : s.all = bytesL has := by
  have e : s.tail = [] := by unfold DSt.tail; rw [(h.up hd).1]; rfl
  unfold DSt.all
  rw [e, List.append_nil, h.lasts, txt_data]
theorem PlayInv.ok {c : Int} {s : DSt} {has might : List ByteArray} (h : PlayInv c s has might) : DOk 1 s := by
  have hc : (0 : Int) ≤ c := by have := h.fits; omega
  have hc1 := h.c1
  have hcap := h.cap
  cases hd : s.down with
  | false => exact ⟨by omega, by omega, by rw [h.all_up hd, hcap]; exact h.fits, by rw [(h.up hd).1]; simp, h.l0, h.l1⟩
  | true =>
    obtain ⟨z, _, hp, hz⟩ := h.dn hd
    have e : s.all = bytesL has ++ s.tail := by unfold DSt.all; rw [h.lasts, txt_data]
    rcases hp with hp | hp
    · have e2 : s.tail = [] := by unfold DSt.tail; rw [hp]; rfl
      exact ⟨by omega, by omega, by rw [e, e2, List.append_nil, hcap]; exact h.fits, by rw [hp]; simp, h.l0, h.l1⟩
    · have e2 : s.tail = frameL z.data.toList := by
        unfold DSt.tail; rw [hp]
        show (txt (frameL z.data.toList)).data.toList ++ [] = _
        rw [List.append_nil, txt_data]
      exact ⟨by omega, by omega, by rw [e, e2, hcap, List.length_append, frameL_length, all_size]; omega, by rw [hp]; simp, h.l0, h.l1⟩
theorem play_start (c : Int) (h : 0 ≤ c ∧ c ≤ 65535) : PlayInv c (stClean c []) [] [] :=
  ⟨rfl, h.2, by show (-1 : Int) ≤ -1; omega, by show (-1 : Int) ≤ _; omega, rfl, by simp [bytesL, framesOf]; exact h.1, by simp, fun _ => ⟨rfl, rfl⟩, fun a => by cases a⟩
theorem play_fuse {c : Int} {s : DSt} {has might : List ByteArray} (h : PlayInv c s has might) (n : Int) (hn : n ≤ 9223372036854775807) : PlayInv c (s.fuse n) has might :=
  ⟨h.cap, h.c1, by show -1 ≤ max n (-1); omega, by show max n (-1) ≤ _; omega, h.lasts, h.fits, h.small, h.up, h.dn⟩
theorem more_bytes (has : List ByteArray) (x : ByteArray) : (bytesL (has ++ [x])).length = (bytesL has).length + (x.size + 8) := by rw [bytesL_snoc, List.length_append, frameL_length, all_size]
/-- appending: what may become of it -/
theorem play_app {c : Int} {s : DSt} {has might : List ByteArray} (h : PlayInv c s has might) (x : ByteArray) :
    (s.down = true ∧ appD s x = (8, s)) ∨ (s.down = false ∧ c < ((bytesL has).length : Int) + 8 + (x.size : Nat) ∧ appD s x = (7, s)) ∨
    (s.down = false ∧ ((bytesL has).length : Int) + 8 + (x.size : Nat) ≤ c ∧ ∃ s', appD s x = (8, s') ∧ s'.down = true ∧ PlayInv c s' has (has ++ [x])) ∨
    (s.down = false ∧ ((bytesL has).length : Int) + 8 + (x.size : Nat) ≤ c ∧ ∃ s', appD s x = (0, s') ∧ s'.down = false ∧ PlayInv c s' (has ++ [x]) (has ++ [x])) := by
  have hfs := txt_frame_size x
  have hcap := h.cap
  obtain ⟨b1, b2, b3, b4⟩ := burnt_parts s
  cases hd : s.down with
  | true =>
    left
    refine ⟨rfl, ?_⟩
    have e : s.append (txt (frameL x.data.toList)) = (8, s) := by unfold DSt.append; rw [if_pos hd]
    unfold appD
    rw [e]
    exact if_neg (show ¬ ((8 : Int) = 0) by decide)
  | false =>
    right
    have ha := h.all_up hd
    have hnd : ¬ s.down = true := by rw [hd]; decide
    by_cases hf : c < ((bytesL has).length : Int) + 8 + (x.size : Nat)
    · left
      refine ⟨rfl, hf, ?_⟩
      have e : s.append (txt (frameL x.data.toList)) = (7, s) := append_full hd (by rw [ha, hfs, hcap]; omega)
      unfold appD
      rw [e]
      exact if_neg (show ¬ ((7 : Int) = 0) by decide)
    · right
      have hfit : ((bytesL has).length : Int) + 8 + (x.size : Nat) ≤ c := by omega
      have hroom : ¬ s.cap - (s.all.length : Int) < ((txt (frameL x.data.toList)).size : Nat) := by rw [ha, hfs, hcap]; omega
      have hsz : x.size ≤ 65535 := by have := h.c1; omega
      by_cases hl0 : s.left = 0
      · left
        refine ⟨rfl, hfit, ⟨-1, true, s.lasts, s.pieces, s.cap⟩, ?_, rfl, ?_⟩
        · have e : s.append (txt (frameL x.data.toList)) = (8, ⟨-1, true, s.lasts, s.pieces, s.cap⟩) := by
            unfold DSt.append
            rw [if_neg hnd, if_neg hroom, if_pos hl0, burnt_zero hl0]
          unfold appD
          rw [e]
          exact if_neg (show ¬ ((8 : Int) = 0) by decide)
        · exact ⟨hcap, h.c1, by show (-1 : Int) ≤ -1; omega, by show (-1 : Int) ≤ _; omega, h.lasts, h.fits, h.small, fun a => (by cases a), fun _ => ⟨x, rfl, .inl (h.up hd).1, hfit⟩⟩
      · have e : s.append (txt (frameL x.data.toList)) = (0, s.burnt.more (txt (frameL x.data.toList))) := by
          unfold DSt.append
          rw [if_neg hnd, if_neg hroom, if_neg hl0, if_neg (frame_ne x)]
        have bd := burnt_down hl0
        obtain ⟨s1, hs1⟩ : ∃ s1, s.burnt.more (txt (frameL x.data.toList)) = s1 := ⟨_, rfl⟩
        have p1 : s1.lasts = txt (bytesL has) ∧ s1.pieces = [txt (frameL x.data.toList)] ∧ s1.cap = c ∧ s1.down = false ∧ s1.left = s.burnt.left := by
          rw [← hs1]
          refine ⟨b1.trans h.lasts, ?_, b3.trans hcap, bd.trans hd, rfl⟩
          show s.burnt.pieces ++ [_] = _
          rw [b2, (h.up hd).1]; rfl
        have a1 : s1.all = bytesL (has ++ [x]) := by rw [← hs1, more_frame_all, b4, ha, bytesL_snoc]
        rw [hs1] at e
        have hap : appD s x = s1.sync := by
          unfold appD
          rw [e]
          exact if_pos rfl
        rw [hap]
        have hlb : -1 ≤ s.burnt.left ∧ s.burnt.left ≤ 9223372036854775807 := by
          have := h.ok.burnt
          exact ⟨this.l0, this.l1⟩
        by_cases hl1 : s1.left = 0
        · left
          refine ⟨rfl, hfit, ⟨-1, true, s1.lasts, s1.pieces, s1.cap⟩, ?_, rfl, ?_⟩
          · unfold DSt.sync
            rw [if_neg (show ¬ s1.down = true by rw [p1.2.2.2.1]; decide), if_pos hl1, burnt_zero hl1]
          · exact ⟨p1.2.2.1, h.c1, by show (-1 : Int) ≤ -1; omega, by show (-1 : Int) ≤ _; omega, p1.1, h.fits, h.small, fun a => (by cases a), fun _ => ⟨x, rfl, .inr p1.2.1, hfit⟩⟩
        · right
          have hs1b := burnt_parts s1
          have hbl : -1 ≤ s1.burnt.left ∧ s1.burnt.left ≤ 9223372036854775807 := by
            unfold DSt.burnt
            rw [if_neg hl1]
            split
            · show -1 ≤ s1.left - 1 ∧ s1.left - 1 ≤ _
              omega
            · show -1 ≤ s1.left ∧ s1.left ≤ _
              omega
          refine ⟨rfl, hfit, s1.burnt.only s1.bytes, ?_, ?_, ?_⟩
          · unfold DSt.sync
            rw [if_neg (show ¬ s1.down = true by rw [p1.2.2.2.1]; decide), if_neg hl1]
          · exact (burnt_down hl1).trans p1.2.2.2.1
          · refine ⟨hs1b.2.2.1.trans p1.2.2.1, h.c1, hbl.1, hbl.2, ?_, by rw [more_bytes]; omega, ?_, fun _ => ⟨rfl, rfl⟩, fun a => ?_⟩
            · show s1.bytes = _
              unfold DSt.bytes
              rw [a1]; rfl
            · intro y hy
              rcases List.mem_append.1 hy with hy | hy
              · exact h.small y hy
              · rw [List.mem_singleton.1 hy]; exact hsz
            · have e9 : (s1.burnt.only s1.bytes).down = false := (burnt_down hl1).trans p1.2.2.2.1
              rw [e9] at a; cases a
theorem crash_nopieces (s : DSt) (hp : s.pieces = []) (keep : List Bool) (cut : Int) : s.crash keep cut = ⟨-1, false, s.lasts, [], s.cap⟩ := by
  have e : crashTail s keep cut = [] := by
    have := crashTail_le s keep cut
    have h0 : s.tail = [] := by unfold DSt.tail; rw [hp]; rfl
    rw [h0] at this
    exact List.eq_nil_of_length_eq_zero (by simpa using this)
  unfold DSt.crash
  rw [e, List.append_nil, bytes_toList]
theorem open_zeros (m : Nat) : (openL (List.replicate m 0)).2.2 ≠ 0 := by
  obtain ⟨k, hk, h0⟩ := openL_noughts m
  rw [hk]; exact h0
/-- a crash: what may be there -/
theorem play_crash {c : Int} {s : DSt} {has might : List ByteArray} (h : PlayInv c s has might) (keep : List Bool) (cut : Int) :
    ∃ got j, (got = has ∨ got = might) ∧ (∀ x ∈ got, x.size ≤ 65535) ∧ ((bytesL got).length : Int) ≤ c ∧ (s.crash keep cut).lasts.data.toList = bytesL got ++ j ∧ (openL j).2.2 ≠ 0 := by
  have none : s.pieces = [] → (s.crash keep cut).lasts.data.toList = bytesL has ++ [] := fun hp => by
    rw [crash_nopieces s hp, List.append_nil]
    show s.lasts.data.toList = _
    rw [h.lasts, txt_data]
  cases hd : s.down with
  | false => exact ⟨has, [], .inl rfl, h.small, h.fits, none (h.up hd).1, open_nil⟩
  | true =>
    obtain ⟨z, hm, hp, hz⟩ := h.dn hd
    have hzs : z.size ≤ 65535 := by have := h.c1; omega
    rcases hp with hp | hp
    · exact ⟨has, [], .inl rfl, h.small, h.fits, none hp, open_nil⟩
    · have hla : (s.crash keep cut).lasts.data.toList = bytesL has ++ crashTail s keep cut := by
        show (⟨(s.lasts.data.toList ++ crashTail s keep cut).toArray⟩ : ByteArray).data.toList = _
        rw [h.lasts, txt_data]
      have ht : tailTo s.pieces keep s.pieces.length = spoilt keep 0 (txt (frameL z.data.toList)) := by
        rw [hp]
        show (spoilt keep 0 _ ++ [] : List UInt8) = _
        rw [List.append_nil]
        rfl
      have hct : crashTail s keep cut = if 0 ≤ cut ∧ cut < ((spoilt keep 0 (txt (frameL z.data.toList))).length : Int) then (spoilt keep 0 (txt (frameL z.data.toList))).take cut.toNat else spoilt keep 0 (txt (frameL z.data.toList)) := by
        unfold crashTail
        simp only
        rw [ht]
      have hfl : (frameL z.data.toList).length = z.size + 8 := by rw [frameL_length, all_size]
      by_cases hk : keep.getD 0 false = true
      · have hsp : spoilt keep 0 (txt (frameL z.data.toList)) = frameL z.data.toList := by
          unfold spoilt
          rw [if_pos hk, txt_data]
        rw [hsp] at hct
        by_cases hc : 0 ≤ cut ∧ cut < ((frameL z.data.toList).length : Int)
        · rw [if_pos hc] at hct
          refine ⟨has, (frameL z.data.toList).take cut.toNat, .inl rfl, h.small, h.fits, by rw [hla, hct], frame_prefix _ _ (by rw [all_size]; omega) (by rw [all_size]; omega)⟩
        · rw [if_neg hc] at hct
          refine ⟨has ++ [z], [], .inr hm.symm, fun y hy => ?_, by rw [more_bytes]; omega, by rw [hla, hct, bytesL_snoc, List.append_nil], open_nil⟩
          rcases List.mem_append.1 hy with hy | hy
          · exact h.small y hy
          · rw [List.mem_singleton.1 hy]; exact hzs
      · have hsp : spoilt keep 0 (txt (frameL z.data.toList)) = List.replicate (txt (frameL z.data.toList)).size 0 := by
          unfold spoilt
          rw [if_neg hk]
        rw [hsp] at hct
        obtain ⟨q, hq⟩ : ∃ q, crashTail s keep cut = List.replicate q 0 := by
          rw [hct]
          split
          · exact ⟨_, List.take_replicate⟩
          · exact ⟨_, rfl⟩
        exact ⟨has, List.replicate q 0, .inl rfl, h.small, h.fits, by rw [hla, hq], open_zeros q⟩
theorem clean_fuse (c : Int) (ls : List ByteArray) : (stClean c ls).fuse (-1) = stClean c ls := rfl
theorem clean_inv {c : Int} (ls : List ByteArray) (hc : c ≤ 65535) (h1 : ((bytesL ls).length : Int) ≤ c) (h2 : ∀ x ∈ ls, x.size ≤ 65535) : PlayInv c (stClean c ls) ls ls :=
  ⟨rfl, hc, by show (-1 : Int) ≤ -1; omega, by show (-1 : Int) ≤ _; omega, rfl, h1, h2, fun _ => ⟨rfl, rfl⟩, fun a => by cases a⟩
/-- a crash, a fuse, and the log opened: as often as it takes -/
theorem play_reopen {c : Int} {s : DSt} {has might : List ByteArray} (h : PlayInv c s has might) (keep : List Bool) (cut n : Int) (hn : n ≤ 9223372036854775807) :
    ∃ got, (got = has ∨ got = might) ∧ PlayInv c (stClean c got) got got ∧ DOk 1 ((s.crash keep cut).fuse n) ∧ ((s.crash keep cut).fuse n).all.length ≤ 1000000 ∧ recsOf ((s.crash keep cut).fuse n).bytes = got ∧
      ((∃ s4, openD ((s.crash keep cut).fuse n) = (0, s4) ∧ s4.fuse (-1) = stClean c got) ∨
       (∃ s2, openD ((s.crash keep cut).fuse n) = (8, s2) ∧ DOk 1 s2 ∧ DOk 1 (s2.crash keep cut) ∧ (s2.crash keep cut).all.length ≤ 1000000 ∧ recsOf (s2.crash keep cut).bytes = got ∧ openD (s2.crash keep cut) = (0, stClean c got))) := by
  obtain ⟨got, j, hg, hsm, hft, hla, hj⟩ := play_crash h keep cut
  have hsm2 : ∀ x ∈ got, x.size ≤ 1048576 := fun x hx => by have := hsm x hx; omega
  have hok := crash_ok h.ok keep cut
  have hcap : (s.crash keep cut).cap = c := h.cap
  have hc1 := h.c1
  obtain ⟨s1, hs1⟩ : ∃ s1, s.crash keep cut = s1 := ⟨_, rfl⟩
  have p1 : s1.pieces = [] ∧ s1.down = false := by rw [← hs1]; exact ⟨rfl, rfl⟩
  rw [hs1] at hla hok hcap ⊢
  have ha : (s1.fuse n).all = bytesL got ++ j := by
    have e : (s1.fuse n).tail = [] := by show (s1.pieces.map _).flatten = []; rw [p1.1]; rfl
    unfold DSt.all
    rw [e, List.append_nil]
    exact hla
  have hfo : DOk 1 (s1.fuse n) := (fuse_ok hok n hn).mono (by omega)
  have hal : (s1.fuse n).all.length ≤ 1000000 := by
    have h1 := hfo.all
    have h2 : (s1.fuse n).cap = c := hcap
    rw [h2] at h1
    omega
  refine ⟨got, hg, clean_inv got hc1 hft hsm, hfo, hal, ?_, ?_⟩
  · exact (recs_frames got (s1.fuse n).bytes j hsm2 (by rw [bytes_data, ha]) hj).1
  · by_cases hl : (s1.fuse n).left = 0
    · right
      refine ⟨⟨-1, true, s1.lasts, s1.pieces, s1.cap⟩, open_zero (s := s1.fuse n) p1.2 hl (by rw [bytes_size]; omega), ?_, ?_⟩
      · exact ⟨hfo.c0, hfo.c1, hfo.all, hfo.pieces, by show (-1 : Int) ≤ -1; omega, by show (-1 : Int) ≤ _; omega⟩
      · have ec : (⟨-1, true, s1.lasts, s1.pieces, s1.cap⟩ : DSt).crash keep cut = ⟨-1, false, s1.lasts, [], s1.cap⟩ := crash_nopieces _ p1.1 keep cut
        rw [ec]
        have ha2 : (⟨-1, false, s1.lasts, [], s1.cap⟩ : DSt).all = bytesL got ++ j := by
          show s1.lasts.data.toList ++ [] = _
          rw [List.append_nil]; exact hla
        have ho := open_tail (s := ⟨-1, false, s1.lasts, [], s1.cap⟩) got j rfl rfl hsm2 ha2 hj
        have hlen : (bytesL got ++ j).length = (s1.fuse n).all.length := by rw [ha]
        refine ⟨⟨hfo.c0, hfo.c1, ?_, by simp, by show (-1 : Int) ≤ -1; omega, by show (-1 : Int) ≤ _; omega⟩, by rw [ha2, hlen]; exact hal, ho.2, ?_⟩
        · rw [ha2, hlen]; exact hfo.all
        · rw [ho.1]
          show ((0 : Int), stClean s1.cap got) = _
          rw [hcap]
    · left
      have ho := (open_left (s := s1.fuse n) got j p1.2 hl hsm2 ha hj).1
      refine ⟨_, ho, ?_⟩
      unfold DSt.fuse stClean
      simp only
      rw [show s1.cap = c from hcap]
      congr 1
end Go.Proofs.Ytpnmhpkpkejdiaa
