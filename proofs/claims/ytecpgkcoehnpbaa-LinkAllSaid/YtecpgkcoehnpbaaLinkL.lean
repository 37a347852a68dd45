/- Layer 17, in plain words: if packets come, in any order, and are popped, and ticks go on, all that was sent has come after 40 rounds. -/
import Derived.Test.YtecpgkcoehnpbaaLinkP
namespace Go.Proofs.Ytecpgkcoehnpbaa

/-- is it a load? -/
def dat (p : Pk) : Bool := decide (p.back ≠ 1)
def nDat (l : List Pk) : Nat := l.countP dat
theorem nDat_append (a b : List Pk) : nDat (a ++ b) = nDat a + nDat b := List.countP_append ..
theorem nDat_le (l : List Pk) : nDat l ≤ l.length := List.countP_le_length
theorem nDat_cut (l : List Pk) : nDat (cutPks l) ≤ nDat l := (List.drop_sublist _ _).countP_le
theorem split_at {l : List Pk} {k : Nat} {x : Pk} (h : l[k]? = some x) : l = l.take k ++ x :: l.drop (k + 1) := by
  obtain ⟨hk, hx⟩ := List.getElem?_eq_some_iff.1 h
  rw [← hx, List.getElem_cons_drop, List.take_append_drop]
theorem nDat_erase {l : List Pk} {k : Nat} {x : Pk} (h : l[k]? = some x) : nDat (l.eraseIdx k) + (if dat x then 1 else 0) = nDat l := by
  have e : nDat l = nDat (l.take k ++ x :: l.drop (k + 1)) := by rw [← split_at h]
  rw [e, List.eraseIdx_eq_take_drop_succ, nDat_append, nDat_append]
  show _ = _ + List.countP dat (x :: _)
  rw [List.countP_cons]
  show _ + nDat _ + _ = _ + (nDat _ + _)
  omega
theorem mem_erase {l : List Pk} {k : Nat} {x p : Pk} (h : l[k]? = some x) (hp : p ∈ l) : p = x ∨ p ∈ l.eraseIdx k := by
  rw [split_at h] at hp
  rw [List.eraseIdx_eq_take_drop_succ]
  simp only [List.mem_append, List.mem_cons] at hp ⊢
  rcases hp with hp | hp | hp
  · exact .inr (.inl hp)
  · exact .inl hp
  · exact .inr (.inr hp)

/-- a load of number q is on its way -/
def nextIn (s : PSt) (q : Int) : Prop := ∃ p ∈ s.l, p.back ≠ 1 ∧ p.seq = q
/-- a load, or the last acknowledgement, is on its way -/
def finalIn (s : PSt) : Prop := ∃ p ∈ s.l, p.back ≠ 1 ∨ p.ack = s.o.last

/-- what one packet that comes leaves -/
structure Came (s s' : PSt) : Prop where
  len : s.l.length ≤ s'.l.length + 1
  pot : nDat s'.l + s'.l.length + 1 ≤ nDat s.l + s.l.length
  sent : s'.sent = s.sent
  got : s'.got = s.got
  ticks : s'.o.ticks = s.o.ticks
  last : s'.o.last = s.o.last
  waits : s.o.waits = [] → s'.o.waits = []
  loads : s.i.loads ≠ [] → s'.i.loads ≠ []
  next : s.i.loads = [] → nextIn s (s.got.length + 1) → s'.i.loads ≠ [] ∨ nextIn s' (s.got.length + 1)
  fin : s.got.length = s.sent.length → finalIn s → s'.o.waits = [] ∨ finalIn s'

theorem came {N : Nat} {s : PSt} (hi : Inv N s) {k : Nat} (hk : k < s.l.length) : Came s (s.comes (k : Int)) := by
  obtain ⟨x, hx⟩ : ∃ x, s.l[k]? = some x := ⟨_, List.getElem?_eq_getElem hk⟩
  have e : s.comes (k : Int) = s.got1 k x := by
    unfold PSt.comes
    rw [if_neg (by omega), Int.toNat_natCast, hx]
  rw [e]
  have hle : (s.l.eraseIdx k).length = s.l.length - 1 := List.length_eraseIdx_of_lt hk
  have hd := nDat_erase hx
  have h64 := hi.wire
  unfold PSt.got1
  by_cases hb : x.back = 1
  · rw [if_pos hb]
    have hdx : dat x = false := by simp [dat, hb]
    rw [hdx] at hd
    refine ⟨by simp only; omega, by simp only; simp at hd; omega, rfl, rfl, rfl, rfl, fun h => ?_, fun h => h, fun _ ⟨p, hp, h1, h2⟩ => .inr ⟨p, ?_, h1, h2⟩, fun hg ⟨p, hp, h⟩ => ?_⟩
    · simp [outAck, h]
    · rcases mem_erase hx hp with rfl | h
      · exact absurd hb h1
      · exact h
    · rcases mem_erase hx hp with rfl | hm
      · left
        have hack : p.ack = s.o.last := h.resolve_left fun h => h hb
        simp only [outAck]
        rw [hack, List.drop_eq_nil_iff]
        omega
      · exact .inr ⟨p, hm, h⟩
  · rw [if_neg hb]
    have hdx : dat x = true := by simp [dat, hb]
    rw [hdx] at hd
    simp only [if_true] at hd
    have hal : (inAcks s.i x).length ≤ 1 := by unfold inAcks; split <;> simp
    have had : nDat (inAcks s.i x) = 0 := by unfold inAcks; split <;> rfl
    have hcut : cutPks (s.l.eraseIdx k ++ inAcks s.i x) = s.l.eraseIdx k ++ inAcks s.i x := cutPks_id _ (by rw [List.length_append]; omega)
    rw [hcut]
    have hlen : (s.l.eraseIdx k ++ inAcks s.i x).length = s.l.length - 1 + (inAcks s.i x).length := by rw [List.length_append, hle]
    have hnd : nDat (s.l.eraseIdx k ++ inAcks s.i x) = nDat (s.l.eraseIdx k) := by rw [nDat_append, had]; rfl
    refine ⟨by simp only [hlen]; omega, by simp only [hlen, hnd]; omega, rfl, rfl, rfl, rfl, fun h => h, fun h => ?_, fun h0 ⟨p, hp, h1, h2⟩ => ?_, fun hg ⟨p, hp, h⟩ => .inr ?_⟩
    · simp only [inTook]
      split
      · exact h
      · simp only; split
        · simp
        · exact h
    · by_cases hq : x.seq = s.got.length + 1
      · left
        have e1 := hi.out
        have hnf : ¬ inFull s.i x := fun y => by have := y.2; rw [h0] at this; cases this
        have hs : x.seq = s.i.out + s.i.loads.length + 1 := by rw [h0]; simp; omega
        simp only [inTook]
        rw [if_neg hnf]
        simp only
        rw [if_pos hs]
        simp
      · right
        refine ⟨p, List.mem_append_left _ ?_, h1, h2⟩
        rcases mem_erase hx hp with rfl | h
        · exact absurd h2 hq
        · exact h
    · have e1 := hi.gl
      have h0 : s.i.loads.length = 0 := by omega
      have hnf : ¬ inFull s.i x := fun y => by have := y.2; omega
      have ha : inAcks s.i x = [ackOf s.i] := if_neg hnf
      refine ⟨ackOf s.i, ?_, .inr ?_⟩
      · simp only [ha]; simp
      · have e2 := hi.out; have e3 := hi.last
        simp only [ackOf]; omega

/-- n packets come, whichever -/
def Steps : Nat → PSt → PSt → Prop
  | 0, s, s' => s' = s
  | n + 1, s, s' => ∃ s1 k, Steps n s s1 ∧ k < s1.l.length ∧ s' = s1.comes ((k : Nat) : Int)
structure Went (n : Nat) (s s' : PSt) : Prop where
  len : s.l.length ≤ s'.l.length + n
  pot : nDat s'.l + s'.l.length + n ≤ nDat s.l + s.l.length
  sent : s'.sent = s.sent
  got : s'.got = s.got
  ticks : s'.o.ticks = s.o.ticks
  last : s'.o.last = s.o.last
  waits : s.o.waits = [] → s'.o.waits = []
  loads : s.i.loads ≠ [] → s'.i.loads ≠ []
  next : s.i.loads = [] → nextIn s (s.got.length + 1) → s'.i.loads ≠ [] ∨ nextIn s' (s.got.length + 1)
  fin : s.got.length = s.sent.length → finalIn s → s'.o.waits = [] ∨ finalIn s'
theorem Steps.inv {N n : Nat} {s s' : PSt} (hi : Inv N s) (h : Steps n s s') : Inv N s' := by
  induction n generalizing s' with
  | zero => rw [show s' = s from h]; exact hi
  | succ n ih =>
    obtain ⟨s1, k, h1, _, rfl⟩ := h
    exact (ih h1).comes _
theorem Steps.went {N n : Nat} {s s' : PSt} (hi : Inv N s) (h : Steps n s s') : Went n s s' := by
  induction n generalizing s' with
  | zero =>
    obtain rfl : s' = s := h
    exact ⟨by omega, by omega, rfl, rfl, rfl, rfl, fun h => h, fun h => h, fun _ h => .inr h, fun _ h => .inr h⟩
  | succ n ih =>
    obtain ⟨s1, k, h1, hk, rfl⟩ := h
    have w := ih h1
    have c := came (Steps.inv hi h1) hk
    have c1 := c.len; have c2 := c.pot; have w1 := w.len; have w2 := w.pot
    refine ⟨by omega, by omega, c.sent.trans w.sent, c.got.trans w.got, c.ticks.trans w.ticks, c.last.trans w.last, fun h => c.waits (w.waits h), fun h => c.loads (w.loads h), fun h0 hn => ?_, fun hg hf => ?_⟩
    · by_cases hl : s1.i.loads = []
      · rcases w.next h0 hn with h | h
        · exact absurd hl h
        · have := c.next hl (by rw [w.got]; exact h)
          rw [w.got] at this; exact this
      · exact .inl (c.loads hl)
    · rcases w.fin hg hf with h | h
      · exact .inl (c.waits h)
      · exact c.fin (by rw [w.got, w.sent]; exact hg) h

def popN : Nat → PSt → PSt
  | 0, s => s
  | n + 1, s => (popN n s).pop
theorem popN_inv {N n : Nat} {s : PSt} (hi : Inv N s) : Inv N (popN n s) := by
  induction n with
  | zero => exact hi
  | succ n ih => exact ih.pop
theorem spop_none {s : PSt} (h : s.i.loads = []) : s.pop = s := by unfold PSt.pop; rw [h]
theorem popN_none {n : Nat} {s : PSt} (h : s.i.loads = []) : popN n s = s := by
  induction n with
  | zero => rfl
  | succ n ih => rw [popN, ih, spop_none h]
/-- what the pops leave -/
structure Popped (s s' : PSt) : Prop where
  o : s'.o = s.o
  sent : s'.sent = s.sent
  dat : nDat s'.l ≤ nDat s.l
  got : s.got.length ≤ s'.got.length
  sum : s'.got.length + s'.i.loads.length = s.got.length + s.i.loads.length
theorem popped1 (s : PSt) : Popped s s.pop := by
  unfold PSt.pop
  split
  · exact ⟨rfl, rfl, Nat.le_refl _, Nat.le_refl _, rfl⟩
  · rename_i x r hr
    refine ⟨rfl, rfl, ?_, by simp, by simp [hr]; omega⟩
    refine Nat.le_trans (nDat_cut _) ?_
    rw [nDat_append]
    exact Nat.le_refl _
theorem popped (n : Nat) (s : PSt) : Popped s (popN n s) := by
  induction n with
  | zero => exact ⟨rfl, rfl, Nat.le_refl _, Nat.le_refl _, rfl⟩
  | succ n ih =>
    have h := popped1 (popN n s)
    exact ⟨h.o.trans ih.o, h.sent.trans ih.sent, Nat.le_trans h.dat ih.dat, Nat.le_trans ih.got h.got, h.sum.trans ih.sum⟩

/-- a round: a tick, as many packets as there are, whichever, and all pops -/
def Round (s s' : PSt) : Prop := ∃ sp m, Steps s.tick.l.length s.tick sp ∧ s' = popN m sp ∧ s'.i.loads = []
theorem Round.inv {N : Nat} {s s' : PSt} (hi : Inv N s) (h : Round s s') : Inv (N + 1) s' := by
  obtain ⟨sp, m, h1, rfl, _⟩ := h
  exact popN_inv (h1.inv hi.tick)
def Rounds : Nat → PSt → PSt → Prop
  | 0, s, s' => s' = s
  | n + 1, s, s' => ∃ s1, Rounds n s s1 ∧ Round s1 s'
theorem Rounds.inv {N n : Nat} {s s' : PSt} (hi : Inv N s) (h : Rounds n s s') : Inv (N + n) s' := by
  induction n generalizing s' with
  | zero => rw [show s' = s from h]; exact hi
  | succ n ih =>
    obtain ⟨s1, h1, h2⟩ := h
    exact h2.inv (ih h1)

/-- does the tick tell? -/
def batch (s : PSt) : Prop := s.o.waits ≠ [] ∧ (s.o.ticks + 1) % 4 = 0
instance (s : PSt) : Decidable (batch s) := inferInstanceAs (Decidable (_ ∧ _))
theorem mem_cut {a b : List Pk} {p : Pk} (hp : p ∈ b) (hb : b.length ≤ 64) : p ∈ cutPks (a ++ b) := by
  unfold cutPks
  rw [List.length_append, List.drop_append, List.mem_append]
  right
  rw [show a.length + b.length - 64 - a.length = 0 by omega]
  exact hp
theorem tick_wire {N : Nat} {s : PSt} (hi : Inv N s) (hb : ¬ batch s) : s.tick.l = s.l := by
  show cutPks (s.l ++ tickPks s.o) = s.l
  rw [show tickPks s.o = [] from if_neg hb, List.append_nil, cutPks_id _ hi.wire]
theorem tick_batch {s : PSt} (hb : batch s) : s.tick.l = cutPks (s.l ++ outPks s.o s.o.waits.length) := by
  show cutPks (s.l ++ tickPks s.o) = _
  rw [show tickPks s.o = outPks s.o s.o.waits.length from if_pos hb]
theorem tick_dat {N : Nat} {s : PSt} (hi : Inv N s) : nDat s.tick.l ≤ nDat s.l + (if batch s then 6 else 0) := by
  by_cases hb : batch s
  · rw [if_pos hb, tick_batch hb]
    refine Nat.le_trans (nDat_cut _) ?_
    rw [nDat_append]
    have := nDat_le (outPks s.o s.o.waits.length)
    rw [outPks_length] at this
    have := hi.w6
    omega
  · rw [if_neg hb, tick_wire hi hb]; omega
theorem tick_next {N : Nat} {s : PSt} (hi : Inv N s) (hu : s.got.length < s.sent.length) (h : batch s ∨ nextIn s (s.got.length + 1)) : nextIn s.tick (s.got.length + 1) := by
  by_cases hb : batch s
  · have e1 := hi.acked; have e2 := hi.wl; have e3 := hi.last; have e4 := hi.w6
    refine ⟨outPk s.o (s.got.length + s.o.waits.length - s.sent.length), ?_, by simp [outPk], by simp only [outPk]; omega⟩
    rw [tick_batch hb]
    exact mem_cut (List.mem_map.2 ⟨_, List.mem_range.2 (by omega), rfl⟩) (by rw [outPks_length]; omega)
  · obtain ⟨p, hp, h1⟩ := h.resolve_left hb
    exact ⟨p, by rw [tick_wire hi hb]; exact hp, h1⟩
theorem tick_last (s : PSt) : s.tick.o.last = s.o.last := (outTicked_eq s.o).2.2.2.1
theorem tick_waits (s : PSt) : s.tick.o.waits = s.o.waits := (outTicked_eq s.o).2.2.1
theorem tick_final {N : Nat} {s : PSt} (hi : Inv N s) (h : batch s ∨ finalIn s) : finalIn s.tick := by
  by_cases hb : batch s
  · have hw : 0 < s.o.waits.length := List.length_pos_iff.2 hb.1
    refine ⟨outPk s.o 0, ?_, .inl (by simp [outPk])⟩
    rw [tick_batch hb]
    exact mem_cut (List.mem_map.2 ⟨0, List.mem_range.2 hw, rfl⟩) (by rw [outPks_length]; have := hi.w6; omega)
  · obtain ⟨p, hp, h1⟩ := h.resolve_left hb
    exact ⟨p, by rw [tick_wire hi hb]; exact hp, by rw [tick_last]; exact h1⟩

/-- what a round leaves -/
structure Turned (s s' : PSt) : Prop where
  sent : s'.sent = s.sent
  loads : s'.i.loads = []
  dat : 2 * nDat s'.l ≤ nDat s.l + (if batch s then 6 else 0)
  tickN : s.o.waits ≠ [] → s'.o.ticks = s.o.ticks + 1
  waits : s.o.waits = [] → s'.o.waits = []
  got : s.got.length ≤ s'.got.length
  next : s.i.loads = [] → s.got.length < s.sent.length → batch s ∨ nextIn s (s.got.length + 1) → s.got.length < s'.got.length ∨ (s'.got.length = s.got.length ∧ nextIn s' (s'.got.length + 1))
  fin : s.got.length = s.sent.length → batch s ∨ finalIn s → s'.o.waits = [] ∨ (finalIn s' ∧ nDat s'.l + s'.l.length ≤ nDat s.l + (if batch s then 6 else 0))
theorem Round.turned {N : Nat} {s s' : PSt} (hi : Inv N s) (h : Round s s') : Turned s s' := by
  obtain ⟨sp, m, h1, rfl, h0⟩ := h
  have w := h1.went hi.tick
  have p := popped m sp
  have td := tick_dat hi
  have w2 := w.pot
  have hsent : s.tick.sent = s.sent := rfl
  have hgot : s.tick.got = s.got := rfl
  have hloads : s.tick.i.loads = s.i.loads := rfl
  have pg := p.got; have ps := p.sum
  have wg : sp.got = s.got := w.got
  have hd2 : nDat sp.l + sp.l.length ≤ nDat s.tick.l := by omega
  refine ⟨p.sent.trans w.sent, h0, ?_, fun hw => ?_, fun hw => ?_, ?_, fun hl hu hn => ?_, fun hg hf => ?_⟩
  · have := p.dat; have := nDat_le sp.l
    omega
  · rw [p.o, w.ticks]
    show (outTicked s.o).ticks = _
    rw [outTicked, if_neg hw]
  · rw [p.o]; exact w.waits ((tick_waits s).trans hw)
  · rw [← wg]; exact pg
  · have hn1 := tick_next hi hu hn
    rw [h0, List.length_nil, Nat.add_zero, wg] at ps
    by_cases hs : sp.i.loads = []
    · right
      rw [popN_none hs]
      refine ⟨by rw [wg], ?_⟩
      rw [wg]
      rcases w.next hl hn1 with h | h
      · exact absurd hs h
      · exact h
    · left
      have : 0 < sp.i.loads.length := List.length_pos_iff.2 hs
      omega
  · have hf1 := tick_final hi hf
    have gl := (h1.inv hi.tick).gl
    have hss : sp.sent = s.sent := w.sent
    rw [wg, hss] at gl
    have hs : sp.i.loads = [] := List.eq_nil_of_length_eq_zero (by omega)
    rw [popN_none hs]
    rcases w.fin hg hf1 with h | h
    · exact .inl h
    · exact .inr ⟨h, by omega⟩

/-- how many loads are on their way at the most, after t rounds, where the tick stands at c -/
def most : Nat → Nat → Nat
  | 0, _ => 64
  | t + 1, 0 => (most t 3 + 6) / 2
  | t + 1, 1 => most t 0 / 2
  | t + 1, 2 => most t 1 / 2
  | t + 1, _ => most t 2 / 2
theorem tmod (t : Int) (h : 0 ≤ t) : ((t + 1) % 4).toNat = if (t % 4).toNat = 3 then 0 else (t % 4).toNat + 1 := by
  split <;> omega
def phase (s : PSt) : Nat := (s.o.ticks % 4).toNat
theorem phase_lt (s : PSt) : phase s < 4 := by unfold phase; omega
theorem batch_iff {N : Nat} {s : PSt} (hi : Inv N s) (hw : s.o.waits ≠ []) : batch s ↔ phase s = 3 := by
  have := hi.t0
  unfold batch phase
  constructor
  · rintro ⟨_, h⟩; omega
  · intro h; exact ⟨hw, by omega⟩
theorem most_step {N : Nat} {s s' : PSt} (hi : Inv N s) (h : Turned s s') (t : Nat) (hm : nDat s.l ≤ most t (phase s)) (hw : s.o.waits ≠ []) : nDat s'.l ≤ most (t + 1) (phase s') := by
  have hd := h.dat
  have ht := h.tickN hw
  have h0 := hi.t0
  have hp : phase s' = if phase s = 3 then 0 else phase s + 1 := by
    unfold phase; rw [ht]; exact tmod _ h0
  have hlt := phase_lt s
  by_cases h3 : phase s = 3
  · rw [if_pos ((batch_iff hi hw).2 h3)] at hd
    rw [if_pos h3] at hp
    rw [hp]; rw [h3] at hm
    simp only [most]; omega
  · rw [if_neg (fun b => h3 ((batch_iff hi hw).1 b))] at hd
    rw [if_neg h3] at hp
    have : phase s = 0 ∨ phase s = 1 ∨ phase s = 2 := by omega
    rcases this with e | e | e <;> rw [e] at hp hm
    · rw [show phase s' = 1 from hp]; show _ ≤ most t 0 / 2; omega
    · rw [show phase s' = 2 from hp]; show _ ≤ most t 1 / 2; omega
    · rw [show phase s' = 3 from hp]; show _ ≤ most t 2 / 2; omega

/-- how far it is to the end -/
def fb : Nat → Nat
  | 0 => 6
  | 1 => 3
  | 2 => 1
  | _ => 0
def Far (m : Nat) (s : PSt) : Prop := s.o.waits = [] ∨
  (4 * (s.sent.length - s.got.length + 1) + 3 ≤ m + phase s) ∨
  (s.got.length < s.sent.length ∧ nextIn s (s.got.length + 1) ∧ 4 * (s.sent.length - s.got.length + 1) ≤ m + 1 + phase s) ∨
  (s.got.length = s.sent.length ∧ finalIn s ∧ nDat s.l + s.l.length ≤ fb (phase s) ∧ 3 ≤ m + phase s)
theorem most9 (c : Nat) (hc : c < 4) (t : Nat) (ht : 9 ≤ t) : most t c = if c = 0 then 3 else if c = 1 then 1 else 0 := by
  have base : ∀ c, c < 4 → most 9 c = if c = 0 then 3 else if c = 1 then 1 else 0 := by decide
  obtain ⟨d, rfl⟩ : ∃ d, t = 9 + d := ⟨t - 9, by omega⟩
  clear ht
  induction d generalizing c with
  | zero => exact base c hc
  | succ d ih =>
    rw [← Nat.add_assoc]
    have : c = 0 ∨ c = 1 ∨ c = 2 ∨ c = 3 := by omega
    rcases this with rfl | rfl | rfl | rfl
    · simp only [most]; rw [ih 3 (by omega)]; rfl
    · simp only [most]; rw [ih 0 (by omega)]; rfl
    · simp only [most]; rw [ih 1 (by omega)]; rfl
    · simp only [most]; rw [ih 2 (by omega)]; rfl

theorem far_step {N : Nat} {s s' : PSt} (hi : Inv N s) (hi' : Inv (N + 1) s') (h : Turned s s') (hl : s.i.loads = []) (hm : s.o.waits ≠ [] → nDat s.l ≤ if phase s = 0 then 3 else if phase s = 1 then 1 else 0) (m : Nat) (hf : Far (m + 1) s) : Far m s' := by
  by_cases hw : s.o.waits = []
  · exact .inl (h.waits hw)
  have hm := hm hw
  have ht := h.tickN hw
  have h0 := hi.t0
  have hp : phase s' = if phase s = 3 then 0 else phase s + 1 := by
    unfold phase; rw [ht]; exact tmod _ h0
  have hlt := phase_lt s
  have hsent := h.sent
  have hgot := h.got
  have hgl := hi.gl
  have hgl' := hi'.gl
  have hb := batch_iff hi hw
  unfold Far
  rw [hsent]
  rw [hsent] at hgl'
  rcases hf with hf | hf | ⟨hu, hn, hf⟩ | ⟨hu, hn, hd, hf⟩
  · exact absurd hf hw
  · by_cases h3 : phase s = 3
    · rw [if_pos h3] at hp
      have hbt := hb.2 h3
      by_cases hu : s.got.length < s.sent.length
      · rcases h.next hl hu (.inl hbt) with g | ⟨g1, g2⟩
        · exact .inr (.inl (by omega))
        · exact .inr (.inr (.inl ⟨by omega, g2, by omega⟩))
      · rcases h.fin (by omega) (.inl hbt) with g | ⟨g1, g2⟩
        · exact .inl g
        · rw [if_pos hbt] at g2
          refine .inr (.inr (.inr ⟨by omega, g1, ?_, by omega⟩))
          rw [hp]
          show _ ≤ 6
          rw [h3] at hm
          simp at hm
          omega
    · rw [if_neg h3] at hp
      exact .inr (.inl (by omega))
  · have hpos : 0 < nDat s.l := by
      obtain ⟨p, hp1, hp2, _⟩ := hn
      exact List.countP_pos_iff.2 ⟨p, hp1, by simp [dat, hp2]⟩
    have hc : phase s = 0 ∨ phase s = 1 := by
      by_cases h0 : phase s = 0
      · exact .inl h0
      · by_cases h1 : phase s = 1
        · exact .inr h1
        · rw [if_neg h0, if_neg h1] at hm; omega
    rw [if_neg (by omega)] at hp
    rcases h.next hl hu (.inr hn) with g | ⟨g1, g2⟩
    · exact .inr (.inl (by omega))
    · exact .inr (.inr (.inl ⟨by omega, g2, by omega⟩))
  · have hpos : 0 < s.l.length := by
      obtain ⟨p, hp1, _⟩ := hn
      exact List.length_pos_of_mem hp1
    have hc : phase s ≠ 3 := by
      intro h3
      rw [h3] at hd
      have : fb 3 = 0 := rfl
      omega
    rw [if_neg hc] at hp
    have hnb : ¬ batch s := fun b => hc (hb.1 b)
    rcases h.fin hu (.inr hn) with g | ⟨g1, g2⟩
    · exact .inl g
    · rw [if_neg hnb] at g2
      refine .inr (.inr (.inr ⟨by omega, g1, ?_, by omega⟩))
      have hle := nDat_le s.l
      have : phase s = 0 ∨ phase s = 1 ∨ phase s = 2 := by omega
      have f0 : fb 0 = 6 := rfl
      have f1 : fb 1 = 3 := rfl
      have f2 : fb 2 = 1 := rfl
      have f3 : fb 3 = 0 := rfl
      rcases this with e | e | e <;> rw [e] at hp hd
      · rw [show phase s' = 1 from hp]; omega
      · rw [show phase s' = 2 from hp]; omega
      · rw [show phase s' = 3 from hp]; omega

/-- the state after t rounds, t at least 1 -/
theorem rounds_most {N t : Nat} {s s' : PSt} (hi : Inv N s) (h : Rounds t s s') : (s'.o.waits ≠ [] → nDat s'.l ≤ most t (phase s')) ∧ (1 ≤ t → s'.i.loads = []) := by
  induction t generalizing s' with
  | zero =>
    obtain rfl : s' = s := h
    refine ⟨fun _ => ?_, fun h => by omega⟩
    have e : most 0 (phase s') = 64 := by cases phase s' <;> rfl
    rw [e]
    exact Nat.le_trans (nDat_le _) hi.wire
  | succ t ih =>
    obtain ⟨s1, h1, h2⟩ := h
    have i1 := h1.inv hi
    have tr := h2.turned i1
    obtain ⟨a, _⟩ := ih h1
    refine ⟨fun hw => ?_, fun _ => tr.loads⟩
    have hw1 : s1.o.waits ≠ [] := fun e => hw (tr.waits e)
    exact most_step i1 tr t (a hw1) hw1
theorem rounds_far {N t : Nat} {s s' : PSt} (hi : Inv N s) (h : Rounds (9 + t) s s') (ht : t ≤ 31) : Far (31 - t) s' := by
  induction t generalizing s' with
  | zero =>
    have i1 := h.inv hi
    have e1 := i1.acked; have e2 := i1.w6; have e3 := phase_lt s'
    exact .inr (.inl (by omega))
  | succ t ih =>
    obtain ⟨s1, h1, h2⟩ : ∃ s1, Rounds (9 + t) s s1 ∧ Round s1 s' := h
    have i1 := h1.inv hi
    have tr := h2.turned i1
    obtain ⟨a, b⟩ := rounds_most hi h1
    have hf := ih h1 (by omega)
    rw [show 31 - t = 31 - (t + 1) + 1 by omega] at hf
    refine far_step i1 (h2.inv i1) tr (b (by omega)) (fun hw => ?_) _ hf
    rw [← most9 _ (phase_lt s1) (9 + t) (by omega)]
    exact a hw
/-- after 40 rounds nothing waits, and all has come -/
theorem all_come {N : Nat} {s s' : PSt} (hi : Inv N s) (h : Rounds 40 s s') : s'.o.waits = [] ∧ s'.got.length = s'.sent.length := by
  have i1 := h.inv hi
  have hf : Far 0 s' := rounds_far (t := 31) hi h (by omega)
  have hlt := phase_lt s'
  have hw : s'.o.waits = [] := by
    rcases hf with hf | hf | ⟨hu, hn, hf⟩ | ⟨hu, ⟨p, hp, _⟩, hd, hf⟩
    · exact hf
    · omega
    · omega
    · have h3 : phase s' = 3 := by omega
      rw [h3] at hd
      have : fb 3 = 0 := rfl
      have := List.length_pos_of_mem hp
      omega
  refine ⟨hw, ?_⟩
  have e1 := i1.acked; have e2 := i1.gl
  rw [hw] at e1
  simp at e1
  omega
end Go.Proofs.Ytecpgkcoehnpbaa
