/- Layer 17: a channel of a law's own, in plain words: sender, receiver, wire, what was sent, what was taken out; what each step makes of them, and what always holds. -/
import Derived.Test.YtecpgkcoehnpbaaTwo
namespace Go.Proofs.Ytecpgkcoehnpbaa

structure PSt where
  o : OutSt
  i : InSt
  l : List Pk
  sent : List ByteArray
  got : List ByteArray

def pst0 (c n : Int) : PSt := ⟨⟨c, n, [], 0, 0⟩, ⟨c, n, [], 0⟩, [], [], []⟩
def outAck (o : OutSt) (p : Pk) : OutSt := ⟨o.ch, o.inc, o.waits.drop (p.ack - (o.last - o.waits.length)).toNat, o.last, o.ticks⟩
def ackOf (i : InSt) : Pk := ⟨i.ch, 1, i.inc, 0, i.out, ByteArray.empty⟩
def inFull (i : InSt) (p : Pk) : Prop := p.seq = i.out + i.loads.length + 1 ∧ i.loads.length = 6
instance (i : InSt) (p : Pk) : Decidable (inFull i p) := inferInstanceAs (Decidable (_ ∧ _))
def inTook (i : InSt) (p : Pk) : InSt := if inFull i p then i else ⟨i.ch, i.inc, if p.seq = i.out + i.loads.length + 1 then i.loads ++ [p.load] else i.loads, i.out⟩
def inAcks (i : InSt) (p : Pk) : List Pk := if inFull i p then [] else [ackOf i]
/-- a packet, taken out of the wire, comes -/
def PSt.got1 (s : PSt) (k : Nat) (x : Pk) : PSt :=
  if x.back = 1 then ⟨outAck s.o x, s.i, s.l.eraseIdx k, s.sent, s.got⟩ else ⟨s.o, inTook s.i x, cutPks (s.l.eraseIdx k ++ inAcks s.i x), s.sent, s.got⟩
def PSt.comes (s : PSt) (k : Int) : PSt := if k < 0 then s else match s.l[k.toNat]? with | none => s | some x => s.got1 k.toNat x
def PSt.pop (s : PSt) : PSt := match s.i.loads with
  | [] => s
  | x :: r => ⟨s.o, ⟨s.i.ch, s.i.inc, r, s.i.out + 1⟩, cutPks (s.l ++ [ackOf ⟨s.i.ch, s.i.inc, r, s.i.out + 1⟩]), s.sent, s.got ++ [x]⟩
def outTicked (o : OutSt) : OutSt := if o.waits = [] then o else ⟨o.ch, o.inc, o.waits, o.last, o.ticks + 1⟩
def tickPks (o : OutSt) : List Pk := if o.waits ≠ [] ∧ (o.ticks + 1) % 4 = 0 then outPks o o.waits.length else []
def PSt.tick (s : PSt) : PSt := ⟨outTicked s.o, s.i, cutPks (s.l ++ tickPks s.o), s.sent, s.got⟩
def PSt.send (s : PSt) (x : ByteArray) : PSt := ⟨⟨s.o.ch, s.o.inc, s.o.waits ++ [x], s.o.last + 1, s.o.ticks⟩, s.i, cutPks (s.l ++ [⟨s.o.ch, 0, s.o.inc, s.o.last + 1, 0, x⟩]), s.sent ++ [x], s.got⟩

/-- a packet on its way -/
def Good (s : PSt) (p : Pk) : Prop := p.ch = s.o.ch ∧ p.inc = s.o.inc ∧
  ((p.back = 0 ∧ ∃ k : Nat, k < s.sent.length ∧ p.seq = k + 1 ∧ s.sent[k]? = some p.load) ∨ (p.back = 1 ∧ 0 ≤ p.ack ∧ p.ack ≤ s.got.length))
/-- what always holds, after at most N steps -/
structure Inv (N : Nat) (s : PSt) : Prop where
  ch : s.i.ch = s.o.ch
  inc : s.i.inc = s.o.inc
  last : s.o.last = s.sent.length
  w6 : s.o.waits.length ≤ 6
  wl : s.o.waits.length ≤ s.sent.length
  waits : s.o.waits = s.sent.drop (s.sent.length - s.o.waits.length)
  out : s.i.out = s.got.length
  l6 : s.i.loads.length ≤ 6
  gl : s.got.length + s.i.loads.length ≤ s.sent.length
  loads : s.got ++ s.i.loads = s.sent.take (s.got.length + s.i.loads.length)
  acked : s.sent.length ≤ s.got.length + s.o.waits.length
  wire : s.l.length ≤ 64
  good : ∀ p ∈ s.l, Good s p
  ne : ∀ x ∈ s.sent, x.toList ≠ []
  sn : s.sent.length ≤ N
  t0 : 0 ≤ s.o.ticks
  tn : s.o.ticks ≤ N

theorem inv0 (c n : Int) : Inv 0 (pst0 c n) := by
  refine ⟨rfl, rfl, rfl, ?_, ?_, rfl, rfl, ?_, ?_, rfl, ?_, ?_, ?_, ?_, ?_, ?_, ?_⟩ <;> simp [pst0]
theorem Inv.mono {N M : Nat} {s : PSt} (h : Inv N s) (hm : N ≤ M) : Inv M s := { h with sn := Nat.le_trans h.sn hm, tn := by have := h.tn; omega }

theorem cut_mem {l : List Pk} {p : Pk} (h : p ∈ cutPks l) : p ∈ l := List.mem_of_mem_drop h
theorem cut64 (l : List Pk) : (cutPks l).length ≤ 64 := by rw [cutPks_length]; omega
theorem erase_mem {l : List Pk} {k : Nat} {p : Pk} (h : p ∈ l.eraseIdx k) : p ∈ l := List.mem_of_mem_eraseIdx h

/-- the wire alone turns -/
theorem Inv.wireTo {N : Nat} {s : PSt} (h : Inv N s) (l : List Pk) (h64 : l.length ≤ 64) (hl : ∀ p ∈ l, Good s p) : Inv N ⟨s.o, s.i, l, s.sent, s.got⟩ := { h with wire := h64, good := hl }

theorem ins_mem {l : List Pk} {i : Nat} {p q : Pk} (h : q ∈ insPk l i p) : q = p ∨ q ∈ l := by
  simp only [insPk, List.mem_append, List.mem_cons] at h
  rcases h with h | h | h
  · exact .inr (List.mem_of_mem_take h)
  · exact .inl h
  · exact .inr (List.mem_of_mem_drop h)

theorem Inv.lose {N : Nat} {s : PSt} (h : Inv N s) (i : Nat) : Inv N ⟨s.o, s.i, s.l.eraseIdx i, s.sent, s.got⟩ :=
  h.wireTo _ (Nat.le_trans (List.length_eraseIdx_le ..) h.wire) fun p hp => h.good p (erase_mem hp)
theorem Inv.twice {N : Nat} {s : PSt} (h : Inv N s) {i : Nat} {p : Pk} (hp : s.l[i]? = some p) : Inv N ⟨s.o, s.i, cutPks (s.l ++ [p]), s.sent, s.got⟩ :=
  h.wireTo _ (cut64 _) fun q hq => by
    have := cut_mem hq
    simp only [List.mem_append, List.mem_singleton] at this
    rcases this with hq | rfl
    · exact h.good q hq
    · exact h.good _ (List.mem_of_getElem? hp)
theorem Inv.turn {N : Nat} {s : PSt} (h : Inv N s) {i : Nat} {p : Pk} (hp : s.l[i]? = some p) (m : Nat) (hm : m ≤ s.l.length - 1) : Inv N ⟨s.o, s.i, insPk (s.l.eraseIdx i) m p, s.sent, s.got⟩ := by
  have hi : i < s.l.length := (List.getElem?_eq_some_iff.1 hp).1
  have he : (s.l.eraseIdx i).length = s.l.length - 1 := List.length_eraseIdx_of_lt hi
  refine h.wireTo _ ?_ fun q hq => ?_
  · rw [insPk_length _ _ _ (by omega)]
    have := h.wire
    omega
  · rcases ins_mem hq with rfl | hq
    · exact h.good _ (List.mem_of_getElem? hp)
    · exact h.good q (erase_mem hq)

theorem Inv.send {N : Nat} {s : PSt} (h : Inv N s) (x : ByteArray) (hx : x.toList ≠ []) (h6 : s.o.waits.length < 6) : Inv (N + 1) (s.send x) := by
  have hg : ∀ p, Good s p → Good (s.send x) p := by
    rintro p ⟨a, b, c⟩
    refine ⟨a, b, ?_⟩
    rcases c with ⟨c0, k, c1, c2, c3⟩ | c
    · refine .inl ⟨c0, k, ?_, c2, ?_⟩
      · simp only [PSt.send, List.length_append, List.length_singleton]; omega
      · simp only [PSt.send]; rw [List.getElem?_append_left c1]; exact c3
    · exact .inr c
  have e1 := h.last; have e2 := h.wl; have e3 := h.gl; have e4 := h.acked; have e5 := h.sn; have e6 := h.tn
  refine ⟨h.ch, h.inc, ?_, ?_, ?_, ?_, h.out, h.l6, ?_, ?_, ?_, cut64 _, ?_, ?_, ?_, h.t0, ?_⟩
  · simp only [PSt.send, List.length_append, List.length_singleton]; omega
  · simp only [PSt.send, List.length_append, List.length_singleton]; omega
  · simp only [PSt.send, List.length_append, List.length_singleton]; omega
  · simp only [PSt.send, List.length_append, List.length_singleton]
    rw [show s.sent.length + 1 - (s.o.waits.length + 1) = s.sent.length - s.o.waits.length by omega, List.drop_append_of_le_length (by omega)]
    rw [← h.waits]
  · simp only [PSt.send, List.length_append, List.length_singleton]; omega
  · simp only [PSt.send]
    rw [List.take_append_of_le_length e3]; exact h.loads
  · simp only [PSt.send, List.length_append, List.length_singleton]; omega
  · intro p hp
    have := cut_mem hp
    simp only [List.mem_append, List.mem_singleton] at this
    rcases this with hp | rfl
    · exact hg p (h.good p hp)
    · refine ⟨rfl, rfl, .inl ⟨rfl, s.sent.length, ?_, by simp only; omega, ?_⟩⟩
      · simp only [PSt.send, List.length_append, List.length_singleton]; omega
      · simp only [PSt.send]; simp
  · intro y hy
    simp only [PSt.send, List.mem_append, List.mem_singleton] at hy
    rcases hy with hy | rfl
    · exact h.ne y hy
    · exact hx
  · simp only [PSt.send, List.length_append, List.length_singleton]; omega
  · simp only [PSt.send]; omega

/-- what waits, by number -/
theorem Inv.waitsAt {N : Nat} {s : PSt} (h : Inv N s) {k : Nat} (hk : k < s.o.waits.length) : s.sent[s.sent.length - s.o.waits.length + k]? = some (s.o.waits.getD k ByteArray.empty) := by
  have e : s.o.waits[k]? = s.sent[s.sent.length - s.o.waits.length + k]? := by
    conv => lhs; rw [h.waits]
    rw [List.getElem?_drop]
  rw [← e, List.getElem?_eq_getElem hk, List.getD_eq_getElem?_getD, List.getElem?_eq_getElem hk]; rfl

theorem Inv.outPks {N : Nat} {s : PSt} (h : Inv N s) : ∀ p ∈ outPks s.o s.o.waits.length, Good s p := by
  intro p hp
  obtain ⟨k, hk, rfl⟩ := List.mem_map.1 hp
  have hk := List.mem_range.1 hk
  have e1 := h.last; have e2 := h.wl
  refine ⟨rfl, rfl, .inl ⟨rfl, s.sent.length - s.o.waits.length + k, by omega, ?_, h.waitsAt hk⟩⟩
  simp only [outPk]; omega

theorem outTicked_eq (o : OutSt) : (outTicked o).ch = o.ch ∧ (outTicked o).inc = o.inc ∧ (outTicked o).waits = o.waits ∧ (outTicked o).last = o.last ∧ o.ticks ≤ (outTicked o).ticks ∧ (outTicked o).ticks ≤ o.ticks + 1 := by
  unfold outTicked; split
  · exact ⟨rfl, rfl, rfl, rfl, by omega, by omega⟩
  · exact ⟨rfl, rfl, rfl, rfl, by simp only; omega, by simp only; omega⟩
theorem Inv.tick {N : Nat} {s : PSt} (h : Inv N s) : Inv (N + 1) s.tick := by
  obtain ⟨a1, a2, a3, a4, a5, a6⟩ := outTicked_eq s.o
  have hg : ∀ p, Good s p → Good s.tick p := by
    rintro p ⟨a, b, c⟩
    exact ⟨a.trans a1.symm, b.trans a2.symm, c⟩
  have e5 := h.sn; have e6 := h.tn; have e7 := h.t0
  refine ⟨h.ch.trans a1.symm, h.inc.trans a2.symm, a4.trans h.last, ?_, ?_, ?_, h.out, h.l6, h.gl, h.loads, ?_, cut64 _, ?_, h.ne, ?_, ?_, ?_⟩
  · simp only [PSt.tick, a3]; exact h.w6
  · simp only [PSt.tick, a3]; exact h.wl
  · simp only [PSt.tick, a3]; exact h.waits
  · simp only [PSt.tick, a3]; exact h.acked
  · intro p hp
    have := cut_mem hp
    rcases List.mem_append.1 this with hp | hp
    · exact hg p (h.good p hp)
    · unfold tickPks at hp
      split at hp
      · exact hg p (h.outPks p hp)
      · cases hp
  · simp only [PSt.tick]; omega
  · simp only [PSt.tick]; omega
  · simp only [PSt.tick]; omega

theorem Inv.ackGood {N : Nat} {s : PSt} (h : Inv N s) : Good s (ackOf s.i) := ⟨h.ch, h.inc, .inr ⟨rfl, by simp only [ackOf]; rw [h.out]; omega, by simp only [ackOf]; rw [h.out]; omega⟩⟩

theorem Inv.pop {N : Nat} {s : PSt} (h : Inv N s) : Inv N s.pop := by
  unfold PSt.pop
  split
  · exact h
  · rename_i x r hr
    have hg : ∀ p, Good s p → Good ⟨s.o, ⟨s.i.ch, s.i.inc, r, s.i.out + 1⟩, cutPks (s.l ++ [ackOf ⟨s.i.ch, s.i.inc, r, s.i.out + 1⟩]), s.sent, s.got ++ [x]⟩ p := by
      rintro p ⟨a, b, c⟩
      refine ⟨a, b, ?_⟩
      rcases c with c | ⟨c0, c1, c2⟩
      · exact .inl c
      · exact .inr ⟨c0, c1, by simp only [List.length_append, List.length_singleton]; omega⟩
    have e1 := h.out; have e2 := h.gl; have e3 := h.acked; have e4 := h.l6; have e5 := h.loads
    rw [hr] at e2 e4 e5
    simp only [List.length_cons] at e2 e4 e5
    refine ⟨h.ch, h.inc, h.last, h.w6, h.wl, h.waits, ?_, ?_, ?_, ?_, ?_, cut64 _, ?_, h.ne, h.sn, h.t0, h.tn⟩
    · simp only [List.length_append, List.length_singleton]; omega
    · simp only; omega
    · simp only [List.length_append, List.length_singleton]; omega
    · simp only [List.length_append, List.length_singleton, List.append_assoc, List.singleton_append]
      rw [e5]; congr 1; omega
    · simp only [List.length_append, List.length_singleton]; omega
    · intro p hp
      have := cut_mem hp
      simp only [List.mem_append, List.mem_singleton] at this
      rcases this with hp | rfl
      · exact hg p (h.good p hp)
      · exact ⟨h.ch, h.inc, .inr ⟨rfl, by simp only [ackOf]; omega, by simp only [ackOf, List.length_append, List.length_singleton]; omega⟩⟩

theorem Inv.got1 {N : Nat} {s : PSt} (h : Inv N s) {k : Nat} {x : Pk} (hx : s.l[k]? = some x) : Inv N (s.got1 k x) := by
  have gx := h.good x (List.mem_of_getElem? hx)
  unfold PSt.got1
  by_cases hb : x.back = 1
  · rw [if_pos hb]
    obtain ⟨_, _, c⟩ := gx
    rcases c with ⟨c, _⟩ | ⟨_, c1, c2⟩
    · omega
    · have e1 := h.last; have e2 := h.wl; have e3 := h.acked; have e4 := h.w6; have e5 := h.gl
      obtain ⟨d, hd⟩ : ∃ d, (x.ack - (s.o.last - s.o.waits.length)).toNat = d := ⟨_, rfl⟩
      have hl : (s.o.waits.drop d).length = s.o.waits.length - d := List.length_drop ..
      refine ⟨h.ch, h.inc, h.last, ?_, ?_, ?_, h.out, h.l6, h.gl, h.loads, ?_, Nat.le_trans (List.length_eraseIdx_le ..) h.wire, fun p hp => h.good p (erase_mem hp), h.ne, h.sn, h.t0, h.tn⟩
      · simp only [outAck, hd]; omega
      · simp only [outAck, hd]; omega
      · simp only [outAck, hd, hl]
        conv => lhs; rw [h.waits]
        rw [List.drop_drop]; congr 1; omega
      · simp only [outAck, hd]; omega
  · rw [if_neg hb]
    obtain ⟨g1, g2, c⟩ := gx
    rcases c with ⟨c0, j, c1, c2, c3⟩ | ⟨c, _⟩
    · have e1 := h.out; have e2 := h.gl; have e3 := h.loads; have e4 := h.l6
      have ht : (inTook s.i x).ch = s.i.ch ∧ (inTook s.i x).inc = s.i.inc ∧ (inTook s.i x).out = s.i.out ∧ ((inTook s.i x).loads = s.i.loads ∨ ((inTook s.i x).loads = s.i.loads ++ [x.load] ∧ s.i.loads.length < 6 ∧ j = s.got.length + s.i.loads.length)) := by
        unfold inTook
        by_cases hf : inFull s.i x
        · rw [if_pos hf]; exact ⟨rfl, rfl, rfl, .inl rfl⟩
        · rw [if_neg hf]
          refine ⟨rfl, rfl, rfl, ?_⟩
          by_cases hq : x.seq = s.i.out + s.i.loads.length + 1
          · refine .inr ⟨if_pos hq, ?_, by omega⟩
            have : ¬ s.i.loads.length = 6 := fun h6 => hf ⟨hq, h6⟩
            omega
          · exact .inl (if_neg hq)
      obtain ⟨t1, t2, t3, t4⟩ := ht
      have hgood : ∀ p ∈ cutPks (s.l.eraseIdx k ++ inAcks s.i x), Good s p := by
        intro p hp
        have := cut_mem hp
        rcases List.mem_append.1 this with hp | hp
        · exact h.good p (erase_mem hp)
        · unfold inAcks at hp
          split at hp
          · cases hp
          · obtain rfl := List.mem_singleton.1 hp; exact h.ackGood
      refine ⟨t1.trans h.ch, t2.trans h.inc, h.last, h.w6, h.wl, h.waits, t3.trans h.out, ?_, ?_, ?_, h.acked, cut64 _, hgood, h.ne, h.sn, h.t0, h.tn⟩
      · rcases t4 with t4 | ⟨t4, t5, _⟩
        · simp only [t4]; exact e4
        · simp only [t4, List.length_append, List.length_singleton]; omega
      · rcases t4 with t4 | ⟨t4, t5, t6⟩
        · simp only [t4]; exact e2
        · simp only [t4, List.length_append, List.length_singleton]; omega
      · rcases t4 with t4 | ⟨t4, t5, t6⟩
        · simp only [t4]; exact e3
        · simp only [t4, List.length_append, List.length_singleton]
          rw [← List.append_assoc, e3, ← Nat.add_assoc, List.take_add_one, ← t6, c3]; rfl
    · exact absurd c hb
theorem Inv.comes {N : Nat} {s : PSt} (h : Inv N s) (k : Int) : Inv N (s.comes k) := by
  unfold PSt.comes
  split
  · exact h
  · split
    · exact h
    · rename_i x hx; exact h.got1 hx
end Go.Proofs.Ytecpgkcoehnpbaa
