/- Layer 17: what each call of the program makes of a pair of the laws' own. -/
import Derived.Test.YtecpgkcoehnpbaaLinkQ
namespace Go.Proofs.Ytecpgkcoehnpbaa
open Go.RowKit

theorem news_nil (w : World) : News w 6 (.slice none 0 0) ([] : List Pk).length (pksCells []) := ⟨rfl, fun u hu => (by cases hu), none, 0, rfl, fun h => absurd h (by simp)⟩

section
variable {w : World} {F : Nat → Prop} {P go gi gw N : Nat} {s : PSt}

/-- the row of the pair stays -/
theorem row_kept {w w' : World} {P go gi gw : Nat} {v1 v2 : Value} (h : w.heap[P]? = some (pairObj go gi gw v1 v2)) (hk : w'.heap[P]? = w.heap[P]?) : w'.heap[P]? = some (pairObj go gi gw v1 v2) := hk.trans h

theorem pair_take (h : PairAt w F P go gi gw s) (i : Nat) (x : Pk) (hx : s.l[i]? = some x) (hl : s.l.length ≤ 64) :
    Calls Try.prog 25 #[.pointer (some ⟨gw, 0, none⟩), .int .i64 (i : Int)] w fun e w' => e = .returned (.tuple #[.agg #[.int .i64 x.ch, .int .i64 x.back, .int .i64 x.inc, .int .i64 x.seq, .int .i64 x.ack, .string x.load], .bool true]) ∧
      PairAt w' (fun k => F k ∧ k < w.heap.size) P go gi gw ⟨s.o, s.i, s.l.eraseIdx i, s.sent, s.got⟩ ∧ Chg w w' F ∧ w'.heap[P]? = w.heap[P]? := by
  obtain ⟨G, h1, _, _, h2⟩ := h.wireTurn
  refine (wireTake_some gw s.l G w h1 i x hx (by omega)).mono fun e w' ⟨a, b, c⟩ => ⟨a, ?_⟩
  obtain ⟨k1, k2, k3⟩ := h2 _ w' _ (fun _ => False) b.wire (fun k hk => .inl hk) c
  exact ⟨k1.mono (fun k _ hk => by rcases hk with hk | ⟨_, hk⟩; exact hk; exact hk.elim), k2, k3⟩
theorem pair_take_none (h : PairAt w F P go gi gw s) (i : Int) (hi : i < 0 ∨ (s.l.length : Int) ≤ i) :
    Calls Try.prog 25 #[.pointer (some ⟨gw, 0, none⟩), .int .i64 i] w fun e w' => e = .returned (.tuple #[.agg #[.int .i64 0, .int .i64 0, .int .i64 0, .int .i64 0, .int .i64 0, .string ByteArray.empty], .bool false]) ∧ Below w.heap.size w w' := by
  obtain ⟨G, h1⟩ := h.wireAt
  exact wireTake_none gw s.l G w h1 i hi
theorem pair_send (h : PairAt w F P go gi gw s) (l3 : List Pk) (x : Value) (hx : News w 6 x l3.length (pksCells l3)) (hl : s.l.length + l3.length ≤ 1000) :
    Calls Try.prog 23 #[.pointer (some ⟨gw, 0, none⟩), x] w fun e w' => e = .returned (.tuple #[]) ∧
      PairAt w' (fun k => (F k ∧ k < w.heap.size) ∨ w.heap.size ≤ k) P go gi gw ⟨s.o, s.i, cutPks (s.l ++ l3), s.sent, s.got⟩ ∧ Chg w w' F ∧ w'.heap[P]? = w.heap[P]? := by
  obtain ⟨G, h1, _, _, h2⟩ := h.wireTurn
  refine (wireSend_any gw s.l l3 G w h1 x hx hl).mono fun e w' ⟨a, b, c⟩ => ⟨a, ?_⟩
  obtain ⟨k1, k2, k3⟩ := h2 _ w' _ (fun _ => True) b (fun k hk => hk.imp id fun hk => ⟨hk, trivial⟩) c
  exact ⟨k1.mono (fun k _ hk => hk.imp id fun hk => hk.1), k2, k3⟩
theorem pair_lose (h : PairAt w F P go gi gw s) (i : Nat) (hi : i < s.l.length) (hl : s.l.length ≤ 64) :
    Calls Try.prog 31 #[.pointer (some ⟨gw, 0, none⟩), .int .i64 (i : Int)] w fun e w' => e = .returned (.bool true) ∧
      PairAt w' (fun k => (F k ∧ k < w.heap.size) ∨ w.heap.size ≤ k) P go gi gw ⟨s.o, s.i, s.l.eraseIdx i, s.sent, s.got⟩ ∧ Chg w w' F := by
  obtain ⟨G, h1, _, _, h2⟩ := h.wireTurn
  refine (wireLose_some gw s.l G w h1 i _ (List.getElem?_eq_getElem hi) (by omega)).mono fun e w' ⟨a, b, c⟩ => ⟨a, ?_⟩
  obtain ⟨k1, k2, k3⟩ := h2 _ w' _ (fun _ => True) b (fun k hk => .inl hk) c
  exact ⟨k1.mono (fun k _ hk => hk.imp id fun hk => hk.1), k2⟩
theorem pair_lose_none (h : PairAt w F P go gi gw s) (i : Int) (hi : i < 0 ∨ (s.l.length : Int) ≤ i) :
    Calls Try.prog 31 #[.pointer (some ⟨gw, 0, none⟩), .int .i64 i] w fun e w' => e = .returned (.bool false) ∧ Below w.heap.size w w' := by
  obtain ⟨G, h1⟩ := h.wireAt
  exact wireLose_none gw s.l G w h1 i hi
theorem pair_twice (h : PairAt w F P go gi gw s) (i : Nat) (x : Pk) (hx : s.l[i]? = some x) (hl : s.l.length ≤ 64) :
    Calls Try.prog 27 #[.pointer (some ⟨gw, 0, none⟩), .int .i64 (i : Int)] w fun e w' => e = .returned (.bool true) ∧
      PairAt w' (fun k => (F k ∧ k < w.heap.size) ∨ w.heap.size ≤ k) P go gi gw ⟨s.o, s.i, cutPks (s.l ++ [x]), s.sent, s.got⟩ ∧ Chg w w' F := by
  obtain ⟨G, h1, _, _, h2⟩ := h.wireTurn
  refine (wireTwice_some gw s.l G w h1 i x hx (by omega)).mono fun e w' ⟨a, b, c⟩ => ⟨a, ?_⟩
  obtain ⟨k1, k2, k3⟩ := h2 _ w' _ (fun _ => True) b (fun k hk => hk.imp id fun hk => ⟨hk, trivial⟩) c
  exact ⟨k1.mono (fun k _ hk => hk.imp id fun hk => hk.1), k2⟩
theorem pair_twice_none (h : PairAt w F P go gi gw s) (i : Int) (hi : i < 0 ∨ (s.l.length : Int) ≤ i) :
    Calls Try.prog 27 #[.pointer (some ⟨gw, 0, none⟩), .int .i64 i] w fun e w' => e = .returned (.bool false) ∧ Below w.heap.size w w' := by
  obtain ⟨G, h1⟩ := h.wireAt
  exact (wireTwice_none gw s.l G w h1 i hi).mono fun e w' ⟨a, b⟩ => ⟨a, by subst b; exact Below.refl _ _⟩
theorem pair_turn (h : PairAt w F P go gi gw s) (i : Nat) (to : Int) (x : Pk) (hx : s.l[i]? = some x) (hl : s.l.length ≤ 64) :
    Calls Try.prog 24 #[.pointer (some ⟨gw, 0, none⟩), .int .i64 (i : Int), .int .i64 to] w fun e w' => e = .returned (.bool true) ∧
      PairAt w' (fun k => (F k ∧ k < w.heap.size) ∨ w.heap.size ≤ k) P go gi gw ⟨s.o, s.i, insPk (s.l.eraseIdx i) (turnTo to (s.l.length - 1)) x, s.sent, s.got⟩ ∧ Chg w w' F := by
  obtain ⟨G, h1, _, _, h2⟩ := h.wireTurn
  refine (wireTurn_some gw s.l G w h1 i to x hx (by omega)).mono fun e w' ⟨a, b, c⟩ => ⟨a, ?_⟩
  obtain ⟨k1, k2, k3⟩ := h2 _ w' _ (fun _ => True) b (fun k hk => .inl hk) c
  exact ⟨k1.mono (fun k _ hk => hk.imp id fun hk => hk.1), k2⟩
theorem pair_turn_none (h : PairAt w F P go gi gw s) (i to : Int) (hi : i < 0 ∨ (s.l.length : Int) ≤ i) :
    Calls Try.prog 24 #[.pointer (some ⟨gw, 0, none⟩), .int .i64 i, .int .i64 to] w fun e w' => e = .returned (.bool false) ∧ Below w.heap.size w w' := by
  obtain ⟨G, h1⟩ := h.wireAt
  exact wireTurn_none gw s.l G w h1 i to hi
theorem pair_wlen (h : PairAt w F P go gi gw s) : Calls Try.prog 26 #[.pointer (some ⟨gw, 0, none⟩)] w fun e w' => e = .returned (.int .i64 (s.l.length : Nat)) ∧ w = w' := by
  obtain ⟨G, h1⟩ := h.wireAt
  exact wireLen_any gw s.l G w h1
theorem pair_waits (h : PairAt w F P go gi gw s) : Calls Try.prog 17 #[.pointer (some ⟨go, 0, none⟩)] w fun e w' => e = .returned (.int .i64 (s.o.waits.length : Nat)) ∧ w = w' := by
  obtain ⟨G, h1⟩ := h.outAt
  exact waits_any go s.o G w h1
theorem pair_free (h : PairAt w F P go gi gw s) (hi : Inv N s) : Calls Try.prog 18 #[.pointer (some ⟨go, 0, none⟩)] w fun e w' => e = .returned (.int .i64 (6 - (s.o.waits.length : Int))) ∧ w = w' := by
  obtain ⟨G, h1⟩ := h.outAt
  exact free_any go s.o G w h1 (by have := hi.w6; omega)
theorem pair_inlen (h : PairAt w F P go gi gw s) : Calls Try.prog 19 #[.pointer (some ⟨gi, 0, none⟩)] w fun e w' => e = .returned (.int .i64 (s.i.loads.length : Nat)) ∧ w = w' := by
  obtain ⟨G, h1⟩ := h.inAt
  exact inLen_any gi s.i G w h1
theorem pair_peek_none (h : PairAt w F P go gi gw s) (h0 : s.i.loads = []) : Calls Try.prog 15 #[.pointer (some ⟨gi, 0, none⟩)] w fun e w' => e = .returned (.tuple #[.string ByteArray.empty, .bool false]) ∧ w = w' := by
  obtain ⟨G, h1⟩ := h.inAt
  exact peek_none gi s.i G w h1 h0
theorem pair_peek (h : PairAt w F P go gi gw s) (x : ByteArray) (r : List ByteArray) (h0 : s.i.loads = x :: r) : Calls Try.prog 15 #[.pointer (some ⟨gi, 0, none⟩)] w fun e w' => e = .returned (.tuple #[.string x, .bool true]) ∧ w = w' := by
  obtain ⟨G, h1⟩ := h.inAt
  exact peek_some gi s.i G w h1 x r h0

/-- an acknowledgement comes -/
theorem pair_ack (h : PairAt w F P go gi gw s) (hi : Inv N s) (hN : N ≤ 100000) (p : Pk) (hp : Good s p) (hb : p.back = 1) :
    Calls Try.prog 12 #[.pointer (some ⟨go, 0, none⟩), .agg #[.int .i64 p.ch, .int .i64 p.back, .int .i64 p.inc, .int .i64 p.seq, .int .i64 p.ack, .string p.load]] w fun e w' => e = .returned (.tuple #[]) ∧
      PairAt w' (fun k => (F k ∧ k < w.heap.size) ∨ w.heap.size ≤ k) P go gi gw ⟨outAck s.o p, s.i, s.l, s.sent, s.got⟩ ∧ Chg w w' F ∧ w'.heap[P]? = w.heap[P]? := by
  obtain ⟨G, h1, _, _, h2⟩ := h.outTurn
  obtain ⟨g1, g2, g3⟩ := hp
  have e1 := hi.last; have e2 := hi.gl; have e3 := hi.sn; have e4 := hi.w6
  have hack : 0 ≤ p.ack ∧ p.ack ≤ s.got.length := by
    rcases g3 with ⟨c, _⟩ | ⟨_, c⟩
    · omega
    · exact c
  refine (ack_own go s.o _ w (h1.mono (G := fun k => G k ∧ k < w.heap.size) fun k a b => ⟨b, a⟩) p g1 g2 hb hack.1 (by omega) (by omega) (by omega)).mono fun e w' ⟨a, b, c⟩ => ⟨a, ?_⟩
  obtain ⟨k1, k2, k3⟩ := h2 _ w' _ (fun _ => True) b (fun k hk => .inl hk) (c.mono fun k _ hk => hk.1)
  exact ⟨k1.mono (fun k _ hk => hk.imp id fun hk => hk.1), k2, k3⟩
/-- a packet that is not the sender's -/
theorem pair_ack_no (h : PairAt w F P go gi gw s) (p : Pk) (hp : ¬ (p.ch = s.o.ch ∧ p.inc = s.o.inc ∧ p.back = 1)) :
    Calls Try.prog 12 #[.pointer (some ⟨go, 0, none⟩), .agg #[.int .i64 p.ch, .int .i64 p.back, .int .i64 p.inc, .int .i64 p.seq, .int .i64 p.ack, .string p.load]] w fun e w' => e = .returned (.tuple #[]) ∧ Below w.heap.size w w' := by
  obtain ⟨G, h1⟩ := h.outAt
  exact ack_no go s.o G w h1 p hp
theorem pair_in_no (h : PairAt w F P go gi gw s) (p : Pk) (hp : ¬ (p.ch = s.i.ch ∧ p.inc = s.i.inc ∧ p.back = 0)) :
    Calls Try.prog 20 #[.pointer (some ⟨gi, 0, none⟩), .agg #[.int .i64 p.ch, .int .i64 p.back, .int .i64 p.inc, .int .i64 p.seq, .int .i64 p.ack, .string p.load]] w fun e w' => e = .returned (.slice none 0 0) ∧ Below w.heap.size w w' := by
  obtain ⟨G, h1⟩ := h.inAt
  exact take_no gi s.i G w h1 p hp

/-- a load comes -/
theorem pair_in (h : PairAt w F P go gi gw s) (hi : Inv N s) (hN : N ≤ 100000) (p : Pk) (hp : Good s p) (hb : ¬ p.back = 1) :
    Calls Try.prog 20 #[.pointer (some ⟨gi, 0, none⟩), .agg #[.int .i64 p.ch, .int .i64 p.back, .int .i64 p.inc, .int .i64 p.seq, .int .i64 p.ack, .string p.load]] w fun e w' => ∃ v, e = .returned v ∧ News w' 6 v (inAcks s.i p).length (pksCells (inAcks s.i p)) ∧
      PairAt w' (fun k => (F k ∧ k < w.heap.size) ∨ w.heap.size ≤ k) P go gi gw ⟨s.o, inTook s.i p, s.l, s.sent, s.got⟩ ∧ Chg w w' F ∧ w'.heap[P]? = w.heap[P]? := by
  obtain ⟨G, h1, _, _, h2⟩ := h.inTurn
  obtain ⟨g1, g2, g3⟩ := hp
  have e1 := hi.last; have e2 := hi.gl; have e3 := hi.sn; have e4 := hi.l6; have e5 := hi.out
  rcases g3 with ⟨c0, j, c1, c2, c3⟩ | ⟨c, _⟩
  · have hne := hi.ne p.load (List.mem_of_getElem? c3)
    refine (take_own gi s.i _ w (h1.mono (G := fun k => G k ∧ k < w.heap.size) fun k a b => ⟨b, a⟩) p (g1.trans hi.ch.symm) (g2.trans hi.inc.symm) c0 hne (by omega) (by omega) (by omega) (by omega) e4).mono fun e w' hT => ?_
    rcases hT with ⟨f1, f2, rfl, f3, f4⟩ | ⟨hnf, r, rfl, f1, f2, f3, f4⟩
    · have hf : inFull s.i p := ⟨f1, f2⟩
      obtain ⟨k1, k2, k3⟩ := h2 _ w' _ (fun _ => True) f3 (fun k hk => .inl hk) (f4.mono fun k _ hk => hk.1)
      have ea : inAcks s.i p = [] := if_pos hf
      have et : inTook s.i p = s.i := if_pos hf
      rw [ea, et]
      exact ⟨_, rfl, news_nil w', k1.mono (fun k _ hk => hk.imp id fun hk => hk.1), k2, k3⟩
    · have hf : ¬ inFull s.i p := hnf
      obtain ⟨k1, k2, k3⟩ := h2 _ w' _ (fun _ => True) f3 (fun k hk => hk.imp (fun a => ⟨a.1.1, a.2⟩) fun a => ⟨a.1, trivial⟩) (f4.mono fun k _ hk => hk.1)
      have ea : inAcks s.i p = [ackOf s.i] := if_neg hf
      have et : inTook s.i p = ⟨s.i.ch, s.i.inc, if p.seq = s.i.out + s.i.loads.length + 1 then s.i.loads ++ [p.load] else s.i.loads, s.i.out⟩ := if_neg hf
      rw [ea, et]
      exact ⟨_, rfl, News.pk _ f1, k1.mono (fun k _ hk => hk.imp id fun hk => hk.1), k2, k3⟩
  · exact absurd c hb

/-- a tick -/
theorem pair_tick (h : PairAt w F P go gi gw s) (hi : Inv N s) (hN : N ≤ 100000) :
    Calls Try.prog 16 #[.pointer (some ⟨go, 0, none⟩)] w fun e w' => ∃ v, e = .returned v ∧ News w' 6 v (tickPks s.o).length (pksCells (tickPks s.o)) ∧
      PairAt w' (fun k => (F k ∧ k < w.heap.size) ∨ w.heap.size ≤ k) P go gi gw ⟨outTicked s.o, s.i, s.l, s.sent, s.got⟩ ∧ Chg w w' F ∧ w'.heap[P]? = w.heap[P]? := by
  have e1 := hi.last; have e3 := hi.sn; have e4 := hi.w6; have e5 := hi.t0; have e6 := hi.tn
  by_cases h0 : s.o.waits = []
  · obtain ⟨G, h1⟩ := h.outAt
    have ea : tickPks s.o = [] := if_neg (fun x => x.1 h0)
    have et : outTicked s.o = s.o := if_pos h0
    rw [ea, et]
    refine (tick_none go s.o G w h1 h0).mono fun e w' ⟨a, b⟩ => ?_
    subst b
    exact ⟨_, a, news_nil w, h.mono (fun k a b => .inl ⟨b, a⟩), Chg.refl _ _, rfl⟩
  · obtain ⟨G, h1, _, _, h2⟩ := h.outTurn
    have hpos : 0 < s.o.waits.length := List.length_pos_iff.2 h0
    have et : outTicked s.o = ⟨s.o.ch, s.o.inc, s.o.waits, s.o.last, s.o.ticks + 1⟩ := if_neg h0
    rw [et]
    have h1' := h1.mono (G := fun k => G k ∧ k < w.heap.size) fun k a b => ⟨b, a⟩
    by_cases h4 : (s.o.ticks + 1) % 4 = 0
    · have ea : tickPks s.o = outPks s.o s.o.waits.length := if_pos ⟨h0, h4⟩
      rw [ea]
      refine (tick_tell go s.o _ w h1' hpos (by omega) e5 (by omega) (by omega) (by omega) h4).mono fun e w' ⟨v, a, b, c, d⟩ => ?_
      obtain ⟨k1, k2, k3⟩ := h2 _ w' _ (fun _ => True) c (fun k hk => .inl hk.1) (d.mono fun k _ hk => hk.1)
      refine ⟨v, a, ?_, k1.mono (fun k _ hk => hk.imp id fun hk => hk.1), k2, k3⟩
      rw [outPks_length]
      exact b.news (pks_one _)
    · have ea : tickPks s.o = [] := if_neg (fun x => h4 x.2)
      rw [ea]
      refine (tick_wait go s.o _ w h1' hpos e5 (by omega) h4).mono fun e w' ⟨a, c, d⟩ => ?_
      obtain ⟨k1, k2, k3⟩ := h2 _ w' _ (fun _ => True) c (fun k hk => .inl hk) (d.mono fun k _ hk => hk.1)
      exact ⟨_, a, news_nil w', k1.mono (fun k _ hk => hk.imp id fun hk => hk.1), k2, k3⟩

/-- a load is sent: first step -/
theorem pair_osend (h : PairAt w F P go gi gw s) (hi : Inv N s) (hN : N ≤ 100000) (x : ByteArray) (hx : x.toList ≠ []) (h6 : s.o.waits.length < 6) :
    Calls Try.prog 13 #[.pointer (some ⟨go, 0, none⟩), .string x] w fun e w' => ∃ r, e = .returned (.tuple #[.slice (some ⟨r, 0, none⟩) 1 1, .int .i64 0]) ∧ w'.heap[r]? = some (pkObj ⟨s.o.ch, 0, s.o.inc, s.o.last + 1, 0, x⟩) ∧ w.heap.size ≤ r ∧
      PairAt w' (fun k => (F k ∧ k < w.heap.size) ∨ (w.heap.size ≤ k ∧ k ≠ r)) P go gi gw ⟨⟨s.o.ch, s.o.inc, s.o.waits ++ [x], s.o.last + 1, s.o.ticks⟩, s.i, s.l, s.sent, s.got⟩ ∧ Chg w w' F ∧ w'.heap[P]? = w.heap[P]? := by
  have e1 := hi.last; have e3 := hi.sn
  obtain ⟨G, h1, _, _, h2⟩ := h.outTurn
  have h1' := h1.mono (G := fun k => G k ∧ k < w.heap.size) fun k a b => ⟨b, a⟩
  refine (send_ok go s.o _ w x h1' hx h6 (by omega) (by omega)).mono fun e w' ⟨r, a, b, c, d, f⟩ => ?_
  obtain ⟨k1, k2, k3⟩ := h2 _ w' _ (fun k => k ≠ r) d (fun k hk => hk.imp (fun a => ⟨a.1.1, a.2⟩) id) (f.mono fun k _ hk => hk.1)
  exact ⟨r, a, b, c, k1, k2, k3⟩
theorem pair_osend_empty (h : PairAt w F P go gi gw s) (x : ByteArray) (hx : x.toList = []) :
    Calls Try.prog 13 #[.pointer (some ⟨go, 0, none⟩), .string x] w fun e w' => e = .returned (.tuple #[.slice none 0 0, .int .i64 1]) ∧ w = w' := send_empty _ x w (.inr hx)
theorem pair_osend_full (h : PairAt w F P go gi gw s) (x : ByteArray) (hx : x.toList ≠ []) (h6 : s.o.waits.length = 6) :
    Calls Try.prog 13 #[.pointer (some ⟨go, 0, none⟩), .string x] w fun e w' => e = .returned (.tuple #[.slice none 0 0, .int .i64 7]) ∧ w = w' := by
  obtain ⟨G, h1⟩ := h.outAt
  exact send_full go s.o G w x h1 hx h6
/-- a load is taken out: first step -/
theorem pair_ipop (h : PairAt w F P go gi gw s) (hi : Inv N s) (hN : N ≤ 100000) (x : ByteArray) (l : List ByteArray) (h0 : s.i.loads = x :: l) :
    Calls Try.prog 14 #[.pointer (some ⟨gi, 0, none⟩)] w fun e w' => ∃ r, e = .returned (.tuple #[.string x, .slice (some ⟨r, 0, none⟩) 1 1, .bool true]) ∧ w'.heap[r]? = some (pkObj (ackOf ⟨s.i.ch, s.i.inc, l, s.i.out + 1⟩)) ∧ w.heap.size ≤ r ∧
      PairAt w' (fun k => F k ∧ k < w.heap.size) P go gi gw ⟨s.o, ⟨s.i.ch, s.i.inc, l, s.i.out + 1⟩, s.l, s.sent, s.got⟩ ∧ Chg w w' F ∧ w'.heap[P]? = w.heap[P]? := by
  have e1 := hi.out; have e2 := hi.gl; have e3 := hi.sn
  obtain ⟨G, h1, _, _, h2⟩ := h.inTurn
  have h1' := h1.mono (G := fun k => G k ∧ k < w.heap.size) fun k a b => ⟨b, a⟩
  refine (pop_some gi s.i _ w h1' x l h0 (by omega) (by omega)).mono fun e w' ⟨r, a, b, c, d, f⟩ => ?_
  obtain ⟨k1, k2, k3⟩ := h2 _ w' _ (fun _ => False) d (fun k hk => .inl hk) (f.mono fun k _ hk => hk.1)
  exact ⟨r, a, b, c, k1.mono (fun k _ hk => by rcases hk with hk | ⟨_, hk⟩; exact hk; exact hk.elim), k2, k3⟩
theorem pair_ipop_none (h : PairAt w F P go gi gw s) (h0 : s.i.loads = []) :
    Calls Try.prog 14 #[.pointer (some ⟨gi, 0, none⟩)] w fun e w' => e = .returned (.tuple #[.string ByteArray.empty, .slice none 0 0, .bool false]) ∧ w = w' := by
  obtain ⟨G, h1⟩ := h.inAt
  exact pop_none gi s.i G w h1 h0
end
end Go.Proofs.Ytecpgkcoehnpbaa
