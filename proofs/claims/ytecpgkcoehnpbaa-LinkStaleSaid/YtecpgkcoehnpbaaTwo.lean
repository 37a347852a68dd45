/- Layer 16: a wire beside a list of packets of the law's own; what each call makes of the two. -/
import Derived.Test.YtecpgkcoehnpbaaWireC
namespace Go.Proofs.Ytecpgkcoehnpbaa
open Go.RowKit

/-- a wire and a slice of packets, each in blocks of its own from B on, none of them in X -/
def Two (B : Nat) (X : Nat → Prop) (w : World) (g : Nat) (l : List Pk) (v : Value) (l2 : List Pk) : Prop :=
  ∃ F G : Nat → Prop, WireAt w F g l ∧ Sl w G 23 6 v l2.length (pksCells l2) ∧ (∀ k, F k → B ≤ k ∧ k < w.heap.size ∧ ¬ X k) ∧ (∀ k, G k → B ≤ k ∧ k < w.heap.size ∧ ¬ X k ∧ ¬ F k) ∧ ∀ k, X k → k < w.heap.size
/-- the blocks of X are as they were -/
def Kept (X : Nat → Prop) (w w' : World) : Prop := ∀ k o, X k → w.heap[k]? = some o → w'.heap[k]? = some o

section
variable {B g : Nat} {X : Nat → Prop} {w : World} {l : List Pk} {v : Value} {l2 : List Pk}
theorem Two.wire (h : Two B X w g l v l2) : ∃ F, WireAt w F g l := by obtain ⟨F, _, h, _⟩ := h; exact ⟨F, h⟩
theorem Two.slice (h : Two B X w g l v l2) : ∃ G, Sl w G 23 6 v l2.length (pksCells l2) := by obtain ⟨_, G, _, h, _⟩ := h; exact ⟨G, h⟩
/-- only new blocks have turned; X may become others that are new -/
theorem Two.next {C : Nat} {w' : World} {Y : Nat → Prop} (h : Two B X w g l v l2) (hb : Below C w w') (hC : w.heap.size ≤ C) (hY : ∀ k, Y k → (X k ∨ w.heap.size ≤ k) ∧ k < w'.heap.size) : Two B Y w' g l v l2 := by
  obtain ⟨F, G, h1, h2, h3, h4, h5⟩ := h
  have hs := hb.size
  have hc : Chg w w' (fun _ => False) := Chg.of_below hb _ (fun i h1 h2 => absurd h1 (by omega))
  refine ⟨F, G, h1.chg hc (fun _ _ x => x), h2.chg hc (fun _ _ x => x), fun k hk => ⟨(h3 k hk).1, by have := (h3 k hk).2.1; omega, fun y => ?_⟩, fun k hk => ⟨(h4 k hk).1, by have := (h4 k hk).2.1; omega, fun y => ?_, (h4 k hk).2.2.2⟩, fun k y => (hY k y).2⟩
  · rcases (hY k y).1 with x | x
    · exact (h3 k hk).2.2 x
    · have := (h3 k hk).2.1; omega
  · rcases (hY k y).1 with x | x
    · exact (h4 k hk).2.2.1 x
    · have := (h4 k hk).2.1; omega
theorem Two.below {C : Nat} {w' : World} (h : Two B X w g l v l2) (hb : Below C w w') (hC : w.heap.size ≤ C) : Two B X w' g l v l2 :=
  h.next hb hC (fun k x => by obtain ⟨_, _, _, _, _, _, h5⟩ := h; exact ⟨.inl x, Nat.lt_of_lt_of_le (h5 k x) hb.size⟩)
theorem Two.forget (h : Two B X w g l v l2) : Two B (fun _ => False) w g l v l2 := h.next (Below.refl w.heap.size w) (Nat.le_refl _) (fun _ x => x.elim)
/-- the wire has turned -/
theorem Two.turned (h : Two B X w g l v l2) (hB : B ≤ w.heap.size) : ∃ F, WireAt w F g l ∧ ∀ l' w' F', WireAt w' F' g l' → (∀ k, F' k → (F k ∧ k < w.heap.size) ∨ w.heap.size ≤ k) → Chg w w' F → Two B X w' g l' v l2 ∧ Below B w w' ∧ Kept X w w' := by
  obtain ⟨F, G, h1, h2, h3, h4, h5⟩ := h
  refine ⟨F, h1, fun l' w' F' a b c => ⟨⟨fun k => F' k ∧ k < w'.heap.size, G, a.mono (fun k hk x => ⟨x, hk⟩), h2.chg c (fun k hk => (h4 k hk).2.2.2), fun k hk => ⟨?_, hk.2, fun x => ?_⟩, fun k hk => ⟨(h4 k hk).1, by have := (h4 k hk).2.1; have := c.size; omega, (h4 k hk).2.2.1, fun hx => ?_⟩, fun k x => Nat.lt_of_lt_of_le (h5 k x) c.size⟩, c.below hB (fun i hi hx => by have := (h3 i hx).1; omega), fun k o x hk => c.heap hk (fun y => (h3 k y).2.2 x)⟩⟩
  · rcases b k hk.1 with ⟨x, _⟩ | x
    · exact (h3 k x).1
    · omega
  · rcases b k hk.1 with ⟨y, _⟩ | y
    · exact (h3 k y).2.2 x
    · have := h5 k x; omega
  · rcases b k hx.1 with ⟨x, _⟩ | x
    · exact (h4 k hk).2.2.2 x
    · have := (h4 k hk).2.1; omega

theorem two_send (h : Two B X w g l v l2) (hB : B ≤ w.heap.size) (l3 : List Pk) (x : Value) (hx : News w 6 x l3.length (pksCells l3)) (hl : l.length + l3.length ≤ 1000) :
    Calls Try.prog 23 #[.pointer (some ⟨g, 0, none⟩), x] w fun e w' => e = .returned (.tuple #[]) ∧ Two B X w' g (cutPks (l ++ l3)) v l2 ∧ Below B w w' ∧ Kept X w w' := by
  obtain ⟨F, h1, h2⟩ := h.turned hB
  exact (wireSend_any g l l3 F w h1 x hx hl).mono fun e w' ⟨a, b, c⟩ => ⟨a, h2 _ w' _ b (fun k hk => hk) c⟩
theorem two_take (h : Two B X w g l v l2) (hB : B ≤ w.heap.size) (i : Nat) (p : Pk) (hi : l[i]? = some p) (hl : l.length ≤ 500) :
    Calls Try.prog 25 #[.pointer (some ⟨g, 0, none⟩), .int .i64 (i : Int)] w fun e w' => e = .returned (.tuple #[.agg #[.int .i64 p.ch, .int .i64 p.back, .int .i64 p.inc, .int .i64 p.seq, .int .i64 p.ack, .string p.load], .bool true]) ∧ Two B X w' g (l.eraseIdx i) v l2 ∧ Below B w w' ∧ Kept X w w' := by
  obtain ⟨F, h1, h2⟩ := h.turned hB
  exact (wireTake_some g l F w h1 i p hi hl).mono fun e w' ⟨a, b, c⟩ => ⟨a, h2 _ w' _ b.wire (fun k hk => .inl hk) c⟩
theorem two_lose (h : Two B X w g l v l2) (hB : B ≤ w.heap.size) (i : Nat) (hi : i < l.length) (hl : l.length ≤ 500) :
    Calls Try.prog 31 #[.pointer (some ⟨g, 0, none⟩), .int .i64 (i : Int)] w fun e w' => e = .returned (.bool true) ∧ Two B X w' g (l.eraseIdx i) v l2 ∧ Below B w w' ∧ Kept X w w' := by
  obtain ⟨F, h1, h2⟩ := h.turned hB
  exact (wireLose_some g l F w h1 i _ (List.getElem?_eq_getElem hi) hl).mono fun e w' ⟨a, b, c⟩ => ⟨a, h2 _ w' _ b (fun k hk => .inl hk) c⟩
theorem two_twice (h : Two B X w g l v l2) (hB : B ≤ w.heap.size) (i : Nat) (p : Pk) (hi : l[i]? = some p) (hl : l.length ≤ 500) :
    Calls Try.prog 27 #[.pointer (some ⟨g, 0, none⟩), .int .i64 (i : Int)] w fun e w' => e = .returned (.bool true) ∧ Two B X w' g (cutPks (l ++ [p])) v l2 ∧ Below B w w' ∧ Kept X w w' := by
  obtain ⟨F, h1, h2⟩ := h.turned hB
  exact (wireTwice_some g l F w h1 i p hi hl).mono fun e w' ⟨a, b, c⟩ => ⟨a, h2 _ w' _ b (fun k hk => hk) c⟩
theorem two_turn (h : Two B X w g l v l2) (hB : B ≤ w.heap.size) (i : Nat) (to : Int) (p : Pk) (hi : l[i]? = some p) (hl : l.length ≤ 500) :
    Calls Try.prog 24 #[.pointer (some ⟨g, 0, none⟩), .int .i64 (i : Int), .int .i64 to] w fun e w' => e = .returned (.bool true) ∧ Two B X w' g (insPk (l.eraseIdx i) (turnTo to (l.length - 1)) p) v l2 ∧ Below B w w' ∧ Kept X w w' := by
  obtain ⟨F, h1, h2⟩ := h.turned hB
  exact (wireTurn_some g l F w h1 i to p hi hl).mono fun e w' ⟨a, b, c⟩ => ⟨a, h2 _ w' _ b (fun k hk => .inl hk) c⟩
theorem two_clear (h : Two B X w g l v l2) (hB : B ≤ w.heap.size) :
    Calls Try.prog 32 #[.pointer (some ⟨g, 0, none⟩)] w fun e w' => e = .returned (.tuple #[]) ∧ Two B X w' g [] v l2 ∧ Below B w w' ∧ Kept X w w' := by
  obtain ⟨F, h1, h2⟩ := h.turned hB
  obtain ⟨_, x, h3, _⟩ := id h1
  exact (wireClear_any g l (fun k => F k ∧ k < w.heap.size) w (h1.mono (fun k a b => ⟨b, a⟩))).mono fun e w' ⟨a, b, c⟩ => ⟨a, h2 _ w' _ b (fun k hk => .inl hk) (c.mono fun k _ hk => hk.1)⟩
/-- where there is no packet nothing turns -/
theorem two_take_none (h : Two B X w g l v l2) (hB : B ≤ w.heap.size) (i : Int) (hi : i < 0 ∨ (l.length : Int) ≤ i) :
    Calls Try.prog 25 #[.pointer (some ⟨g, 0, none⟩), .int .i64 i] w fun e w' => e = .returned (.tuple #[.agg #[.int .i64 0, .int .i64 0, .int .i64 0, .int .i64 0, .int .i64 0, .string ByteArray.empty], .bool false]) ∧ Two B X w' g l v l2 ∧ Below B w w' ∧ Kept X w w' := by
  obtain ⟨F, h1⟩ := h.wire
  exact (wireTake_none g l F w h1 i hi).mono fun e w' ⟨a, b⟩ => ⟨a, h.below b (Nat.le_refl _), b.mono hB, fun k o x hk => below_heap b hk (heap_lt hk)⟩
theorem two_lose_none (h : Two B X w g l v l2) (hB : B ≤ w.heap.size) (i : Int) (hi : i < 0 ∨ (l.length : Int) ≤ i) :
    Calls Try.prog 31 #[.pointer (some ⟨g, 0, none⟩), .int .i64 i] w fun e w' => e = .returned (.bool false) ∧ Two B X w' g l v l2 ∧ Below B w w' ∧ Kept X w w' := by
  obtain ⟨F, h1⟩ := h.wire
  exact (wireLose_none g l F w h1 i hi).mono fun e w' ⟨a, b⟩ => ⟨a, h.below b (Nat.le_refl _), b.mono hB, fun k o x hk => below_heap b hk (heap_lt hk)⟩
theorem two_turn_none (h : Two B X w g l v l2) (hB : B ≤ w.heap.size) (i to : Int) (hi : i < 0 ∨ (l.length : Int) ≤ i) :
    Calls Try.prog 24 #[.pointer (some ⟨g, 0, none⟩), .int .i64 i, .int .i64 to] w fun e w' => e = .returned (.bool false) ∧ Two B X w' g l v l2 ∧ Below B w w' ∧ Kept X w w' := by
  obtain ⟨F, h1⟩ := h.wire
  exact (wireTurn_none g l F w h1 i to hi).mono fun e w' ⟨a, b⟩ => ⟨a, h.below b (Nat.le_refl _), b.mono hB, fun k o x hk => below_heap b hk (heap_lt hk)⟩
theorem two_twice_none (h : Two B X w g l v l2) (i : Int) (hi : i < 0 ∨ (l.length : Int) ≤ i) :
    Calls Try.prog 27 #[.pointer (some ⟨g, 0, none⟩), .int .i64 i] w fun e w' => e = .returned (.bool false) ∧ w = w' := by
  obtain ⟨F, h1⟩ := h.wire
  exact wireTwice_none g l F w h1 i hi
theorem two_len (h : Two B X w g l v l2) : Calls Try.prog 26 #[.pointer (some ⟨g, 0, none⟩)] w fun e w' => e = .returned (.int .i64 (l.length : Nat)) ∧ w = w' := by
  obtain ⟨F, h1⟩ := h.wire
  exact wireLen_any g l F w h1
theorem cutPks_id (l : List Pk) (h : l.length ≤ 64) : cutPks l = l := by unfold cutPks; rw [show l.length - 64 = 0 by omega, List.drop_zero]

/-- the law's own list takes more packets -/
theorem two_append (h : Two B X w g l v l2) (hB : B ≤ w.heap.size) (l3 : List Pk) (x : Value) (hx : News w 6 x l3.length (pksCells l3)) (hl : l2.length + l3.length ≤ 1000) :
    ∃ ao c w', Sem.run Try.prog (Builtin.append_ #[28, 28] 28 #[v, x]) w = .ok (.slice ao (l2 ++ l3).length c) w' ∧ Two B X w' g l (.slice ao (l2 ++ l3).length c) (l2 ++ l3) ∧ Below B w w' ∧ Kept X w w' := by
  obtain ⟨F, G, h1, h2, h3, h4, h5⟩ := h
  obtain ⟨v', w1, hrun, s1, ch1⟩ := append_pks h2 hx (by omega)
  have own : ∀ k, v.ownBlock = some k → G k := fun k hk => (own_lt h2 hk).1
  obtain ⟨ao1, cap1, rfl, _, _⟩ := s1.shape
  have hz := ch1.size
  refine ⟨ao1, cap1, w1, hrun, ⟨F, fun k => ((G k ∧ k < w.heap.size) ∨ k = w.heap.size) ∧ k < w1.heap.size, h1.chg ch1 (fun k hk hx => (h4 k (own k hx)).2.2.2 hk), s1.mono (fun k hk x => ⟨x, hk⟩), fun k hk => ⟨(h3 k hk).1, by have := (h3 k hk).2.1; omega, (h3 k hk).2.2⟩, fun k hk => ⟨?_, hk.2, fun x => ?_, fun hx => ?_⟩, fun k x => by have := h5 k x; omega⟩, ch1.below hB (fun i hi hx => by have := (h4 i (own i hx)).1; omega), fun k o x hk => ch1.heap hk (fun y => (h4 k (own k y)).2.2.1 x)⟩
  · rcases hk.1 with ⟨x, _⟩ | x
    · exact (h4 k x).1
    · omega
  · rcases hk.1 with ⟨y, _⟩ | y
    · exact (h4 k y).2.2.1 x
    · have := h5 k x; omega
  · rcases hk.1 with ⟨x, _⟩ | x
    · exact (h4 k x).2.2.2 hx
    · have := (h3 k hx).2.1; omega
end
end Go.Proofs.Ytecpgkcoehnpbaa
