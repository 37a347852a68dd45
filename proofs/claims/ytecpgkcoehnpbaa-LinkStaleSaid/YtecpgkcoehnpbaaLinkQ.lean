/- Layer 17: a pair of the laws' own in memory: sender, receiver, wire, what was sent, what was taken out, each in blocks of its own; what becomes of the pair where one part turns. -/
import Derived.Test.YtecpgkcoehnpbaaLinkP
namespace Go.Proofs.Ytecpgkcoehnpbaa
open Go.RowKit

/-- the pair's own row -/
def pairObj (go gi gw : Nat) (v1 v2 : Value) : Obj := .cells #[.pointer (some ⟨go, 0, none⟩), .pointer (some ⟨gi, 0, none⟩), .pointer (some ⟨gw, 0, none⟩), v1, v2] 71
/-- a pair in memory: each block bears the number of the part that it belongs to -/
def PairAt (w : World) (F : Nat → Prop) (P go gi gw : Nat) (s : PSt) : Prop :=
  ∃ (col : Nat → Nat) (v1 v2 : Value), w.heap[P]? = some (pairObj go gi gw v1 v2) ∧ col P = 0 ∧
    OutAt w (fun k => col k = 1) go s.o ∧ InAt w (fun k => col k = 2) gi s.i ∧ WireAt w (fun k => col k = 3) gw s.l ∧
    Sl w (fun k => col k = 4) 9 1 v1 s.sent.length (strCells s.sent) ∧ Sl w (fun k => col k = 5) 9 1 v2 s.got.length (strCells s.got) ∧
    ∀ k, col k ≤ 5 → F k ∧ k < w.heap.size

theorem recol (w w' : World) (col : Nat → Nat) (c : Nat) (N : Nat → Prop) : ∃ col' : Nat → Nat, (∀ k, k < w.heap.size → col' k = col k) ∧ (∀ k, w.heap.size ≤ k → N k → k < w'.heap.size → col' k = c) ∧
    ∀ k, w.heap.size ≤ k → col' k ≤ 5 → N k ∧ k < w'.heap.size := by
  classical
  refine ⟨fun k => if k < w.heap.size then col k else if N k ∧ k < w'.heap.size then c else 9, fun k hk => if_pos hk, fun k hk hn hl => ?_, fun k hk h => ?_⟩
  · simp only; rw [if_neg (by omega), if_pos ⟨hn, hl⟩]
  · simp only at h
    rw [if_neg (by omega)] at h
    split at h
    · assumption
    · omega

section
variable {w : World} {F : Nat → Prop} {P go gi gw : Nat} {s : PSt}
theorem PairAt.mono {G : Nat → Prop} (h : PairAt w F P go gi gw s) (hg : ∀ k, k < w.heap.size → F k → G k) : PairAt w G P go gi gw s := by
  obtain ⟨col, v1, v2, h0, hp, h1, h2, h3, h4, h5, h6⟩ := h
  exact ⟨col, v1, v2, h0, hp, h1, h2, h3, h4, h5, fun k hk => ⟨hg k (h6 k hk).2 (h6 k hk).1, (h6 k hk).2⟩⟩
theorem PairAt.chg {w' : World} {S : Nat → Prop} (h : PairAt w F P go gi gw s) (hc : Chg w w' S) (hs : ∀ k, F k → ¬ S k) : PairAt w' F P go gi gw s := by
  obtain ⟨col, v1, v2, h0, hp, h1, h2, h3, h4, h5, h6⟩ := h
  have no : ∀ c k, c ≤ 5 → col k = c → ¬ S k := fun c k hc hk => hs k (h6 k (by omega)).1
  exact ⟨col, v1, v2, hc.heap h0 (no 0 P (by omega) hp), hp, h1.chg hc (fun k => no 1 k (by omega)), h2.chg hc (fun k => no 2 k (by omega)), h3.chg hc (fun k => no 3 k (by omega)), h4.chg hc (fun k => no 4 k (by omega)), h5.chg hc (fun k => no 5 k (by omega)),
    fun k hk => ⟨(h6 k hk).1, Nat.lt_of_lt_of_le (h6 k hk).2 hc.size⟩⟩
/-- only new blocks have come -/
theorem PairAt.below {w' : World} {C : Nat} (h : PairAt w F P go gi gw s) (hb : Below C w w') (hC : w.heap.size ≤ C) : PairAt w' F P go gi gw s :=
  h.chg (Chg.of_below hb (fun _ => False) (fun i a b => absurd a (by omega))) (fun _ _ x => x)
theorem PairAt.tight (h : PairAt w F P go gi gw s) : PairAt w (fun k => F k ∧ k < w.heap.size) P go gi gw s := h.mono fun k a b => ⟨b, a⟩
theorem PairAt.row (h : PairAt w F P go gi gw s) : ∃ a1 c1 a2 c2, w.heap[P]? = some (pairObj go gi gw (.slice a1 s.sent.length c1) (.slice a2 s.got.length c2)) := by
  obtain ⟨col, v1, v2, h0, hp, h1, h2, h3, h4, h5, h6⟩ := h
  obtain ⟨a1, c1, rfl, _, _⟩ := h4.shape
  obtain ⟨a2, c2, rfl, _, _⟩ := h5.shape
  exact ⟨a1, c1, a2, c2, h0⟩
theorem PairAt.outAt (h : PairAt w F P go gi gw s) : ∃ G, OutAt w G go s.o := by
  obtain ⟨col, v1, v2, h0, hp, h1, h2, h3, h4, h5, h6⟩ := h; exact ⟨_, h1⟩
theorem PairAt.inAt (h : PairAt w F P go gi gw s) : ∃ G, InAt w G gi s.i := by
  obtain ⟨col, v1, v2, h0, hp, h1, h2, h3, h4, h5, h6⟩ := h; exact ⟨_, h2⟩
theorem PairAt.wireAt (h : PairAt w F P go gi gw s) : ∃ G, WireAt w G gw s.l := by
  obtain ⟨col, v1, v2, h0, hp, h1, h2, h3, h4, h5, h6⟩ := h; exact ⟨_, h3⟩
/-- its sender turns -/
theorem PairAt.outTurn (h : PairAt w F P go gi gw s) : ∃ G : Nat → Prop, OutAt w G go s.o ∧ G go ∧ ¬ G P ∧ ∀ (x : OutSt) (w' : World) (F' N : Nat → Prop), OutAt w' F' go x → (∀ k, F' k → (G k ∧ k < w.heap.size) ∨ (w.heap.size ≤ k ∧ N k)) → Chg w w' G →
    PairAt w' (fun k => (F k ∧ k < w.heap.size) ∨ (w.heap.size ≤ k ∧ N k)) P go gi gw ⟨x, s.i, s.l, s.sent, s.got⟩ ∧ Chg w w' F ∧ w'.heap[P]? = w.heap[P]? := by
  obtain ⟨col, v1, v2, h0, hp, h1, h2, h3, h4, h5, h6⟩ := h
  refine ⟨fun k => col k = 1, h1, h1.1, by omega, fun x w' F' N hx hF hc => ?_⟩
  obtain ⟨col', q1, q2, q3⟩ := recol w w' col 1 N
  have hz := hc.size
  have keep : ∀ c k, c ≤ 5 → k < w'.heap.size → col k = c → col' k = c := fun c k h5' _ hk => (q1 k (h6 k (by omega)).2).trans hk
  have no : ∀ c k, c ≤ 5 → c ≠ 1 → col k = c → ¬ col k = 1 := fun c k _ hne hk => by omega
  refine ⟨⟨col', v1, v2, hc.heap h0 (no 0 P (by omega) (by omega) hp), keep 0 P (by omega) (Nat.lt_of_lt_of_le (heap_lt h0) hz) hp, hx.mono (fun k hl hk => by
      rcases hF k hk with ⟨a, b⟩ | ⟨a, b⟩
      · exact (q1 k b).trans a
      · exact q2 k a b hl), (h2.chg hc (fun k => no 2 k (by omega) (by omega))).mono (fun k hl => keep 2 k (by omega) hl), (h3.chg hc (fun k => no 3 k (by omega) (by omega))).mono (fun k hl => keep 3 k (by omega) hl), (h4.chg hc (fun k => no 4 k (by omega) (by omega))).mono (fun k hl => keep 4 k (by omega) hl), (h5.chg hc (fun k => no 5 k (by omega) (by omega))).mono (fun k hl => keep 5 k (by omega) hl), fun k hk => ?_⟩, hc.mono (fun k _ hk => (h6 k (by omega)).1), hc.block P (heap_lt h0) (by omega)⟩
  by_cases hl : k < w.heap.size
  · rw [q1 k hl] at hk
    exact ⟨.inl ⟨(h6 k hk).1, hl⟩, by omega⟩
  · have := q3 k (by omega) hk
    exact ⟨.inr ⟨by omega, this.1⟩, this.2⟩
/-- its receiver turns -/
theorem PairAt.inTurn (h : PairAt w F P go gi gw s) : ∃ G : Nat → Prop, InAt w G gi s.i ∧ G gi ∧ ¬ G P ∧ ∀ (x : InSt) (w' : World) (F' N : Nat → Prop), InAt w' F' gi x → (∀ k, F' k → (G k ∧ k < w.heap.size) ∨ (w.heap.size ≤ k ∧ N k)) → Chg w w' G →
    PairAt w' (fun k => (F k ∧ k < w.heap.size) ∨ (w.heap.size ≤ k ∧ N k)) P go gi gw ⟨s.o, x, s.l, s.sent, s.got⟩ ∧ Chg w w' F ∧ w'.heap[P]? = w.heap[P]? := by
  obtain ⟨col, v1, v2, h0, hp, h1, h2, h3, h4, h5, h6⟩ := h
  refine ⟨fun k => col k = 2, h2, h2.1, by omega, fun x w' F' N hx hF hc => ?_⟩
  obtain ⟨col', q1, q2, q3⟩ := recol w w' col 2 N
  have hz := hc.size
  have keep : ∀ c k, c ≤ 5 → k < w'.heap.size → col k = c → col' k = c := fun c k h5' _ hk => (q1 k (h6 k (by omega)).2).trans hk
  have no : ∀ c k, c ≤ 5 → c ≠ 2 → col k = c → ¬ col k = 2 := fun c k _ hne hk => by omega
  refine ⟨⟨col', v1, v2, hc.heap h0 (no 0 P (by omega) (by omega) hp), keep 0 P (by omega) (Nat.lt_of_lt_of_le (heap_lt h0) hz) hp, (h1.chg hc (fun k => no 1 k (by omega) (by omega))).mono (fun k hl => keep 1 k (by omega) hl), hx.mono (fun k hl hk => by
      rcases hF k hk with ⟨a, b⟩ | ⟨a, b⟩
      · exact (q1 k b).trans a
      · exact q2 k a b hl), (h3.chg hc (fun k => no 3 k (by omega) (by omega))).mono (fun k hl => keep 3 k (by omega) hl), (h4.chg hc (fun k => no 4 k (by omega) (by omega))).mono (fun k hl => keep 4 k (by omega) hl), (h5.chg hc (fun k => no 5 k (by omega) (by omega))).mono (fun k hl => keep 5 k (by omega) hl), fun k hk => ?_⟩, hc.mono (fun k _ hk => (h6 k (by omega)).1), hc.block P (heap_lt h0) (by omega)⟩
  by_cases hl : k < w.heap.size
  · rw [q1 k hl] at hk
    exact ⟨.inl ⟨(h6 k hk).1, hl⟩, by omega⟩
  · have := q3 k (by omega) hk
    exact ⟨.inr ⟨by omega, this.1⟩, this.2⟩
/-- its wire turns -/
theorem PairAt.wireTurn (h : PairAt w F P go gi gw s) : ∃ G : Nat → Prop, WireAt w G gw s.l ∧ G gw ∧ ¬ G P ∧ ∀ (x : List Pk) (w' : World) (F' N : Nat → Prop), WireAt w' F' gw x → (∀ k, F' k → (G k ∧ k < w.heap.size) ∨ (w.heap.size ≤ k ∧ N k)) → Chg w w' G →
    PairAt w' (fun k => (F k ∧ k < w.heap.size) ∨ (w.heap.size ≤ k ∧ N k)) P go gi gw ⟨s.o, s.i, x, s.sent, s.got⟩ ∧ Chg w w' F ∧ w'.heap[P]? = w.heap[P]? := by
  obtain ⟨col, v1, v2, h0, hp, h1, h2, h3, h4, h5, h6⟩ := h
  refine ⟨fun k => col k = 3, h3, h3.1, by omega, fun x w' F' N hx hF hc => ?_⟩
  obtain ⟨col', q1, q2, q3⟩ := recol w w' col 3 N
  have hz := hc.size
  have keep : ∀ c k, c ≤ 5 → k < w'.heap.size → col k = c → col' k = c := fun c k h5' _ hk => (q1 k (h6 k (by omega)).2).trans hk
  have no : ∀ c k, c ≤ 5 → c ≠ 3 → col k = c → ¬ col k = 3 := fun c k _ hne hk => by omega
  refine ⟨⟨col', v1, v2, hc.heap h0 (no 0 P (by omega) (by omega) hp), keep 0 P (by omega) (Nat.lt_of_lt_of_le (heap_lt h0) hz) hp, (h1.chg hc (fun k => no 1 k (by omega) (by omega))).mono (fun k hl => keep 1 k (by omega) hl), (h2.chg hc (fun k => no 2 k (by omega) (by omega))).mono (fun k hl => keep 2 k (by omega) hl), hx.mono (fun k hl hk => by
      rcases hF k hk with ⟨a, b⟩ | ⟨a, b⟩
      · exact (q1 k b).trans a
      · exact q2 k a b hl), (h4.chg hc (fun k => no 4 k (by omega) (by omega))).mono (fun k hl => keep 4 k (by omega) hl), (h5.chg hc (fun k => no 5 k (by omega) (by omega))).mono (fun k hl => keep 5 k (by omega) hl), fun k hk => ?_⟩, hc.mono (fun k _ hk => (h6 k (by omega)).1), hc.block P (heap_lt h0) (by omega)⟩
  by_cases hl : k < w.heap.size
  · rw [q1 k hl] at hk
    exact ⟨.inl ⟨(h6 k hk).1, hl⟩, by omega⟩
  · have := q3 k (by omega) hk
    exact ⟨.inr ⟨by omega, this.1⟩, this.2⟩
/-- a text more at its list of what was sent -/
theorem PairAt.sentMore (h : PairAt w F P go gi gw s) (x : ByteArray) (hl : s.sent.length ≤ 1000) : ∃ a1 c1 a2 c2 b1 d1 w3, w.heap[P]? = some (pairObj go gi gw (.slice a1 s.sent.length c1) (.slice a2 s.got.length c2)) ∧
    Sem.run Try.prog (Builtin.append_ #[69, 69] 69 #[.slice a1 s.sent.length c1, .slice (some ⟨w.heap.size, 0, none⟩) 1 1]) (w.alloc (.cells #[.string x] 9)) = .ok (.slice b1 (s.sent.length + 1) d1) w3 ∧
    w3.heap[P]? = some (pairObj go gi gw (.slice a1 s.sent.length c1) (.slice a2 s.got.length c2)) ∧ Chg w w3 F ∧
    PairAt (w3.setCell ⟨P, 3, none⟩ (.slice b1 (s.sent.length + 1) d1)) (fun k => (F k ∧ k < w.heap.size) ∨ w.heap.size ≤ k) P go gi gw ⟨s.o, s.i, s.l, s.sent ++ [x], s.got⟩ ∧ Chg w (w3.setCell ⟨P, 3, none⟩ (.slice b1 (s.sent.length + 1) d1)) F := by
  obtain ⟨col, v1, v2, h0, hp, h1, h2, h3, h4, h5, h6⟩ := h
  have hFP := (h6 P (by omega)).1
  have hlt := heap_lt h0
  have sA : Sl (w.alloc (.cells #[.string x] 9)) (fun k => col k = 4) 9 1 v1 s.sent.length (strCells s.sent) := h4.keep fun k _ hk => Below.heap_alloc _ _ _ hk
  obtain ⟨v', w3, hrun, s3, ch3⟩ := append_str x sA (heap_alloc_new w _) (by omega)
  obtain ⟨b1, d1, rfl, _, _⟩ := s3.shape
  have hz3 : w.heap.size + 1 ≤ w3.heap.size := by have := ch3.size; rw [World.size_alloc] at this; exact this
  have zA : (w.alloc (.cells #[.string x] 9)).heap.size = w.heap.size + 1 := World.size_alloc _ _
  have own : ∀ k, v1.ownBlock = some k → col k = 4 := fun k hk => (own_lt sA hk).1
  have c3 : Chg w w3 (fun k => v1.ownBlock = some k) := ((Chg.refl w _).alloc _).trans ch3 (fun _ _ h => h)
  have hP3 : w3.heap[P]? = some (pairObj go gi gw v1 v2) := c3.heap h0 (fun hk => by have := own P hk; omega)
  obtain ⟨col', q1, q2, q3⟩ := recol w w3 col 4 (fun _ => True)
  have keep : ∀ c k, c ≤ 5 → k < w3.heap.size → col k = c → col' k = c := fun c k h5' _ hk => (q1 k (h6 k (by omega)).2).trans hk
  have no : ∀ c k, c ≤ 5 → c ≠ 4 → col k = c → ¬ v1.ownBlock = some k := fun c k _ hne hk ho => by have := own k ho; omega
  have c4 : Chg w3 (w3.setCell ⟨P, 3, none⟩ (.slice b1 (s.sent.length + 1) d1)) (fun k => col' k = 0) := (Chg.refl w3 _).setCell (fun _ => keep 0 P (by omega) (heap_lt hP3) hp) _
  have hF3 : Chg w w3 F := c3.mono (fun k hk ho => (h6 k (by have := own k ho; omega)).1)
  obtain ⟨a1, e1, rfl, _, _⟩ := h4.shape
  obtain ⟨a2, e2, rfl, _, _⟩ := h5.shape
  refine ⟨a1, e1, a2, e2, b1, d1, w3, h0, hrun, hP3, hF3, ⟨col', .slice b1 (s.sent.length + 1) d1, .slice a2 s.got.length e2, heap_setCell_same (i := 3) hP3 _, keep 0 P (by omega) (heap_lt hP3) hp, ((h1.chg c3 (fun k => no 1 k (by omega) (by omega))).mono (fun k hl => keep 1 k (by omega) hl)).chg c4 (fun k hk h => by omega), ((h2.chg c3 (fun k => no 2 k (by omega) (by omega))).mono (fun k hl => keep 2 k (by omega) hl)).chg c4 (fun k hk h => by omega), ((h3.chg c3 (fun k => no 3 k (by omega) (by omega))).mono (fun k hl => keep 3 k (by omega) hl)).chg c4 (fun k hk h => by omega), (by
      have e : (s.sent ++ [x]).length = s.sent.length + 1 := by simp
      rw [e]
      refine (s3.mono (G := fun k => col' k = 4) fun k hl hk => ?_).chg c4 (fun k hk h => by omega)
      rcases hk with ⟨hk, hk2⟩ | hk
      · by_cases hl' : k < w.heap.size
        · exact (q1 k hl').trans hk
        · exact q2 k (by omega) trivial hl
      · exact q2 k (by omega) trivial hl), ((h5.chg c3 (fun k => no 5 k (by omega) (by omega))).mono (fun k hl => keep 5 k (by omega) hl)).chg c4 (fun k hk h => by omega), fun k hk => ?_⟩, hF3.setCell (fun _ => hFP) _⟩
  rw [World.size_setCell]
  by_cases hl : k < w.heap.size
  · rw [q1 k hl] at hk
    exact ⟨.inl ⟨(h6 k hk).1, hl⟩, by omega⟩
  · have := q3 k (by omega) hk
    exact ⟨.inr (by omega), this.2⟩
/-- a text more at its list of what was taken out -/
theorem PairAt.gotMore (h : PairAt w F P go gi gw s) (x : ByteArray) (hl : s.got.length ≤ 1000) : ∃ a1 c1 a2 c2 b1 d1 w3, w.heap[P]? = some (pairObj go gi gw (.slice a1 s.sent.length c1) (.slice a2 s.got.length c2)) ∧
    Sem.run Try.prog (Builtin.append_ #[69, 69] 69 #[.slice a2 s.got.length c2, .slice (some ⟨w.heap.size, 0, none⟩) 1 1]) (w.alloc (.cells #[.string x] 9)) = .ok (.slice b1 (s.got.length + 1) d1) w3 ∧
    w3.heap[P]? = some (pairObj go gi gw (.slice a1 s.sent.length c1) (.slice a2 s.got.length c2)) ∧ Chg w w3 F ∧
    PairAt (w3.setCell ⟨P, 4, none⟩ (.slice b1 (s.got.length + 1) d1)) (fun k => (F k ∧ k < w.heap.size) ∨ w.heap.size ≤ k) P go gi gw ⟨s.o, s.i, s.l, s.sent, s.got ++ [x]⟩ ∧ Chg w (w3.setCell ⟨P, 4, none⟩ (.slice b1 (s.got.length + 1) d1)) F := by
  obtain ⟨col, v1, v2, h0, hp, h1, h2, h3, h4, h5, h6⟩ := h
  have hFP := (h6 P (by omega)).1
  have hlt := heap_lt h0
  have sA : Sl (w.alloc (.cells #[.string x] 9)) (fun k => col k = 5) 9 1 v2 s.got.length (strCells s.got) := h5.keep fun k _ hk => Below.heap_alloc _ _ _ hk
  obtain ⟨v', w3, hrun, s3, ch3⟩ := append_str x sA (heap_alloc_new w _) (by omega)
  obtain ⟨b1, d1, rfl, _, _⟩ := s3.shape
  have hz3 : w.heap.size + 1 ≤ w3.heap.size := by have := ch3.size; rw [World.size_alloc] at this; exact this
  have zA : (w.alloc (.cells #[.string x] 9)).heap.size = w.heap.size + 1 := World.size_alloc _ _
  have own : ∀ k, v2.ownBlock = some k → col k = 5 := fun k hk => (own_lt sA hk).1
  have c3 : Chg w w3 (fun k => v2.ownBlock = some k) := ((Chg.refl w _).alloc _).trans ch3 (fun _ _ h => h)
  have hP3 : w3.heap[P]? = some (pairObj go gi gw v1 v2) := c3.heap h0 (fun hk => by have := own P hk; omega)
  obtain ⟨col', q1, q2, q3⟩ := recol w w3 col 5 (fun _ => True)
  have keep : ∀ c k, c ≤ 5 → k < w3.heap.size → col k = c → col' k = c := fun c k h5' _ hk => (q1 k (h6 k (by omega)).2).trans hk
  have no : ∀ c k, c ≤ 5 → c ≠ 5 → col k = c → ¬ v2.ownBlock = some k := fun c k _ hne hk ho => by have := own k ho; omega
  have c4 : Chg w3 (w3.setCell ⟨P, 4, none⟩ (.slice b1 (s.got.length + 1) d1)) (fun k => col' k = 0) := (Chg.refl w3 _).setCell (fun _ => keep 0 P (by omega) (heap_lt hP3) hp) _
  have hF3 : Chg w w3 F := c3.mono (fun k hk ho => (h6 k (by have := own k ho; omega)).1)
  obtain ⟨a1, e1, rfl, _, _⟩ := h4.shape
  obtain ⟨a2, e2, rfl, _, _⟩ := h5.shape
  refine ⟨a1, e1, a2, e2, b1, d1, w3, h0, hrun, hP3, hF3, ⟨col', .slice a1 s.sent.length e1, .slice b1 (s.got.length + 1) d1, heap_setCell_same (i := 4) hP3 _, keep 0 P (by omega) (heap_lt hP3) hp, ((h1.chg c3 (fun k => no 1 k (by omega) (by omega))).mono (fun k hl => keep 1 k (by omega) hl)).chg c4 (fun k hk h => by omega), ((h2.chg c3 (fun k => no 2 k (by omega) (by omega))).mono (fun k hl => keep 2 k (by omega) hl)).chg c4 (fun k hk h => by omega), ((h3.chg c3 (fun k => no 3 k (by omega) (by omega))).mono (fun k hl => keep 3 k (by omega) hl)).chg c4 (fun k hk h => by omega), ((h4.chg c3 (fun k => no 4 k (by omega) (by omega))).mono (fun k hl => keep 4 k (by omega) hl)).chg c4 (fun k hk h => by omega), (by
      have e : (s.got ++ [x]).length = s.got.length + 1 := by simp
      rw [e]
      refine (s3.mono (G := fun k => col' k = 5) fun k hl hk => ?_).chg c4 (fun k hk h => by omega)
      rcases hk with ⟨hk, hk2⟩ | hk
      · by_cases hl' : k < w.heap.size
        · exact (q1 k hl').trans hk
        · exact q2 k (by omega) trivial hl
      · exact q2 k (by omega) trivial hl), fun k hk => ?_⟩, hF3.setCell (fun _ => hFP) _⟩
  rw [World.size_setCell]
  by_cases hl : k < w.heap.size
  · rw [q1 k hl] at hk
    exact ⟨.inl ⟨(h6 k hk).1, hl⟩, by omega⟩
  · have := q3 k (by omega) hk
    exact ⟨.inr (by omega), this.2⟩
end
end Go.Proofs.Ytecpgkcoehnpbaa
