/- Memory that the law's own call has made: which blocks have turned (Chg), and slices that lie anywhere in a block of their own (Sl): append, cut, read. Over any program. -/
import Derived.Test.YtpnmhpkpkejdiaaRows
import Derived.WalkKit
import Derived.WalkSpells
import Derived.WalkLawsBesides
import Derived.Deep.QuietTactic
import Derived.BigQuiet
import Derived.Lib.Hide
namespace Go.Proofs.Ytpnmhpkpkejdiaa
open Go.RowKit

/-- from w to w' only blocks of S, and new ones, have turned -/
structure Chg (w w' : World) (S : Nat → Prop) : Prop where
  os : w'.os = w.os
  tape : w'.tape = w.tape
  output : w'.output = w.output
  size : w.heap.size ≤ w'.heap.size
  block : ∀ k, k < w.heap.size → ¬ S k → w'.heap[k]? = w.heap[k]?

theorem Chg.refl (w : World) (S : Nat → Prop) : Chg w w S := ⟨rfl, rfl, rfl, Nat.le_refl _, fun _ _ _ => rfl⟩
theorem Chg.trans {a b c : World} {S T : Nat → Prop} (h : Chg a b S) (k : Chg b c T) (hs : ∀ i, i < a.heap.size → T i → S i) : Chg a c S :=
  ⟨k.os.trans h.os, k.tape.trans h.tape, k.output.trans h.output, Nat.le_trans h.size k.size, fun i hi hn => (k.block i (Nat.lt_of_lt_of_le hi h.size) (fun ht => hn (hs i hi ht))).trans (h.block i hi hn)⟩
theorem Chg.mono {a b : World} {S T : Nat → Prop} (h : Chg a b S) (hs : ∀ i, i < a.heap.size → S i → T i) : Chg a b T :=
  ⟨h.os, h.tape, h.output, h.size, fun i hi hn => h.block i hi (fun ht => hn (hs i hi ht))⟩
theorem Chg.alloc {a w : World} {S : Nat → Prop} (h : Chg a w S) (o : Obj) : Chg a (w.alloc o) S :=
  ⟨h.os, h.tape, h.output, Nat.le_trans h.size (by simp), fun i hi hn => (Below.heap_alloc w o i (Nat.lt_of_lt_of_le hi h.size)).trans (h.block i hi hn)⟩
theorem Chg.drew {a w : World} {S : Nat → Prop} (h : Chg a w S) : Chg a w.drew S := ⟨h.os, h.tape, h.output, h.size, h.block⟩
theorem Chg.drewN {a w : World} {S : Nat → Prop} (h : Chg a w S) (n : Nat) : Chg a (w.drewN n) S := ⟨h.os, h.tape, h.output, h.size, h.block⟩
theorem Chg.setCell {a w : World} {S : Nat → Prop} (h : Chg a w S) {p : Addr} (hp : p.block < a.heap.size → S p.block) (u : Value) : Chg a (w.setCell p u) S :=
  ⟨h.os, h.tape, h.output, by simpa [World.setCell] using h.size, fun i hi hn => (Below.heap_setCell w p u i (by rintro rfl; exact hn (hp hi))).trans (h.block i hi hn)⟩
theorem Chg.of_below {w w' : World} {B : Nat} (h : Below B w w') (S : Nat → Prop) (hB : ∀ i, i < w.heap.size → B ≤ i → S i) : Chg w w' S :=
  ⟨h.os, h.tape, h.output, h.size, fun i hi hn => h.block i (Nat.lt_of_not_le (fun hb => hn (hB i hi hb)))⟩
theorem Chg.below {w w' : World} {S : Nat → Prop} {B : Nat} (h : Chg w w' S) (hB : B ≤ w.heap.size) (hs : ∀ i, i < B → ¬ S i) : Below B w w' :=
  ⟨h.os, h.tape, h.output, h.size, fun i hi => h.block i (Nat.lt_of_lt_of_le hi hB) (hs i hi)⟩
theorem Chg.grown {w w' : World} {row : Option Nat} (hg : w.grownBy w' row) : Chg w w' (fun k => row = some k) :=
  ⟨hg.os, hg.tape, hg.output, hg.size, fun k hk hn => hg.block k hk (fun e => hn e.symm)⟩
theorem Chg.heap {w w' : World} {S : Nat → Prop} (h : Chg w w' S) {g : Nat} {o : Obj} (hg : w.heap[g]? = some o) (hn : ¬ S g) : w'.heap[g]? = some o :=
  (h.block g (Array.getElem?_eq_some_iff.1 hg).1 hn).trans hg
theorem Chg.cell {w w' : World} {S : Nat → Prop} (h : Chg w w' S) {p : Addr} (hp : p.block < w.heap.size) (hn : ¬ S p.block) : w'.cell? p = w.cell? p := World.cell?_of_block (h.block p.block hp hn)

theorem heap_lt {w : World} {g : Nat} {o : Obj} (hg : w.heap[g]? = some o) : g < w.heap.size := (Array.getElem?_eq_some_iff.1 hg).1
theorem heap_setCell_same {w : World} {g i : Nat} {C : Array Value} {t : TypeId} {fr : Nat × Nat} (hg : w.heap[g]? = some (.cells C t fr)) (u : Value) :
    (w.setCell ⟨g, i, none⟩ u).heap[g]? = some (.cells (C.setIfInBounds i u) t fr) := by
  simp [World.setCell, Array.getElem?_modify, hg]
theorem heap_setCell_other {w : World} {g : Nat} {o : Obj} {p : Addr} (hg : w.heap[g]? = some o) (hn : g ≠ p.block) (u : Value) : (w.setCell p u).heap[g]? = some o := by
  rw [Below.heap_setCell w p u g hn]; exact hg
theorem heap_alloc_same {w : World} {g : Nat} {o : Obj} (hg : w.heap[g]? = some o) (o' : Obj) : (w.alloc o').heap[g]? = some o := by
  rw [Below.heap_alloc w o' g (heap_lt hg)]; exact hg
theorem cell_at {w : World} {g i : Nat} {C : Array Value} {t : TypeId} {fr : Nat × Nat} (hg : w.heap[g]? = some (.cells C t fr)) {v : Value} (hv : C[i]? = some v) : w.cell? ⟨g, i, none⟩ = some v := by
  rw [cell_of_row w g i C t fr hg]; exact hv
theorem free_at {w : World} {g : Nat} {C : Array Value} {t : TypeId} (hg : w.heap[g]? = some (.cells C t (0, 0))) (i : Nat) : w.frozen? ⟨g, i, none⟩ = false := by
  simp [World.frozen?, hg]

/-- what is handed to an append: m elements of some cells each -/
def News (w : World) (size : Nat) (x : Value) (m : Nat) (news : List Value) : Prop :=
  news.length = m * size ∧ (∀ u ∈ news, u.oneCell' = true) ∧ ∃ ao c, x = .slice ao m c ∧ (0 < m → ∃ a, ao = some a ∧ ∀ j u, news[j]? = some u → w.cell? (a.add j) = some u)

/-- the slice value v, of n elements, has the cells xs; they lie in one block of F, which may be written -/
def Sl (w : World) (F : Nat → Prop) (e : TypeId) (size : Nat) (v : Value) (n : Nat) (xs : List Value) : Prop :=
  xs.length = n * size ∧ ((v = .slice none 0 0 ∧ n = 0) ∨ ∃ g off cap cur, v = .slice (some ⟨g, off, none⟩) n cap ∧ F g ∧ w.heap[g]? = some (.cells cur e (0, 0)) ∧ n ≤ cap ∧ cap ≤ maxLen ∧ off + cap * size ≤ cur.size ∧
    (cur.toList.drop off).take (n * size) = xs)

section
variable {w w' : World} {F G : Nat → Prop} {e : TypeId} {size n : Nat} {v : Value} {xs : List Value}

theorem Sl.nil (w : World) (F : Nat → Prop) (e : TypeId) (size : Nat) : Sl w F e size (.slice none 0 0) 0 [] := ⟨by simp, .inl ⟨rfl, rfl⟩⟩
theorem Sl.keep (h : Sl w F e size v n xs) (hk : ∀ g, F g → g < w.heap.size → w'.heap[g]? = w.heap[g]?) : Sl w' F e size v n xs := by
  refine ⟨h.1, ?_⟩
  rcases h.2 with h0 | ⟨g, off, cap, cur, h1, h2, h3, r⟩
  · exact .inl h0
  · exact .inr ⟨g, off, cap, cur, h1, h2, (hk g h2 (heap_lt h3)).trans h3, r⟩
theorem Sl.chg (h : Sl w F e size v n xs) {S : Nat → Prop} (hc : Chg w w' S) (hs : ∀ g, F g → ¬ S g) : Sl w' F e size v n xs :=
  h.keep fun g hg hl => hc.block g hl (hs g hg)
theorem Sl.mono (h : Sl w F e size v n xs) (hk : ∀ g, g < w.heap.size → F g → G g) : Sl w G e size v n xs := by
  refine ⟨h.1, ?_⟩
  rcases h.2 with h0 | ⟨g, off, cap, cur, h1, h2, h3, r⟩
  · exact .inl h0
  · exact .inr ⟨g, off, cap, cur, h1, hk g (heap_lt h3) h2, h3, r⟩
theorem Sl.shape (h : Sl w F e size v n xs) : ∃ ao cap, v = .slice ao n cap ∧ n ≤ cap ∧ cap ≤ maxLen := by
  rcases h.2 with ⟨rfl, rfl⟩ | ⟨g, off, cap, cur, h1, _, _, h4, h5, _⟩
  · exact ⟨none, 0, rfl, Nat.le_refl _, by unfold maxLen; omega⟩
  · exact ⟨_, cap, h1, h4, h5⟩
/-- its cells, if there are any -/
theorem Sl.at (h : Sl w F e size v n xs) (hn : 0 < n) : ∃ g off cap, v = .slice (some ⟨g, off, none⟩) n cap ∧ F g ∧ g < w.heap.size ∧ n ≤ cap ∧ cap ≤ maxLen ∧ ∀ j u, xs[j]? = some u → w.cell? ⟨g, off + j, none⟩ = some u ∧ w.frozen? ⟨g, off + j, none⟩ = false := by
  rcases h.2 with ⟨_, h0⟩ | ⟨g, off, cap, cur, h1, h2, h3, h4, h5, h6, h7⟩
  · omega
  · refine ⟨g, off, cap, h1, h2, heap_lt h3, h4, h5, fun j u hj => ⟨cell_at h3 ?_, free_at h3 _⟩⟩
    rw [← h7, List.getElem?_take] at hj
    split at hj
    · rw [List.getElem?_drop] at hj; simpa using hj
    · cases hj
/-- handed to an append -/
theorem Sl.news (h : Sl w F e size v n xs) (h1 : ∀ u ∈ xs, u.oneCell' = true) : News w size v n xs := by
  refine ⟨h.1, h1, ?_⟩
  by_cases hn : 0 < n
  · obtain ⟨g, off, cap, rfl, _, _, _, _, hc⟩ := h.at hn
    exact ⟨_, cap, rfl, fun _ => ⟨_, rfl, fun j u hj => by rw [Addr.add_lit]; exact (hc j u hj).1⟩⟩
  · obtain ⟨ao, cap, rfl, _, _⟩ := h.shape
    exact ⟨ao, cap, rfl, fun h => absurd h hn⟩
/-- one element, or some, just laid in a block of their own -/
theorem News.laid {w : World} {size m c : Nat} {C : Array Value} {t : TypeId} {g : Nat} {fr : Nat × Nat} (hg : w.heap[g]? = some (.cells C t fr)) (hs : C.size = m * size) (h1 : ∀ u ∈ C.toList, u.oneCell' = true) :
    News w size (.slice (some ⟨g, 0, none⟩) m c) m C.toList := by
  refine ⟨by simpa using hs, h1, _, c, rfl, fun _ => ⟨_, rfl, fun j u hj => ?_⟩⟩
  rw [Addr.add_lit, Nat.zero_add]
  exact cell_at hg (by simpa using hj)

/-- v[k:] -/
def dropS (v : Value) (k size : Nat) : Value := match v with
  | .slice a len cap => .slice (if cap = k then a else a.map (·.add (k * size))) (len - k) (cap - k)
  | u => u
theorem Sl.dropped (h : Sl w F e size v n xs) {k : Nat} (hk : k ≤ n) : Sl w F e size (dropS v k size) (n - k) (xs.drop (k * size)) := by
  have hl : (xs.drop (k * size)).length = (n - k) * size := by rw [List.length_drop, h.1, Nat.sub_mul]
  refine ⟨hl, ?_⟩
  rcases h.2 with ⟨rfl, rfl⟩ | ⟨g, off, cap, cur, rfl, h2, h3, h4, h5, h6, h7⟩
  · obtain rfl : k = 0 := by omega
    exact .inl ⟨rfl, rfl⟩
  · by_cases hc : cap = k
    · have e0 : n - k = 0 := by omega
      refine .inr ⟨g, off, 0, cur, by simp [dropS, hc, e0], h2, h3, by omega, by unfold maxLen; omega, by omega, ?_⟩
      have : (xs.drop (k * size)).length = 0 := by rw [hl, e0]; simp
      rw [List.eq_nil_of_length_eq_zero this, e0]; simp
    · refine .inr ⟨g, off + k * size, cap - k, cur, by simp [dropS, hc, Addr.add_lit], h2, h3, by omega, by omega, ?_, ?_⟩
      · rw [Nat.sub_mul]
        have : k * size ≤ cap * size := Nat.mul_le_mul_right _ (by omega)
        omega
      · rw [← h7, List.drop_take, Nat.sub_mul, List.drop_drop]
theorem run_dropS {P : Program} (w : World) (t : TypeId) (ht : P.underlying t = some (.slice (P.elem t))) (hs : (P.info? (P.elem t)).map (·.size) = some size) (h : Sl w F e size v n xs) {k : Nat} (hk : k ≤ n) :
    Sem.run P (Instr.slice t v (some (.int .i64 (k : Int))) none none) w = .ok (dropS v k size) w := by
  obtain ⟨ao, cap, rfl, h4, h5⟩ := h.shape
  rw [run_slice_l (P := P) w t ao n cap ht .i64 k (by omega) (by omega)]
  obtain ⟨i, hi, hsz⟩ := Option.map_eq_some_iff.1 hs
  simp [sizeOf, typeInfo, hi, hsz, sliced, dropS, Result.andThen]

end

section
variable {P : Program}

theorem run_firstCells_news {w w0 : World} {size m : Nat} {x : Value} {news : List Value} (h : News w size x m news) (hw : ∀ a, w0.cell? a = w.cell? a) : (Builtin.firstCells size m x).run P w0 = .ok news.toArray w0 := by
  obtain ⟨hl, _, ao, c, rfl, h2⟩ := h
  by_cases hm : 0 < m
  · obtain ⟨a, rfl, hc⟩ := h2 hm
    exact run_firstCells_some (P := P) w0 size m a m c news hl (fun j u hj => (hw _).trans (hc j u hj))
  · obtain rfl : m = 0 := by omega
    have : news = [] := List.eq_nil_of_length_eq_zero (by simpa using hl)
    subst this
    cases ao with
    | none => simp [Builtin.firstCells]
    | some a => simpa using run_firstCells_some (P := P) w0 size 0 a 0 c [] (by simp) (by simp)

theorem run_append_sl {w : World} {F : Nat → Prop} (t ty e : TypeId) (i : TypeInfo) (z : Value) (size bytes : Nat) (ht : P.underlying t = some (.slice e)) (hi : P.info? e = some i) (hz : i.zero = some z)
    (hsize : i.size = size) (hby : i.bytes = bytes) (hzs : z.cells.size = size)
    {v x : Value} {n m : Nat} {xs news : List Value} (h : Sl w F e size v n xs) (hx : News w size x m news) (h63 : n + m ≤ maxLen) (hbytes : (n + m) * bytes ≤ 140737488355328) :
    ∃ v' w', Sem.run P (Builtin.append_ #[t, t] ty #[v, x]) w = .ok v' w' ∧ Sl w' (fun k => (F k ∧ k < w.heap.size) ∨ k = w.heap.size) e size v' (n + m) (xs ++ news) ∧ Chg w w' (fun k => v.ownBlock = some k) := by
  subst hsize hby
  have hx' := hx
  obtain ⟨hl, h1, ao, c, rfl, hx2⟩ := hx
  have hlen : (xs ++ news).length = (n + m) * i.size := by rw [List.length_append, h.1, hl, Nat.add_mul]
  have hsmall : n + m ≤ 9223372036854775807 := by simp only [maxLen] at h63; omega
  have grown : ∀ (old : Nat), old < n + m → ∀ S,
      Sl (w.drew.alloc (.cells (xs.toArray ++ news.toArray ++ Builtin.zeroCells z.cells (grownCap w (n + m) old e - (n + m))) e)) (fun k => (F k ∧ k < w.heap.size) ∨ k = w.heap.size) e i.size
        (.slice (some ⟨w.heap.size, 0, none⟩) (n + m) (grownCap w (n + m) old e)) (n + m) (xs ++ news) ∧
      Chg w (w.drew.alloc (.cells (xs.toArray ++ news.toArray ++ Builtin.zeroCells z.cells (grownCap w (n + m) old e - (n + m))) e)) S := by
    intro old ho S
    have hge := grownCap_ge w (n + m) old e
    have hcm : grownCap w (n + m) old e ≤ maxLen := grownCap_le_maxLen w (n + m) old e h63
    refine ⟨⟨hlen, .inr ⟨w.heap.size, 0, _, _, rfl, .inr rfl, heap_alloc_new w.drew _, hge, hcm, ?_, ?_⟩⟩, ((Chg.refl w S).drew).alloc _⟩
    · simp only [Array.size_append, List.size_toArray, size_zeroCells, hzs, h.1, hl, ← Nat.add_mul, Nat.zero_add]
      refine Nat.mul_le_mul_right _ ?_
      omega
    · simp only [Array.toList_append, List.append_assoc, List.drop_zero]
      rw [← List.append_assoc, ← hlen]
      exact List.take_left
  rcases h.2 with ⟨rfl, rfl⟩ | ⟨g, off, cap, cur, rfl, hF, hg, hnc, hcm, hcs, htake⟩
  · have hx0 : xs = [] := List.eq_nil_of_length_eq_zero (by simpa using h.1)
    subst hx0
    by_cases hm : m = 0
    · subst hm
      have hn : news = [] := List.eq_nil_of_length_eq_zero (by simpa using hl)
      subst hn
      have hf := run_firstCells_news (P := P) (w0 := w) hx' (fun _ => rfl)
      refine ⟨.slice none 0 0, w, ?_, Sl.nil _ _ _ _, Chg.refl _ _⟩
      simp [Builtin.append_, run_underlying ht, sizeOf, typeInfo, hi, Builtin.lenOf, hf]
    · obtain ⟨a, rfl, hc⟩ := hx2 (by omega)
      have hr := run_append_nil (P := P) w t ty e i z ht hi hz a m c news hl hc (by omega) (by omega) (by have hb := hbytes; simp only [Nat.zero_add] at hb; omega)
      have hgr := grown 0 (by omega) (fun k => Value.ownBlock (.slice none 0 0) = some k)
      simp only [Nat.zero_add, List.nil_append, Array.empty_append] at hgr ⊢
      exact ⟨_, _, hr, hgr.1, hgr.2⟩
  · by_cases hroom : n + m ≤ cap
    · have hmul : (n + m) * i.size ≤ cap * i.size := Nat.mul_le_mul_right _ hroom
      have hfit : off + n * i.size + news.length ≤ cur.size := by rw [hl]; rw [Nat.add_mul] at hmul; omega
      have hf := run_firstCells_news (P := P) (w0 := w) hx' (fun _ => rfl)
      have hst := run_storeCells_at P g (off + n * i.size) e news 0 cur w hg (by simpa using hfit) h1
      simp only [Nat.add_zero] at hst
      refine ⟨.slice (some ⟨g, off, none⟩) (n + m) cap, w.setRow g (cur.toList.take (off + n * i.size) ++ news ++ cur.toList.drop (off + n * i.size + news.length)).toArray, ?_, ⟨hlen, .inr ⟨g, off, cap, _, rfl, .inl ⟨hF, heap_lt hg⟩, setRow_heap w g cur _ e _ hg, hroom, hcm, ?_, ?_⟩⟩,
        ⟨rfl, rfl, rfl, by simp, fun k _ hk => setRow_other w g k _ (fun e => hk (by simp [Value.ownBlock, e]))⟩⟩
      · simp [Builtin.append_, run_underlying ht, sizeOf, typeInfo, hi, Builtin.lenOf, hroom, hf, Addr.add_lit, hst]
      · simp only [List.size_toArray, List.length_append, List.length_take, List.length_drop, Array.length_toList]
        omega
      · have e1 : (cur.toList.take (off + n * i.size)).drop off = xs := by
          rw [List.drop_take, show off + n * i.size - off = n * i.size by omega]; exact htake
        have e2 : off ≤ (cur.toList.take (off + n * i.size)).length := by
          rw [List.length_take, Array.length_toList]; omega
        simp only [List.append_assoc]
        rw [List.drop_append_of_le_length e2, e1, ← List.append_assoc, ← hlen]
        exact List.take_left
    · have holds : ∀ j u, xs[j]? = some u → w.cell? ((⟨g, off, none⟩ : Addr).add j) = some u := by
        intro j u hj
        rw [Addr.add_lit]
        by_cases hn : 0 < n
        · obtain ⟨g', off', cap', he, _, _, _, _, hc⟩ := h.at hn
          injection he with h1 h2 h3
          injection h1 with h1
          injection h1 with h1 h4
          subst h1 h4
          exact (hc j u hj).1
        · have : xs = [] := List.eq_nil_of_length_eq_zero (by rw [h.1, show n = 0 by omega]; simp)
          subst this; simp at hj
      obtain ⟨a, rfl, hc⟩ := hx2 (by omega)
      have hr := run_append_grow (P := P) w t ty e i z ht hi hz ⟨g, off, none⟩ n cap xs h.1 holds a m c news hl hc (by omega) (by omega) (growslice_fits (by omega) hbytes)
      have hgr := grown cap (by omega) (fun k => Value.ownBlock (.slice (some ⟨g, off, none⟩) n cap) = some k)
      exact ⟨_, _, hr, hgr.1, hgr.2⟩
end

/-- an append whose run is known -/
theorem wpList_append_run {P : Program} {w : World} {ops : Array Oper} {rest : List Oper} {o : Oper} {a : Act} {Q : Exit → Act → World → Prop} (hgd : o.guard = none) {s x : Operand} {t : TypeId}
    (ho : o.op = .call { callee := .builtin .append, args := #[s, x], argTypes := #[t, t] }) {v u v' : Value} {w' : World} (hs : a.eval s = v) (hx : a.eval x = u)
    (hrun : Sem.run P (Builtin.append_ #[t, t] o.type #[v, u]) w = .ok v' w') (h : wpList P ops Q rest (a.put o.dst v') w') : wpList P ops Q (o :: rest) a w := by
  refine wpList_plain hgd fun K hK => ?_
  unfold Oper.wp
  simp [execOp, ho, resolve, invoke, builtin, hs, hx, hrun, Result.andThen]
  exact hK _ _ h

/-- a cut v[k:] whose run is known -/
theorem wpList_cut_run {P : Program} {w : World} {ops : Array Oper} {rest : List Oper} {o : Oper} {a : Act} {Q : Exit → Act → World → Prop} (hgd : o.guard = none) {x lo : Operand} {t : TypeId}
    (ho : o.op = .slice t x (some lo) none none) {v u v' : Value} (hs : a.eval x = v) (hl : a.eval lo = u) (ht : P.underlying t = some (.slice (P.elem t)))
    (hrun : Sem.run P (Instr.slice t v (some u) none none) w = .ok v' w) (h : wpList P ops Q rest (a.put o.dst v') w) : wpList P ops Q (o :: rest) a w := by
  refine wpList_plain hgd fun K hK => ?_
  unfold Oper.wp
  simp only [execOp, ho, hs, hl, Option.map_some, Option.map_none, run_sliceAt_slice (P := P) w t v (some u) none none ht, hrun, Sem.run_bind, Sem.run_pure, Result.andThen]
  exact hK _ _ h

/-- .. as one step of a region that draws its order -/
theorem step_append_run {P : Program} {ops : Array Oper} {o : Oper} {a : Act} {w : World} {K : Act → World → Prop} {Q : Exit → Act → World → Prop} {E : Prop} (hg : o.guard = none) {s x : Operand} {t : TypeId}
    (ho : o.op = .call { callee := .builtin .append, args := #[s, x], argTypes := #[t, t] }) {v u v' : Value} {w' : World} (hs : a.eval s = v) (hx : a.eval x = u)
    (hrun : Sem.run P (Builtin.append_ #[t, t] o.type #[v, u]) w = .ok v' w') (hK : K (a.put o.dst v') w') :
    if Region.wanted o (yielded ops a.tmps) = true then Oper.wp P o a w K Q else E := by
  have hw : Region.wanted o (yielded ops a.tmps) = true := by simp [Region.wanted, hg]
  rw [if_pos hw]
  unfold Oper.wp
  simp [execOp, ho, resolve, invoke, builtin, hs, hx, hrun, Result.andThen]
  exact hK
end Go.Proofs.Ytpnmhpkpkejdiaa
