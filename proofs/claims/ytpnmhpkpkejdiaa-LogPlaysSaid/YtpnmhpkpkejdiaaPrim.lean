/- Numbers, texts, bools and slices as parts of an argument. -/
import Derived.Test.YtpnmhpkpkejdiaaArgs14
import Derived.Deep.Slices
namespace Go.Proofs.Ytpnmhpkpkejdiaa
open Go.ChangeShapes Go.WideShapes Go.ChangeAt Go.RowKit Go.Deep

theorem under_strP : Try.prog.underlying 9 = some .string := by kernel_rfl
theorem under_int : Try.prog.underlying 3 = some (.int .i64) := by kernel_rfl
theorem cells_int : Try.prog.cellsOf 3 = 1 := by kernel_rfl
theorem cells_strP : Try.prog.cellsOf 9 = 1 := by kernel_rfl

def inI64 (n : Int) : Prop := -9223372036854775808 ≤ n ∧ n ≤ 9223372036854775807
section
variable {H : Type} {enc : TypeId × Value → H} {W : World} {base : Nat} {spare : Nat → Bool} {held : Bool}
theorem rdInt {fuel : Nat} {c : Value} {y : Option (DataW H × List MemPlace)} (h : DataW.trod enc Try.prog W base spare held fuel 3 [c] = y) (hy : y.isSome = true) : ∃ n, c = .int .i64 n ∧ inI64 n := by
  obtain ⟨z, rfl⟩ := Option.isSome_iff_exists.1 hy
  obtain ⟨n, h1, _, h3⟩ := DataW.trod_int under_int h
  simp at h1
  exact ⟨n, h1, bounds_i64 h3⟩
theorem rdStr {fuel : Nat} {c : Value} {y : DataW H × List MemPlace} (h : DataW.trod enc Try.prog W base spare held fuel 9 [c] = some y) : ∃ s, c = .string s ∧ y.1 = .lit (.string s.data.toList) := by
  obtain ⟨s, h1, h2, _⟩ := DataW.trod_string under_strP h
  simp at h1
  exact ⟨s, h1, by rw [h2]⟩

end
section
variable {H : Type} {enc : TypeId × Value → H} {W : World}
set_option maxRecDepth 100000 in
/-- a slice that lies in a struct, element by element -/
theorem sliceArg0 {α : Type} (cells : α → List Value) (G : α → Prop) (size : Nat) (hpos : 0 < size) {t e : TypeId} {v : Value} {d : DataW H} {p p1 : List MemPlace}
    (ht : Try.prog.underlying t = some (.slice e)) (hC : Try.prog.cellsOf e = size)
    (hrd : ∀ (fuel : Nat) (cs : List Value) (y : DataW H × List MemPlace), DataW.trod enc Try.prog W 0 (fun _ => true) true fuel e cs = some y → (∀ n ∈ y.1.weights Try.prog e, n ≤ 140737488351232) → (∀ x ∈ y.2, x.block < W.heap.size) → ∃ a : α, cs = cells a ∧ G a)
    (hok : ∃ a0 len cap, v = .slice a0 len cap) (h : DataW.Trod enc Try.prog W 0 (fun _ => true) true t v d p1) (hw : ∀ n ∈ d.weights Try.prog t, n ≤ 140737488351232) (hlt : ∀ x ∈ p, x.block < W.heap.size) (hpp : ∀ x ∈ p1, x ∈ p) :
    ∃ (l : List α) (b off : Nat) (ao : Option Addr) (n cap : Nat), v = .slice ao n cap ∧ n * Try.prog.bytesOf e ≤ 140737488351232 ∧ n ≤ maxLen ∧ l.length = n ∧ (∀ a ∈ l, G a) ∧ (0 < n → ao = some ⟨b, off, none⟩) ∧ (0 < n → b < W.heap.size) ∧
      ∀ i a, l[i]? = some a → ∀ j u, (cells a)[j]? = some u → W.cell? ⟨b, off + i * size + j, none⟩ = some u := by
  obtain ⟨a0, len, cap, rfl⟩ := hok
  obtain ⟨fuel, hf⟩ := h
  rcases open_slice ht hf with ⟨hcs, hx⟩ | ⟨a, len', cap', m, n, D, Pl, hcs, _, hl, hm, hmm, hx, hi⟩
  · simp [Value.cells] at hcs
    obtain ⟨rfl, rfl, rfl⟩ := hcs
    exact ⟨[], 0, 0, none, 0, 0, rfl, by omega, by unfold maxLen; omega, rfl, (fun s hs => by cases hs), (fun h => by omega), (fun h => by omega), (fun i a h => by simp at h)⟩
  · simp [Value.cells] at hcs
    obtain ⟨rfl, rfl, rfl⟩ := hcs
    simp only [if_true] at hmm
    subst hmm
    simp only [Prod.mk.injEq] at hx
    obtain ⟨rfl, rfl⟩ := hx
    have hbytes : len * Try.prog.bytesOf e ≤ 140737488351232 := by
      have h1 := hw ((((List.range len).map D).length + ((List.range (m - len)).map fun j => D (len + j)).length) * Try.prog.bytesOf e) (by simp only [DataW.weights, ht]; exact List.mem_cons_self ..)
      refine Nat.le_trans (Nat.mul_le_mul_right _ ?_) h1
      simp
    have each : ∀ i, i < len → ∃ x : α, G x ∧ ∀ j u, (cells x)[j]? = some u → W.cell? ((a.add (i * size)).add j) = some u := by
      intro i hil
      obtain ⟨cs', hc, hr⟩ := hi i (by omega)
      obtain ⟨_, hcl, hat⟩ := World.cells?_some hc
      obtain ⟨x, rfl, hG⟩ := hrd n cs' (D i, Pl i) hr (fun k hk => hw k (by
        simp only [DataW.weights, ht]
        exact List.mem_cons_of_mem _ (List.mem_append_left _ (weightsAll_mem (List.mem_map.2 ⟨i, List.mem_range.2 hil, rfl⟩) k hk)))) (fun x hx => hlt x (hpp x (List.mem_append_right _ (List.mem_flatMap.2 ⟨i, List.mem_range.2 (by omega), hx⟩))))
      refine ⟨x, hG, fun j u hj => ?_⟩
      rw [hC] at hat hcl
      have hjl : j < size := by
        have := (List.getElem?_eq_some_iff.1 hj).1
        omega
      rw [hat j hjl, hj]
    by_cases hl0 : len = 0
    · subst hl0
      exact ⟨[], 0, 0, some a, 0, m, rfl, by omega, by unfold maxLen; omega, rfl, (fun s hs => by cases hs), (fun h => by omega), (fun h => by omega), (fun i a h => by simp at h)⟩
    · have hcell0 : ∃ u, W.cell? a = some u := by
        obtain ⟨cs', hc, _⟩ := hi 0 (by omega)
        obtain ⟨_, hcl, hat⟩ := World.cells?_some hc
        rw [hC] at hat hcl
        have h0 := hat 0 (by omega)
        have e1 : (a.add (0 * size)).add 0 = a := by simp [Addr.add]
        rw [e1] at h0
        exact ⟨_, h0.trans (List.getElem?_eq_getElem (by omega))⟩
      obtain ⟨u0, hu0⟩ := hcell0
      obtain ⟨b, off, spot⟩ := a
      have hspot : spot = none := World.cell?_spot hu0
      subst hspot
      have hbW : b < W.heap.size := by
        refine hlt (.cell b off) (hpp _ (List.mem_append_left _ (MemPlace.mem_row.2 ⟨0, ?_, by simp⟩)))
        rw [hC]; exact Nat.mul_pos (by omega) hpos
      have hch : ∃ f : Nat → α, ∀ i, i < len → G (f i) ∧ ∀ j u, (cells (f i))[j]? = some u → W.cell? (((⟨b, off, none⟩ : Addr).add (i * size)).add j) = some u := by
        obtain ⟨x0, _⟩ := each 0 (by omega)
        refine ⟨fun i => if h : i < len then (each i h).choose else x0, fun i hil => ?_⟩
        simp only [hil, dif_pos]
        exact (each i hil).choose_spec
      obtain ⟨f, hf⟩ := hch
      refine ⟨(List.range len).map f, b, off, _, len, m, rfl, hbytes, by omega, by simp, ?_, fun _ => rfl, fun _ => hbW, ?_⟩
      · intro x hx
        obtain ⟨i, hi1, rfl⟩ := List.mem_map.1 hx
        exact (hf i (List.mem_range.1 hi1)).1
      · intro i x hx j u hj
        have hil : i < len := by
          have := (List.getElem?_eq_some_iff.1 hx).1
          simpa using this
        have : x = f i := by
          rw [List.getElem?_map, List.getElem?_range hil] at hx
          exact (Option.some.inj hx).symm
        subst this
        have := (hf i hil).2 j u hj
        rw [Addr.add_lit, Addr.add_lit] at this
        exact this

theorem sliceShape {base : Nat} {spare : Nat → Bool} {held : Bool} {fuel : Nat} {t e : TypeId} {c : Value} {y : DataW H × List MemPlace} (ht : Try.prog.underlying t = some (.slice e)) (h : DataW.trod enc Try.prog W base spare held fuel t [c] = some y) : ∃ a0 len cap, c = .slice a0 len cap := by
  rcases open_slice ht h with ⟨hcs, hx⟩ | ⟨a, len', cap', m, n, D, Pl, hcs, _⟩
  · simp at hcs; exact ⟨_, _, _, hcs⟩
  · simp at hcs; exact ⟨_, _, _, hcs⟩
end

end Go.Proofs.Ytpnmhpkpkejdiaa
