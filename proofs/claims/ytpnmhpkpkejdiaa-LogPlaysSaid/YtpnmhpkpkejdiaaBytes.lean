/- A text turned into a slice of bytes, and back: what the new block is good for. -/
import Derived.Test.YtpnmhpkpkejdiaaSumF
import Derived.Laws.IdiomStrings
namespace Go.Proofs.Ytpnmhpkpkejdiaa
open Go.RowKit CrcPlain

theorem bytesRow_get (x : ByteArray) (cap j : Nat) (c : UInt8) (h : x.data.toList[j]? = some c) : (bytesRow x cap)[j]? = some (.int .u8 c.toNat) := by
  have hj : j < x.data.size := by
    have := (List.getElem?_eq_some_iff.1 h).1
    simpa using this
  unfold bytesRow
  rw [Array.getElem?_append_left (by simpa using hj), Array.getElem?_map]
  have : x.data[j]? = some c := by rw [← Array.getElem?_toList]; exact h
  rw [this]; rfl

/-- []byte(x) -/
theorem bytesOf (w : World) (x : ByteArray) : ∃ cap W2, Sem.run Try.prog (convert 9 34 (.string x)) w = .ok (.slice (some { block := w.heap.size, off := 0 }) x.size cap) W2 ∧ x.size ≤ cap ∧ Below w.heap.size w W2 ∧
    w.heap.size < W2.heap.size ∧ (∀ j c, x.data.toList[j]? = some c → W2.cell? ⟨w.heap.size, j, none⟩ = some (.int .u8 c.toNat)) ∧ (∀ j, j < x.size → W2.frozen? ⟨w.heap.size, j, none⟩ = false) := by
  have h := run_bytes_of_string (P := Try.prog) w 9 34 5 x under_str under_bytes under_u8
  have hge := grownCap_ge w x.size 0 5
  generalize grownCap w x.size 0 5 = cap at *
  refine ⟨cap, _, h, hge, (((Below.refl _ _).drew).alloc (Nat.le_refl _) _), by simp, ?_, ?_⟩
  · intro j c hc
    have hh : (w.drew.alloc (.cells (bytesRow x cap) 5 ((bytesRow x cap).size, (bytesRow x cap).size + 1))).heap[w.heap.size]? = some (.cells (bytesRow x cap) 5 ((bytesRow x cap).size, (bytesRow x cap).size + 1)) := heap_alloc_new w.drew _
    rw [cell_of_row _ _ j _ _ _ hh]
    exact bytesRow_get x cap j c hc
  · intro j hj
    have hh : (w.drew.alloc (.cells (bytesRow x cap) 5 ((bytesRow x cap).size, (bytesRow x cap).size + 1))).heap[w.heap.size]? = some (.cells (bytesRow x cap) 5 ((bytesRow x cap).size, (bytesRow x cap).size + 1)) := heap_alloc_new w.drew _
    have hsz : (bytesRow x cap).size = cap := by
      simp [bytesRow]
      have : x.data.size = x.size := rfl
      omega
    simp only [World.frozen?, hh]
    simp [hsz]
    omega

/-- string(b), the cells of b known -/
theorem stringOf (w : World) (g cap n : Nat) (l : List UInt8) (hn : n = l.length) (hc : ∀ j c, l[j]? = some c → w.cell? ⟨g, j, none⟩ = some (.int .u8 c.toNat)) :
    Sem.run Try.prog (convert 34 9 (.slice (some { block := g, off := 0 }) n cap)) w = .ok (.string ⟨l.toArray⟩) w := by
  subst hn
  refine run_convert_bytes_back w 34 9 5 ⟨g, 0, none⟩ cap l under_bytes under_u8 under_str ?_
  intro j hj
  have : (⟨g, 0, none⟩ : Addr).add j = ⟨g, j, none⟩ := by unfold Addr.add; split <;> simp_all
  rw [this]
  exact hc j _ (List.getElem?_eq_getElem hj)

theorem Try.infoU8 : (Try.prog.info? 5).map (fun i => (i.zero, i.size, i.bytes)) = some (some (.int .u8 0), 1, 1) := by kernel_rfl

/-- make([]byte, m) -/
theorem noughtsOf (w : World) (k : IntKind) (m : Nat) (hm : m ≤ 140737488351232) : ∃ W2, Sem.run Try.prog (Instr.makeSlice 34 (.int k (m : Int)) (.int k (m : Int))) w = .ok (.slice (some { block := w.heap.size, off := 0 }) m m) W2 ∧
    Below w.heap.size w W2 ∧ w.heap.size < W2.heap.size ∧ (∀ j c, (List.replicate m (0 : UInt8))[j]? = some c → W2.cell? ⟨w.heap.size, j, none⟩ = some (.int .u8 c.toNat)) := by
  obtain ⟨i0, hi, hz0, hz1, hz2⟩ := info_parts Try.infoU8
  have h := run_make (P := Try.prog) w 34 5 i0 (.int .u8 0) under_bytes hi hz0 k k (m : Int) (m : Int) (by omega) (Int.le_refl _) (by rw [hz2]; omega) (by omega)
  refine ⟨_, h, (Below.refl _ _).alloc (Nat.le_refl _) _, by simp, ?_⟩
  intro j c hc
  have hj := (List.getElem?_eq_some_iff.1 hc)
  obtain ⟨hj1, hj2⟩ := hj
  simp at hj1 hj2
  have : c = 0 := hj2.symm
  subst this
  rw [World.cell?_alloc_new]
  have hm1 : j % 1 = 0 := Nat.mod_one j
  simp [madeCells, hz1, hj1, Value.cells, hm1]
end Go.Proofs.Ytpnmhpkpkejdiaa
