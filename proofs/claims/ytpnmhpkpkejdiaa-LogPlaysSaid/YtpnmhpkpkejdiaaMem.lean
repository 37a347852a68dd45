/- Texts in memory of the laws' own: a list of texts in a block of its own, and what an append makes of it. -/
import Derived.Test.YtpnmhpkpkejdiaaOwn
import Derived.StillTailTactics
import Derived.Deep.RegionWith
import Derived.Deep.RegionHeld3
import Derived.Deep.RegionLaw
import Derived.BigRegion
import Derived.Lib.QuietBelow
namespace Go.Proofs.Ytpnmhpkpkejdiaa
open Go.RowKit

theorem bl_drewN {B : Nat} {a w : World} (h : Below B a w) (n : Nat) : Below B a (w.drewN n) := ⟨h.os, h.tape, h.output, h.size, h.block⟩
theorem below_heap {w w' : World} {B g : Nat} {o : Obj} (h : Below B w w') (hg : w.heap[g]? = some o) (hl : g < B) : w'.heap[g]? = some o := by rw [h.block g hl]; exact hg
theorem sl_below {w w' : World} {F : Nat → Prop} {e : TypeId} {size n B : Nat} {v : Value} {xs : List Value} (h : Sl w F e size v n xs) (hb : Below B w w') (hB : w.heap.size ≤ B) : Sl w' F e size v n xs :=
  h.keep fun k _ hk => hb.block k (Nat.lt_of_lt_of_le hk hB)
/-- a cell, in every world that a quiet region may come to -/
theorem rcell {w : World} {g i : Nat} {C : Array Value} {t : TypeId} {fr : Nat × Nat} (v : Value) (hg : w.heap[g]? = some (.cells C t fr)) (hv : C[i]? = some v) : ∀ d os, (Go.Sort.grow (redrawn w d) os).cell? ⟨g, i, none⟩ = some v :=
  cell_regrown (cell_at hg hv)
theorem own_lt {w : World} {F : Nat → Prop} {e : TypeId} {size n : Nat} {v : Value} {xs : List Value} (h : Sl w F e size v n xs) {k : Nat} (hk : v.ownBlock = some k) : F k ∧ k < w.heap.size := by
  rcases h.2 with ⟨rfl, _⟩ | ⟨g, off, cap, cur, rfl, h2, h3, _⟩
  · simp [Value.ownBlock] at hk
  · simp [Value.ownBlock] at hk
    subst hk
    exact ⟨h2, heap_lt h3⟩
theorem quietL2 {P : Program} {f : FuncId} {args : Array Value} {w : World} {n : Nat} {v : Value} (h : Calls P f args (w.drewN n) fun e w' => e = .returned v ∧ w.drewN n = w') : Calls P f args (w.drewN n) fun e w'' => e = .returned v ∧ ∃ m, w'' = w.drewN m :=
  h.mono fun _ _ ⟨he, hm⟩ => ⟨he, n, hm.symm⟩

def strCells (l : List ByteArray) : List Value := l.map Value.string
theorem under_strl : Try.prog.underlying 22 = some (.slice 9) := by kernel_rfl
theorem Try.infoStr : (Try.prog.info? 9).map (fun i => (i.zero, i.size, i.bytes)) = some (some (.string ByteArray.empty), 1, 16) := by kernel_rfl
theorem strCells_append (l : List ByteArray) (x : ByteArray) : strCells (l ++ [x]) = strCells l ++ [.string x] := by simp [strCells]
theorem strCells_length (l : List ByteArray) : (strCells l).length = l.length := by simp [strCells]
/-- append(v, x), v a list of texts of the call's own, x just laid -/
theorem append_str {w : World} {F : Nat → Prop} {v : Value} {l : List ByteArray} (x : ByteArray) {r : Nat} (h : Sl w F 9 1 v l.length (strCells l)) (hr : w.heap[r]? = some (.cells #[.string x] 9)) (hl : l.length ≤ 1000000) :
    ∃ v' w', Sem.run Try.prog (Builtin.append_ #[22, 22] 22 #[v, .slice (some { block := r, off := 0 }) 1 1]) w = .ok v' w' ∧
      Sl w' (fun k => (F k ∧ k < w.heap.size) ∨ k = w.heap.size) 9 1 v' (l.length + 1) (strCells (l ++ [x])) ∧ Chg w w' (fun k => v.ownBlock = some k) := by
  obtain ⟨i0, hi, hz0, hz1, hz2⟩ := info_parts Try.infoStr
  have := run_append_sl (P := Try.prog) 22 22 9 i0 (.string ByteArray.empty) 1 16 under_strl hi hz0 hz1 hz2 rfl h (News.laid (m := 1) (c := 1) hr rfl (by intro u hu; simp at hu; subst hu; rfl)) (by unfold maxLen; omega) (by omega)
  rw [strCells_append]
  exact this
/-- the k-th text of a list -/
theorem str_at {w : World} {G : Nat → Prop} {ao : Option Addr} {cap : Nat} {l : List ByteArray} (h : Sl w G 9 1 (.slice ao l.length cap) l.length (strCells l)) {k : Nat} {x : ByteArray} (hk : l[k]? = some x) :
    ∃ b off, ao = some ⟨b, off, none⟩ ∧ w.cell? ⟨b, off + k, none⟩ = some (.string x) := by
  have hlt := (List.getElem?_eq_some_iff.1 hk).1
  obtain ⟨b, off, cap', he, _, _, _, _, hc⟩ := h.at (by omega)
  simp only [Value.slice.injEq] at he
  obtain ⟨rfl, -, rfl⟩ := he
  exact ⟨b, off, rfl, (hc k _ (by simp [strCells, hk])).1⟩
end Go.Proofs.Ytpnmhpkpkejdiaa
