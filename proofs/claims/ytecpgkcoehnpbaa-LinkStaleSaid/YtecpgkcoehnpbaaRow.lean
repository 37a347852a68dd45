/- Writes within a block of the call's own, told exactly: append where there is room, copy, clear; and how a walk takes them. Over any program. -/
import Derived.Test.YtecpgkcoehnpbaaOwn
import Derived.Deep.RegionLaw
namespace Go.Proofs.Ytecpgkcoehnpbaa
open Go.RowKit

/-- the list news laid over a row from place o on -/
def splice (cur : Array Value) (o : Nat) (news : List Value) : Array Value := (cur.toList.take o ++ news ++ cur.toList.drop (o + news.length)).toArray
theorem splice_size (cur : Array Value) (o : Nat) (news : List Value) (h : o + news.length ≤ cur.size) : (splice cur o news).size = cur.size := by
  simp only [splice, List.size_toArray, List.length_append, List.length_take, List.length_drop, Array.length_toList]; omega
theorem splice_list (cur : Array Value) (o : Nat) (news : List Value) : (splice cur o news).toList = cur.toList.take o ++ news ++ cur.toList.drop (o + news.length) := rfl

section
variable {P : Program} {w : World} {g : Nat} {cur : Array Value} {e : TypeId}

theorem run_store_mid (hg : w.heap[g]? = some (.cells cur e (0, 0))) (o : Nat) (news : List Value) (hfit : o + news.length ≤ cur.size) (h1 : ∀ u ∈ news, u.oneCell' = true) :
    Sem.run P (storeCells ⟨g, o, none⟩ news) w = .ok () (w.setRow g (splice cur o news)) := by
  have hst := run_storeCells_at P g o e news 0 cur w hg (by simpa using hfit) h1
  simpa [splice] using hst

/-- append(v, x) where there is room -/
theorem run_append_exact (t ty : TypeId) (i : TypeInfo) (size : Nat) (ht : P.underlying t = some (.slice e)) (hi : P.info? e = some i) (hsize : i.size = size) (hg : w.heap[g]? = some (.cells cur e (0, 0)))
    {off n cap m : Nat} {x : Value} {news : List Value} (hx : News w size x m news) (hroom : n + m ≤ cap) (hfit : off + cap * size ≤ cur.size) :
    Sem.run P (Builtin.append_ #[t, t] ty #[.slice (some ⟨g, off, none⟩) n cap, x]) w = .ok (.slice (some ⟨g, off, none⟩) (n + m) cap) (w.setRow g (splice cur (off + n * size) news)) := by
  subst hsize
  have hf := run_firstCells_news (P := P) (w0 := w) hx (fun _ => rfl)
  have hmul : (n + m) * i.size ≤ cap * i.size := Nat.mul_le_mul_right _ hroom
  rw [Nat.add_mul] at hmul
  have hst := run_store_mid (P := P) hg (off + n * i.size) news (by rw [hx.1]; omega) hx.2.1
  obtain ⟨hl, h1, ao, c, rfl, hx2⟩ := hx
  simp [Builtin.append_, run_underlying ht, sizeOf, typeInfo, hi, Builtin.lenOf, hroom, hf, Addr.add_lit, hst]

/-- copy(v, x): k elements go -/
theorem run_copy_exact (t t2 ty : TypeId) (i : TypeInfo) (size : Nat) (ht : P.underlying t = some (.slice e)) (hi : P.info? e = some i) (hsize : i.size = size) (hg : w.heap[g]? = some (.cells cur e (0, 0)))
    {off n cap k m c : Nat} {a : Addr} {news : List Value} (hl : news.length = k * size) (h1 : ∀ u ∈ news, u.oneCell' = true) (hc : ∀ j u, news[j]? = some u → w.cell? (a.add j) = some u) (hk : Nat.min m n = k) (hfit : off + k * size ≤ cur.size) :
    Sem.run P (Builtin.copy_ #[t, t2] ty #[.slice (some ⟨g, off, none⟩) n cap, .slice (some a) m c]) w = .ok (.int .i64 (k : Int)) (w.setRow g (splice cur off news)) := by
  subst hsize
  have hf := run_firstCells_some (P := P) w i.size k a m c news hl hc
  have hst := run_store_mid (P := P) hg off news (by rw [hl]; exact hfit) h1
  simp [Builtin.copy_, run_underlying ht, sizeOf, typeInfo, hi, Builtin.lenOf, hk, hf, hst, goInt]

/-- clear(v) -/
theorem run_clear_exact (t ty : TypeId) (i : TypeInfo) (z : Value) (size : Nat) (ht : P.underlying t = some (.slice e)) (hi : P.info? e = some i) (hz : i.zero = some z) (hzs : z.cells.size = size) (hpos : 0 < size) (h1 : ∀ u ∈ z.cells.toList, u.oneCell' = true) (hg : w.heap[g]? = some (.cells cur e (0, 0)))
    {off n cap : Nat} (hfit : off + n * size ≤ cur.size) :
    ∃ news, news.length = n * size ∧ Sem.run P (Builtin.clear_ #[t] ty #[.slice (some ⟨g, off, none⟩) n cap]) w = .ok (.tuple #[]) (w.setRow g (splice cur off news)) := by
  by_cases hn : n = 0
  · subst hn
    refine ⟨[], by simp, ?_⟩
    have e1 : w.setRow g (splice cur off []) = w := by
      have : splice cur off [] = cur := by simp [splice]
      rw [this]; exact setRow_self w g cur e (0, 0) hg
    rw [e1]
    simp [Builtin.clear_, run_underlying ht]
  · refine ⟨(Builtin.zeroCells z.cells n).toList, by simp [size_zeroCells, hzs], ?_⟩
    have hst := run_store_mid (P := P) hg off (Builtin.zeroCells z.cells n).toList (by simpa [size_zeroCells, hzs] using hfit) (by
      intro u hu
      have hu' : u ∈ Builtin.zeroCells z.cells n := Array.mem_toList_iff.1 hu
      obtain ⟨j, _, rfl⟩ := Array.mem_map.1 hu'
      have hj : j % z.cells.size < z.cells.size := Nat.mod_lt _ (by omega)
      rw [getElem!_pos z.cells _ hj]
      exact h1 _ (Array.mem_toList_iff.2 (Array.getElem_mem hj)))
    obtain ⟨n', rfl⟩ : ∃ n', n = n' + 1 := ⟨n - 1, by omega⟩
    simp [Builtin.clear_, run_underlying ht, zeroValue, typeInfo, hi, hz, hst]
end

/-- a builtin of two arguments whose run is known -/
theorem wpList_builtin_run {P : Program} {w : World} {ops : Array Oper} {rest : List Oper} {o : Oper} {a : Act} {Q : Exit → Act → World → Prop} (hgd : o.guard = none) {s x : Operand} {t t2 : TypeId}
    (ho : o.op = .call { callee := .builtin .copy, args := #[s, x], argTypes := #[t, t2] }) {v u v' : Value} {w' : World} (hs : a.eval s = v) (hx : a.eval x = u)
    (hrun : Sem.run P (Builtin.copy_ #[t, t2] o.type #[v, u]) w = .ok v' w') (h : wpList P ops Q rest (a.put o.dst v') w') : wpList P ops Q (o :: rest) a w := by
  refine wpList_plain hgd fun K hK => ?_
  unfold Oper.wp
  simp [execOp, ho, resolve, invoke, builtin, hs, hx, hrun, Result.andThen]
  exact hK _ _ h
theorem step_copy_run {P : Program} {ops : Array Oper} {o : Oper} {a : Act} {w : World} {K : Act → World → Prop} {Q : Exit → Act → World → Prop} {E : Prop} (hg : o.guard = none) {s x : Operand} {t t2 : TypeId}
    (ho : o.op = .call { callee := .builtin .copy, args := #[s, x], argTypes := #[t, t2] }) {v u v' : Value} {w' : World} (hs : a.eval s = v) (hx : a.eval x = u)
    (hrun : Sem.run P (Builtin.copy_ #[t, t2] o.type #[v, u]) w = .ok v' w') (hK : K (a.put o.dst v') w') :
    if Region.wanted o (yielded ops a.tmps) = true then Oper.wp P o a w K Q else E := by
  have hw : Region.wanted o (yielded ops a.tmps) = true := by simp [Region.wanted, hg]
  rw [if_pos hw]
  unfold Oper.wp
  simp [execOp, ho, resolve, invoke, builtin, hs, hx, hrun, Result.andThen]
  exact hK
theorem wpList_clear_run {P : Program} {w : World} {ops : Array Oper} {rest : List Oper} {o : Oper} {a : Act} {Q : Exit → Act → World → Prop} (hgd : o.guard = none) {s : Operand} {t : TypeId}
    (ho : o.op = .call { callee := .builtin .clear, args := #[s], argTypes := #[t] }) {v v' : Value} {w' : World} (hs : a.eval s = v)
    (hrun : Sem.run P (Builtin.clear_ #[t] o.type #[v]) w = .ok v' w') (h : wpList P ops Q rest (a.put o.dst v') w') : wpList P ops Q (o :: rest) a w := by
  refine wpList_plain hgd fun K hK => ?_
  unfold Oper.wp
  simp [execOp, ho, resolve, invoke, builtin, hs, hrun, Result.andThen]
  exact hK _ _ h
end Go.Proofs.Ytecpgkcoehnpbaa
