/- A map from packets to numbers: what a look-up and a store make of it. -/
import Derived.Test.YtecpgkcoehnpbaaPkArg
import Derived.DeepKeys4
import Derived.WideKeyEntry
import Derived.Carry
namespace Go.Proofs.Ytecpgkcoehnpbaa
open Go.ChangeShapes Go.WideShapes Go.ChangeAt Go.RowKit Go.MapKept Go.WideElems

theorem pk_law : WideMaps.KeyLaw Try.prog 23 := deep_law_laid Try.laidOut (m := 3) (by omega) (of_decide_eq_true (by kernel_rfl)) (by kernel_rfl) (by kernel_rfl)
theorem pk_keyType : Try.prog.keyType 23 = true := by kernel_rfl
theorem under_map : Try.prog.underlying 46 = some (.map 23 3) := by kernel_rfl

def pkV (p : Pk) : Value := .agg #[.int .i64 p.ch, .int .i64 p.back, .int .i64 p.inc, .int .i64 p.seq, .int .i64 p.ack, .string p.load]
theorem pkV_inj {p q : Pk} (h : pkV p = pkV q) : p = q := by
  obtain ⟨a, b, c, d, e, f⟩ := p
  obtain ⟨a', b', c', d', e', f'⟩ := q
  simp only [pkV, Value.agg.injEq] at h
  have h2 := congrArg Array.toList h
  simp at h2
  obtain ⟨rfl, rfl, rfl, rfl, rfl, rfl⟩ := h2
  rfl
theorem wf_in {n : Int} (h : inI64 n) : (Lit.int .i64 n).wf = true := by
  obtain ⟨h1, h2⟩ := h
  simp [Lit.wf, IntKind.min, IntKind.max, IntKind.signed, IntKind.bits, h1, h2]

theorem keyLits_int {n : Int} (h : inI64 n) (d : Nat) : Try.prog.keyLits (d + 1) 3 [.int .i64 n] = some [.int .i64 n] := by
  simp [Program.keyLits, under_int, wf_in h]
theorem keyLits_str {s : ByteArray} (h : s.size ≤ maxLen) (d : Nat) : Try.prog.keyLits (d + 1) 9 [.string s] = some [.string s.data.toList] := by
  simp [Program.keyLits, under_str, h]
theorem types_size : ∃ d, Try.prog.types.size = d + 1 := ⟨Try.prog.types.size - 1, by have : 0 < Try.prog.types.size := of_decide_eq_true (by kernel_rfl); omega⟩
theorem keyPk {p : Pk} (h : PkOk p) : ∃ l, keyOf Try.prog 23 (pkV p) = some l := by
  obtain ⟨h0, h1, h2, h3, h4, h5⟩ := h
  have hs : p.load.size ≤ maxLen := by unfold maxLen; omega
  obtain ⟨d, hd⟩ := types_size
  have hf : (pkV p).formed Try.prog 23 = true := by simp [Value.formed, pkV, Try.underlying23, cells_pk]
  have hl : ∃ ls, Try.prog.keyLits (d + 1 + 1) 23 (pkV p).cells.toList = some ls := by
    simp [Program.keyLits, Try.underlying23, cells_pk, pkV, Value.cells, cells_int, cells_str]
    simp [wf_in h0, wf_in h1, wf_in h2, wf_in h3, wf_in h4, hs]
  obtain ⟨ls, hl⟩ := hl
  refine ⟨.string (keyBytes ls), ?_⟩
  simp only [keyOf, Try.underlying23, pk_keyType, hf, hd, hl]
  rfl

def putObj (w : World) (b : Nat) (o : Obj) : World := { w with heap := w.heap.setIfInBounds b o }
theorem putObj_chg (w : World) (b : Nat) (o : Obj) : Chg w (putObj w b o) (fun k => k = b) := ⟨rfl, rfl, rfl, by simp [putObj], fun k _ hk => by simp [putObj, Array.getElem?_setIfInBounds, Ne.symm hk]⟩
theorem putObj_at {w : World} {b : Nat} (h : b < w.heap.size) (o : Obj) : (putObj w b o).heap[b]? = some o := by simp [putObj, h]
/-- the entries of a map of packets: f tells each packet's number -/
def MapIs (es : Array MapEntry) (clock : Nat) (f : Pk → Int) : Prop :=
  Stamped es clock ∧ (∀ x ∈ es.toList, ∃ q, PkOk q ∧ x.key = pkV q ∧ x.val = .int .i64 (f q)) ∧ ∀ q, (∀ x ∈ es.toList, x.key ≠ pkV q) → f q = 0
def MapAt (w : World) (b : Nat) (f : Pk → Int) : Prop := ∃ es clock, w.heap[b]? = some (.map es clock) ∧ MapIs es clock f

theorem MapIs.keys {es : Array MapEntry} {clock : Nat} {f : Pk → Int} (h : MapIs es clock f) : ∀ x ∈ es.toList, ∃ l, keyOf Try.prog 23 x.key = some l := by
  intro x hx
  obtain ⟨q, h1, h2, _⟩ := h.2.1 x hx
  rw [h2]; exact keyPk h1
theorem MapIs.empty : MapIs #[] 0 (fun _ => 0) := ⟨⟨by simp, by simp, by simp⟩, by simp, fun _ _ => rfl⟩
theorem zero_int (u : World) : (zeroValue 3).run Try.prog u = .ok (.int .i64 0) u := by
  have h : (Try.prog.info? 3).map (fun i => i.zero) = some (some (.int .i64 0)) := by kernel_rfl
  obtain ⟨i, hi, hz⟩ := Option.map_eq_some_iff.1 h
  simp [zeroValue, typeInfo, hi, hz]

/-- m[p] -/
theorem map_lookup {w : World} {b : Nat} {f : Pk → Int} (h : MapAt w b f) {p : Pk} (hp : PkOk p) : Sem.run Try.prog (Instr.lookup 46 (.map (some b)) (pkV p) false) w = .ok (.int .i64 (f p)) w := by
  obtain ⟨es, clock, hb, hm⟩ := h
  obtain ⟨kl, hkey⟩ := keyPk hp
  rcases pk_law.find w hkey es.toList hm.keys with ⟨h1, h2⟩ | ⟨j, e0, h1, h2, h3⟩
  · simp [Instr.lookup, run_underlying under_map, MapKept.run_getObj_map hb, pk_law.check w _ hkey, h1, zero_int, Result.andThen, hm.2.2 p h2]
  · obtain ⟨q, _, h4, h5⟩ := hm.2.1 e0 (List.mem_of_getElem? h2)
    obtain rfl : q = p := pkV_inj (h4.symm.trans h3)
    simp [Instr.lookup, run_underlying under_map, MapKept.run_getObj_map hb, pk_law.check w _ hkey, h1, h5, Result.andThen]

/-- the entry for p, which is made if there is none -/
theorem map_entry {w : World} {b : Nat} {f : Pk → Int} (h : MapAt w b f) {p : Pk} (hp : PkOk p) : ∃ (es1 : Array MapEntry) (clock1 j : Nat) (e0 : MapEntry), Sem.run Try.prog (Instr.mapEntry 46 (.map (some b)) (pkV p)) w = .ok (.tuple #[e0.val, goInt e0.born]) (putObj w b (.map es1 clock1)) ∧
    MapIs es1 clock1 f ∧ es1[j]? = some e0 ∧ e0.key = pkV p := by
  obtain ⟨es, clock, hb, hm⟩ := h
  obtain ⟨kl, hkey⟩ := keyPk hp
  obtain ⟨⟨s1, s2, s3⟩, hv, hno⟩ := id hm
  rcases pk_law.find w hkey es.toList hm.keys with ⟨h1, h2⟩ | ⟨j, e0, h1, h2, h3⟩
  · refine ⟨es.push ⟨pkV p, .int .i64 0, clock⟩, clock + 1, es.size, ⟨pkV p, .int .i64 0, clock⟩, ?_, ⟨⟨?_, ?_, ?_⟩, ?_, ?_⟩, by simp, rfl⟩
    · simp [Instr.mapEntry, run_underlying under_map, MapKept.run_getObj_map hb, pk_law.check w false hkey, h1, zero_int, MapKept.run_setObj_map _ hb, Result.andThen, putObj]
    · intro x hx
      simp only [Array.toList_push, List.mem_append, List.mem_singleton] at hx
      rcases hx with hx | rfl
      · have := s1 x hx; omega
      · exact Nat.lt_succ_self _
    · simp only [Array.toList_push, List.map_append, List.map_cons, List.map_nil]
      refine List.nodup_append.2 ⟨s2, by simp, fun a ha c hc e1 => ?_⟩
      simp only [List.mem_singleton] at hc
      obtain ⟨x, hx, rfl⟩ := List.mem_map.1 ha
      have := s1 x hx; omega
    · simp only [Array.toList_push, List.map_append, List.map_cons, List.map_nil]
      refine List.nodup_append.2 ⟨s3, by simp, fun a ha c hc e1 => ?_⟩
      simp only [List.mem_singleton] at hc
      obtain ⟨x, hx, rfl⟩ := List.mem_map.1 ha
      exact h2 x hx (e1.trans hc)
    · intro x hx
      simp only [Array.toList_push, List.mem_append, List.mem_singleton] at hx
      rcases hx with hx | rfl
      · exact hv x hx
      · exact ⟨p, hp, rfl, by rw [hno p h2]⟩
    · intro q hq
      exact hno q fun x hx => hq x (by simp only [Array.toList_push, List.mem_append]; exact .inl hx)
  · have hj : es[j]? = some e0 := by simpa using h2
    have hsame : es.modify j (fun e => { e with key := pkV p }) = es := by
      apply Array.ext'
      rw [Array.toList_modify]
      apply List.ext_getElem?
      intro i
      rw [List.getElem?_modify]
      by_cases hij : j = i
      · subst hij; simp only [h2, if_true]; simp [← h3]
      · simp [hij]
    refine ⟨es, clock, j, e0, ?_, hm, hj, h3⟩
    simp [Instr.mapEntry, run_underlying under_map, MapKept.run_getObj_map hb, pk_law.check w false hkey, h1, hj, h3, pk_law.stays w hkey, hsame, MapKept.run_setObj_map _ hb, Result.andThen, putObj]

open Classical in
/-- a store into an entry -/
theorem map_store {w : World} {b : Nat} {es : Array MapEntry} {clock j : Nat} {e0 : MapEntry} {f : Pk → Int} {p : Pk} (hb : w.heap[b]? = some (.map es clock)) (hm : MapIs es clock f) (hj : es[j]? = some e0) (hk : e0.key = pkV p) (hp : PkOk p) (x : Int) :
    ∃ es1, Sem.run Try.prog (Instr.entryStore 46 (.map (some b)) (goInt e0.born) (.int .i64 x)) w = .ok () (putObj w b (.map es1 clock)) ∧ MapIs es1 clock (fun q => if q = p then x else f q) := by
  obtain ⟨⟨s1, s2, s3⟩, hv, hno⟩ := id hm
  have h2 : es.toList[j]? = some e0 := by simpa using hj
  have hidx : es.findIdx? (fun e => ((e.born : Nat) : Int) == ((e0.born : Nat) : Int)) = some j := by
    rw [findIdx_arr]; exact findIdx_born s2 h2
  have hl : (es.modify j (fun e => { e with val := .int .i64 x })).toList = es.toList.set j { e0 with val := .int .i64 x } := by
    rw [Array.toList_modify]
    apply List.ext_getElem?
    intro i
    rw [List.getElem?_modify, List.getElem?_set]
    by_cases hij : j = i
    · subst hij
      have := (List.getElem?_eq_some_iff.1 h2).1
      rw [h2]; simp only [Array.length_toList] at this; simp [this]
    · simp [hij]
  refine ⟨es.modify j (fun e => { e with val := .int .i64 x }), ?_, ⟨⟨?_, ?_, ?_⟩, ?_, ?_⟩⟩
  · simp [Instr.entryStore, MapKept.run_getObj_map hb, asInt, asIntOf, goInt, hidx, MapKept.run_setObj_map _ hb, Result.andThen, putObj]
  · intro y hy
    rw [hl] at hy
    rcases List.mem_or_eq_of_mem_set hy with hy | rfl
    · exact s1 y hy
    · exact s1 e0 (List.mem_of_getElem? h2)
  · rw [hl, List.map_set, set_self _ _ _ (by rw [List.getElem?_map, h2]; rfl)]; exact s2
  · rw [hl, List.map_set, set_self _ _ _ (by rw [List.getElem?_map, h2]; rfl)]; exact s3
  · intro y hy
    rw [hl] at hy
    obtain ⟨i, hi⟩ := List.mem_iff_getElem?.1 hy
    rw [List.getElem?_set] at hi
    by_cases hij : j = i
    · subst hij
      have := (List.getElem?_eq_some_iff.1 h2).1
      rw [if_pos rfl, if_pos this] at hi
      obtain rfl := Option.some.inj hi
      exact ⟨p, hp, hk, by simp⟩
    · rw [if_neg hij] at hi
      obtain ⟨q, h4, h5, h6⟩ := hv y (List.mem_of_getElem? hi)
      refine ⟨q, h4, h5, ?_⟩
      have hne : q ≠ p := by
        rintro rfl
        apply hij
        have a1 : (es.toList.map (·.key))[j]? = some (pkV q) := by rw [List.getElem?_map, h2]; simp [hk]
        have a2 : (es.toList.map (·.key))[i]? = some (pkV q) := by rw [List.getElem?_map, hi]; simp [h5]
        exact (List.getElem?_inj (List.getElem?_eq_some_iff.1 a1).1 s3).1 (a1.trans a2.symm)
      simp only [if_neg hne]; exact h6
  · intro q hq
    rw [hl] at hq
    by_cases hqp : q = p
    · subst hqp
      have := (List.getElem?_eq_some_iff.1 h2).1
      exact absurd hk (hq { e0 with val := .int .i64 x } (List.mem_iff_getElem?.2 ⟨j, by rw [List.getElem?_set, if_pos rfl, if_pos this]⟩))
    · simp only [if_neg hqp]
      refine hno q fun y hy he => ?_
      obtain ⟨i, hi⟩ := List.mem_iff_getElem?.1 hy
      by_cases hij : j = i
      · subst hij
        rw [h2] at hi
        obtain rfl := Option.some.inj hi
        exact hqp (pkV_inj (he.symm.trans hk))
      · exact hq y (List.mem_iff_getElem?.2 ⟨i, by rw [List.getElem?_set, if_neg hij]; exact hi⟩) he
end Go.Proofs.Ytecpgkcoehnpbaa
