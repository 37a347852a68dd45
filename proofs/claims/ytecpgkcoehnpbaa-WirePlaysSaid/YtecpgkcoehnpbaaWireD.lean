/- Layer 16: the law's own functions cut and without, beside a wire. -/
import Derived.Test.YtecpgkcoehnpbaaWireOrder
import Derived.Test.YtecpgkcoehnpbaaAnyTo
namespace Go.Proofs.Ytecpgkcoehnpbaa
open Go.RowKit

set_option maxRecDepth 100000 in
set_option maxHeartbeats 800000 in
theorem two_cut {B g : Nat} {X : Nat → Prop} {w : World} {l : List Pk} {v : Value} {l2 : List Pk} (h : Two B X w g l v l2) (hl : l2.length ≤ 1000) :
    Calls Try.prog 29 #[v] w fun e w' => ∃ v', e = .returned v' ∧ Two B X w' g l v' (cutPks l2) ∧ w = w' := by
  obtain ⟨F, G, h1, h2, h3, h4, h5⟩ := h
  obtain ⟨ao, cap, rfl, _, hcap⟩ := h2.shape
  by_cases hc : l2.length ≤ 64
  · have HT : Hid (Two B X w g l (.slice ao l2.length cap) (cutPks l2)) := by rw [cutPks_id _ hc]; exact ⟨F, G, h1, h2, h3, h4, h5⟩
    clear h1 h2 h3 h4 h5
    generalize l2.length = n at *
    go_enter Try.func29, Try.ntmps29
    go_wp2_with fail
    go_ret
    exact ⟨_, rfl, HT.out, rfl⟩
  · have hk : l2.length - 64 ≤ l2.length := by omega
    have hcut := run_dropS (P := Try.prog) (size := 6) w 28 under_pks' sizePk h2 hk
    have s1 := h2.dropped hk
    have e1 : l2.length - (l2.length - 64) = (cutPks l2).length := by rw [cutPks_length]; omega
    rw [e1, ← pks_drop] at s1
    have HT : Hid (Two B X w g l (dropS (.slice ao l2.length cap) (l2.length - 64) 6) (cutPks l2)) := ⟨F, G, h1, s1, h3, h4, h5⟩
    rw [show ((l2.length - 64 : Nat) : Int) = (l2.length : Int) - 64 by omega] at hcut
    have HCUT := Lib.hid hcut
    clear h1 h2 h3 h4 h5 hcut s1 e1
    generalize dropS (.slice ao l2.length cap) (l2.length - 64) 6 = v' at *
    generalize l2.length = n at *
    have e0 : IntKind.i64.wrap ((n : Int) - 64) = (n : Int) - 64 := IntWalk.i64_in _ (by omega)
    go_enter Try.func29, Try.ntmps29
    go_wp2_with (refine wpList_cut_run rfl rfl rfl rfl under_pks' HCUT.out ?_)
    go_ret
    exact ⟨_, rfl, HT.out, rfl⟩

/-- an empty slice of the law's own takes the place of the slice, whose block is kept -/
theorem Two.fresh {B g : Nat} {X : Nat → Prop} {w : World} {l : List Pk} {b off n cap : Nat} {l2 : List Pk} (h : Two B X w g l (.slice (some ⟨b, off, none⟩) n cap) l2) (hB : B ≤ w.heap.size) :
    Two B (fun k => X k ∨ k = b) (w.alloc (.cells #[] 23)) g l (.slice (some ⟨w.heap.size, 0, none⟩) 0 0) [] ∧ b < w.heap.size := by
  obtain ⟨F, G, h1, h2, h3, h4, h5⟩ := h
  have hG : G b ∧ b < w.heap.size := own_lt h2 (by simp [Value.ownBlock])
  refine ⟨⟨F, fun k => k = w.heap.size, h1.chg ((Chg.refl w (fun _ => False)).alloc _) (fun _ _ x => x), ⟨rfl, .inr ⟨_, 0, 0, #[], rfl, rfl, heap_alloc_new _ _, Nat.le_refl _, by unfold maxLen; omega, by simp, by simp [pksCells]⟩⟩, fun k hk => ⟨(h3 k hk).1, ?_, fun x => ?_⟩, fun k hk => ⟨?_, ?_, fun x => ?_, fun x => ?_⟩, fun k x => ?_⟩, hG.2⟩
  · rw [World.size_alloc]; have := (h3 k hk).2.1; omega
  · rcases x with x | rfl
    · exact (h3 k hk).2.2 x
    · exact (h4 _ hG.1).2.2.2 hk
  · have : k = w.heap.size := hk; omega
  · rw [World.size_alloc]; have : k = w.heap.size := hk; omega
  · have : k = w.heap.size := hk
    rcases x with x | x
    · have := h5 k x; omega
    · omega
  · have : k = w.heap.size := hk; have := (h3 k x).2.1; omega
  · rw [World.size_alloc]
    rcases x with x | x
    · have := h5 k x; omega
    · omega
theorem Two.drew {B g : Nat} {X : Nat → Prop} {w : World} {l : List Pk} {v : Value} {l2 : List Pk} (h : Two B X w g l v l2) : Two B X w.drew g l v l2 := h.below (Below.refl w.heap.size w).drew (Nat.le_refl _)
theorem News.of_sl {w w' : World} {F : Nat → Prop} {e : TypeId} {size n : Nat} {v : Value} {xs : List Value} (h : Sl w F e size v n xs) (h1 : ∀ u ∈ xs, u.oneCell' = true) (hk : ∀ k, v.ownBlock = some k → k < w.heap.size → w'.heap[k]? = w.heap[k]?) : News w' size v n xs := by
  rcases h.2 with ⟨rfl, rfl⟩ | ⟨g, off, cap, cur, rfl, h2, h3, r⟩
  · exact (Sl.news (w := w') (F := F) (e := e) ⟨h.1, .inl ⟨rfl, rfl⟩⟩ h1)
  · exact (Sl.news (w := w') (F := F) (e := e) ⟨h.1, .inr ⟨g, off, cap, cur, rfl, h2, (hk g (by simp [Value.ownBlock]) (heap_lt h3)).trans h3, r⟩⟩ h1)
theorem Sl.taken {w : World} {F : Nat → Prop} {ao : Option Addr} {n cap : Nat} {l : List Pk} (h : Sl w F 23 6 (.slice ao n cap) l.length (pksCells l)) {k : Nat} (hk : k ≤ l.length) : Sl w F 23 6 (.slice ao k cap) (l.take k).length (pksCells (l.take k)) := by
  have e : (l.take k).length = k := List.length_take_of_le hk
  refine ⟨pksCells_length _, ?_⟩
  rcases h.2 with ⟨h0, h1⟩ | ⟨g, off, cap', cur, h0, h2, h3, h4, h5, h6, h7⟩
  · simp only [Value.slice.injEq] at h0
    obtain ⟨rfl, rfl, rfl⟩ := h0
    obtain rfl : k = 0 := by omega
    exact .inl ⟨rfl, e⟩
  · simp only [Value.slice.injEq] at h0
    obtain ⟨rfl, -, rfl⟩ := h0
    refine .inr ⟨g, off, cap, cur, by rw [e], h2, h3, by omega, h5, h6, ?_⟩
    rw [e, pks_take, ← h7, List.take_take]
    congr 1; omega

theorem run_drop_all {P : Program} {size : Nat} (w : World) (t : TypeId) (ht : P.underlying t = some (.slice (P.elem t))) (hs : (P.info? (P.elem t)).map (·.size) = some size) {ao : Option Addr} {n cap k : Nat} (h4 : n ≤ cap) (h5 : cap ≤ maxLen) (hk : k ≤ n) :
    Sem.run P (Instr.slice t (.slice ao n cap) (some (.int .i64 (k : Int))) none none) w = .ok (dropS (.slice ao n cap) k size) w := by
  rw [run_slice_l (P := P) w t ao n cap ht .i64 k (by omega) (by omega)]
  obtain ⟨i, hi, hsz⟩ := Option.map_eq_some_iff.1 hs
  simp [sizeOf, typeInfo, hi, hsz, sliced, dropS, Result.andThen]
theorem exec_cut {P : Program} {w : World} {o : Oper} {ρ : Operand → Value} {x lo : Operand} {t : TypeId} (ho : o.op = .slice t x (some lo) none none) {v u v' : Value} (hs : ρ x = v) (hl : ρ lo = u) (ht : P.underlying t = some (.slice (P.elem t)))
    (hrun : Sem.run P (Instr.slice t v (some u) none none) w = .ok v' w) : (execOp ρ o).run P w = .ok (.value v') w := by
  simp only [execOp, ho, hs, hl, Option.map_some, Option.map_none, run_sliceAt_slice (P := P) w t v (some u) none none ht, hrun, Sem.run_bind, Sem.run_pure, Result.andThen]
theorem add_block (a : Addr) (n : Nat) : (a.add n).block = a.block := by unfold Addr.add; split <;> rfl
set_option maxRecDepth 100000 in
set_option maxHeartbeats 1600000 in
theorem two_without {B g : Nat} {X : Nat → Prop} {w : World} {l : List Pk} {v : Value} {l2 : List Pk} (h : Two B X w g l v l2) (hB : B ≤ w.heap.size) (i : Nat) (hi : i < l2.length) (hl : l2.length ≤ 500) :
    Calls Try.prog 30 #[v, .int .i64 (i : Int)] w fun e w' => ∃ v', e = .returned v' ∧ Two B X w' g l v' (l2.eraseIdx i) ∧ Below B w w' ∧ Kept X w w' := by
  obtain ⟨G, hsl⟩ := h.slice
  obtain ⟨b, off, cap, rfl, _, _, hcap, hmax, _⟩ := hsl.at (by omega)
  obtain ⟨hf, hbw⟩ := h.fresh hB
  have hf := hf.drew
  have zf : ((w.alloc (.cells #[] 23)).drew).heap.size = w.heap.size + 1 := World.size_alloc _ _
  have keepB : ∀ w' : World, w'.heap[b]? = w.heap[b]? → ∀ k, (Value.slice (some ⟨b, off, none⟩) l2.length cap).ownBlock = some k → k < w.heap.size → w'.heap[k]? = w.heap[k]? := by
    intro w' hb k hk _; simp [Value.ownBlock] at hk; subst hk; exact hb
  have h0b : ((w.alloc (.cells #[] 23)).drew).heap[b]? = w.heap[b]? := Below.heap_alloc w _ b hbw
  obtain ⟨ao1, c1, w1, hr1, hT1, hB1, hK1⟩ := two_append hf (by omega) (l2.take i) (.slice (some ⟨b, off, none⟩) i cap) (by
    have h1 := (hsl.taken (k := i) (by omega)).news (pks_one _)
    have e : (l2.take i).length = i := List.length_take_of_le (by omega)
    have h2 := News.of_sl (w' := (w.alloc (.cells #[] 23)).drew) (hsl.taken (k := i) (by omega)) (pks_one _) (fun k hk _ => by simp [Value.ownBlock] at hk; subst hk; exact h0b)
    exact h2) (by simp; omega)
  rw [List.nil_append] at hr1 hT1
  have z1 := hB1.size
  obtain ⟨ob, hob⟩ : ∃ ob, w.heap[b]? = some ob := ⟨_, Array.getElem?_eq_getElem hbw⟩
  have h1b : w1.heap[b]? = w.heap[b]? := by rw [hob]; exact hK1 b ob (.inr rfl) (h0b.trans hob)
  have hdr := hsl.dropped (k := i + 1) (by omega)
  rw [← pks_drop] at hdr
  have ed : l2.length - (i + 1) = (l2.drop (i + 1)).length := (List.length_drop ..).symm
  rw [ed] at hdr
  have hnews := News.of_sl (w' := w1) hdr (pks_one _) (fun k hk _ => by
    have : k = b := by
      simp only [dropS] at hk
      by_cases hc : cap = i + 1
      · rw [if_pos hc] at hk; simpa [Value.ownBlock] using hk.symm
      · rw [if_neg hc] at hk; simp only [Value.ownBlock, Option.map_some, add_block, Option.some.injEq] at hk; exact hk.symm
    subst this; exact h1b)
  obtain ⟨ao2, c2, w2, hr2, hT2, hB2, hK2⟩ := two_append hT1 (by omega) (l2.drop (i + 1)) _ hnews (by simp; omega)
  have ee : l2.take i ++ l2.drop (i + 1) = l2.eraseIdx i := (List.eraseIdx_eq_take_drop_succ l2 i).symm
  rw [ee] at hr2 hT2
  have HRES : Hid (Two B X w2 g l (.slice ao2 (l2.eraseIdx i).length c2) (l2.eraseIdx i) ∧ Below B w w2 ∧ Kept X w w2) :=
    ⟨hT2.next (Below.refl w2.heap.size w2) (Nat.le_refl _) (fun k x => ⟨.inl (.inl x), by obtain ⟨_, _, _, _, _, _, h5⟩ := hT2; exact h5 k (.inl x)⟩), (((Below.refl B w).alloc hB _).drew.trans hB1).trans hB2,
      fun k o x hk => hK2 k o (.inl x) (hK1 k o (.inl x) ((Below.heap_alloc w _ k (heap_lt hk)).trans hk))⟩
  have HR1 := Lib.hid hr1
  have HR2 := Lib.hid hr2
  have hti : (l2.take i).length = i := List.length_take_of_le (by omega)
  rw [hti] at HR1 HR2
  have mixed : Try.prog.follows .mixedOrders = true := by kernel_rfl
  have HD : Hid (∀ w', Sem.run Try.prog (Instr.slice 28 (.slice (some ⟨b, off, none⟩) l2.length cap) (some (.int .i64 ((i : Int) + 1))) none none) w' = .ok (dropS (.slice (some ⟨b, off, none⟩) l2.length cap) (i + 1) 6) w') := fun w' => by
    have h := run_drop_all (size := 6) (k := i + 1) (ao := some ⟨b, off, none⟩) w' 28 under_pks' sizePk hcap hmax (by omega)
    rw [show ((i + 1 : Nat) : Int) = (i : Int) + 1 by omega] at h
    exact h
  clear hr1 hr2 hT1 hT2 hB1 hB2 hK1 hK2 hnews hdr hob h1b h0b keepB hf hsl h ed ee z1 zf hti
  generalize dropS (.slice (some ⟨b, off, none⟩) l2.length cap) (i + 1) 6 = V2 at *
  generalize (l2.eraseIdx i).length = ne at *
  generalize l2.length = n at *
  have e1 : IntKind.i64.wrap ((i : Int) + 1) = (i : Int) + 1 := IntWalk.i64_in _ (by omega)
  have e2 : (0 : Int) ≤ (i : Int) + 1 := by omega
  have e3 : ((i : Int) + 1).toNat = i + 1 := by omega
  have e4 : (i : Int) + 1 ≤ (n : Int) := by omega
  have e5 : (i : Int) ≤ (cap : Int) := by omega
  have e6 : i + 1 ≤ n := by omega
  have e7 : n ≤ cap := by omega
  go_enter Try.func30, Try.ntmps30
  go_wp2_with fail
  refine AnyTo.region (m := 10) (S := fun _ => True) mixed ?_
  refine AnyTo.take (i := 1) (v := ?v1) rfl (by kernel_rfl) (by kernel_rfl) (by kernel_rfl) (by kernel_rfl) (fun _ _ _ h => h) (Or.inl ⟨by rfl, ?hy1⟩) trivial ?rest1
  case hy1 => (intro w' hw'; go_simp; try (with_reducible rfl))
  try simp only [Act.put, List.setIfInBounds_toArray, List.set_cons_zero, List.set_cons_succ]
  refine AnyTo.take (i := 2) (v := ?v2) rfl (by kernel_rfl) (by kernel_rfl) (by kernel_rfl) (by kernel_rfl) (fun _ _ _ h => h) (Or.inl ⟨by rfl, ?hy2⟩) trivial ?rest2
  case hy2 => (intro w' hw'; go_simp; try (with_reducible rfl))
  try simp only [Act.put, List.setIfInBounds_toArray, List.set_cons_zero, List.set_cons_succ]
  refine AnyTo.take (i := 3) (v := ?v3) rfl (by kernel_rfl) (by kernel_rfl) (by kernel_rfl) (by kernel_rfl) (fun _ _ _ h => h) (Or.inl ⟨by rfl, ?hy3⟩) trivial ?rest3
  case hy3 => (intro w' hw'; go_simp; try (with_reducible rfl))
  try simp only [Act.put, List.setIfInBounds_toArray, List.set_cons_zero, List.set_cons_succ]
  refine AnyTo.take (i := 5) (v := ?v5) rfl (by kernel_rfl) (by kernel_rfl) (by kernel_rfl) (by kernel_rfl) (fun _ _ _ h => h) (Or.inl ⟨by rfl, ?hy5⟩) trivial ?rest5
  case hy5 => (intro w' hw'; go_simp; try (with_reducible rfl))
  try simp only [Act.put, List.setIfInBounds_toArray, List.set_cons_zero, List.set_cons_succ]
  refine AnyTo.take (i := 6) (v := ?v6) rfl (by kernel_rfl) (by kernel_rfl) (by kernel_rfl) (by kernel_rfl) (fun _ _ _ h => h) (Or.inl ⟨by rfl, ?hy6⟩) trivial ?rest6
  case hy6 => (intro w' hw'; go_simp; try (with_reducible rfl))
  try simp only [Act.put, List.setIfInBounds_toArray, List.set_cons_zero, List.set_cons_succ]
  refine AnyTo.take (i := 7) (v := ?v7) rfl (by kernel_rfl) (by kernel_rfl) (by kernel_rfl) (by kernel_rfl) (fun _ _ _ h => h) (Or.inl ⟨by rfl, ?hy7⟩) trivial ?rest7
  case hy7 => (intro w' hw'; go_simp; try (with_reducible rfl))
  try simp only [Act.put, List.setIfInBounds_toArray, List.set_cons_zero, List.set_cons_succ]
  refine AnyTo.take (i := 8) (v := V2) rfl (by kernel_rfl) (by kernel_rfl) (by kernel_rfl) (by kernel_rfl) (fun _ _ _ h => h) (Or.inl ⟨by rfl, ?hy8⟩) trivial ?rest8
  case hy8 => exact fun w' _ => exec_cut rfl (by simp [Act.eval, Act.put]) (by simp [Act.eval, Act.put]) under_pks' (HD.out w')
  try simp only [Act.put, List.setIfInBounds_toArray, List.set_cons_zero, List.set_cons_succ]
  refine AnyTo.step (i := 0) (by kernel_rfl) rfl (fun K hK => ?_)
  go_simp
  refine hK.out _ _ (fun _ => trivial) ?_
  clear hK K
  try simp only [Act.put, List.setIfInBounds_toArray, List.set_cons_zero, List.set_cons_succ]
  refine AnyTo.step (i := 4) (by kernel_rfl) rfl (fun K hK => ?_)
  refine step_append_run (t := 28) rfl rfl (v := .slice (some ⟨w.heap.size, 0, none⟩) 0 0) (u := .slice (some ⟨b, off, none⟩) i cap) (by simp [Act.eval, Act.put]) (by simp [Act.eval, Act.put]) HR1.out ?_
  refine hK.out _ _ (fun _ => trivial) ?_
  clear hK K
  try simp only [Act.put, List.setIfInBounds_toArray, List.set_cons_zero, List.set_cons_succ]
  refine AnyTo.step (i := 9) (by kernel_rfl) rfl (fun K hK => ?_)
  refine step_append_run (t := 28) rfl rfl (v := .slice ao1 i c1) (u := V2) (by simp [Act.eval, Act.put]) (by simp [Act.eval, Act.put]) HR2.out ?_
  refine hK.out _ _ (fun _ => trivial) ?_
  clear hK K
  try simp only [Act.put, List.setIfInBounds_toArray, List.set_cons_zero, List.set_cons_succ]
  refine AnyTo.step (i := 10) (by kernel_rfl) rfl (fun K hK => ?_)
  go_simp
  refine hK.out _ _ (fun _ => trivial) ?_
  clear hK K
  try simp only [Act.put, List.setIfInBounds_toArray, List.set_cons_zero, List.set_cons_succ]
  refine AnyTo.done (by kernel_rfl) ?_
  go_wp2_with fail
  go_ret
  exact ⟨_, rfl, HRES.out⟩
end Go.Proofs.Ytecpgkcoehnpbaa
