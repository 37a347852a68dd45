/- Layer 14, in plain words: a disk without a fuse, played; what a crash leaves that keeps all, or none, or cuts all. -/
import Derived.Test.YtpnmhpkpkejdiaaDiskI
namespace Go.Proofs.Ytpnmhpkpkejdiaa

/-- no fuse burns, and it is up -/
def Free (c : Int) (s : DSt) : Prop := s.left = -1 ∧ s.down = false ∧ s.cap = c
theorem trunc_ok {N : Nat} {s : DSt} (h : DOk N s) (n : Int) : DOk N (s.trunc n).2 := by
  unfold DSt.trunc
  split
  · exact h
  · split
    · exact h
    · split
      · exact h.burnt
      · rename_i h1 h2 h3
        obtain ⟨b1, b2, b3, b4⟩ := burnt_parts s
        refine (only_ok h.burnt ?_).mono (by omega)
        rw [b3, ByteArray.size_extract, bytes_size]
        have := h.all
        omega
theorem append_freed {c : Int} {s : DSt} (h : Free c s) (x : ByteArray) : Free c (s.append x).2 := by
  obtain ⟨h1, h2, h3⟩ := h
  have hb := burnt_free h1
  unfold DSt.append
  rw [hb]
  split
  · exact ⟨h1, h2, h3⟩
  · split
    · exact ⟨h1, h2, h3⟩
    · split
      · exact ⟨h1, h2, h3⟩
      · split
        · exact ⟨h1, h2, h3⟩
        · exact ⟨h1, h2, h3⟩
theorem sync_freed {c : Int} {s : DSt} (h : Free c s) : Free c s.sync.2 := by
  obtain ⟨h1, h2, h3⟩ := h
  have hb := burnt_free h1
  unfold DSt.sync
  rw [hb]
  split
  · exact ⟨h1, h2, h3⟩
  · split
    · exact ⟨h1, h2, h3⟩
    · exact ⟨h1, h2, h3⟩
theorem trunc_freed {c : Int} {s : DSt} (h : Free c s) (n : Int) : Free c (s.trunc n).2 := by
  obtain ⟨h1, h2, h3⟩ := h
  have hb := burnt_free h1
  unfold DSt.trunc
  rw [hb]
  split
  · exact ⟨h1, h2, h3⟩
  · split
    · exact ⟨h1, h2, h3⟩
    · split
      · exact ⟨h1, h2, h3⟩
      · exact ⟨h1, h2, h3⟩

/-- an op of those that DiskCrashes plays -/
def stepC (s : DSt) (o : DOp) : DSt := if o.k = 0 then (s.append o.s).2 else if o.k = 1 then s.sync.2 else if o.k = 2 then (s.trunc o.n).2 else s
def playC (os : List DOp) (j : Nat) : DSt := (os.take j).foldl stepC (dst0 10000)
theorem playC_succ (os : List DOp) (j : Nat) {o : DOp} (h : os[j]? = some o) : playC os (j + 1) = stepC (playC os j) o := by
  unfold playC
  rw [List.take_add_one, h, List.foldl_append]
  rfl
theorem stepC_ok {N : Nat} {s : DSt} (h : DOk N s) (hf : Free 10000 s) (o : DOp) : DOk (N + 1) (stepC s o) ∧ Free 10000 (stepC s o) := by
  unfold stepC
  split
  · exact ⟨append_ok h _, append_freed hf _⟩
  · split
    · exact ⟨(sync_ok h).mono (by omega), sync_freed hf⟩
    · split
      · exact ⟨(trunc_ok h _).mono (by omega), trunc_freed hf _⟩
      · exact ⟨h.mono (by omega), hf⟩
theorem playC_ok (os : List DOp) (j : Nat) (hj : j ≤ os.length) : DOk j (playC os j) ∧ Free 10000 (playC os j) := by
  induction j with
  | zero => exact ⟨dst0_ok 10000, rfl, rfl, rfl⟩
  | succ j ih =>
    obtain ⟨o, ho⟩ : ∃ o, os[j]? = some o := ⟨_, List.getElem?_eq_getElem (by omega)⟩
    rw [playC_succ os j ho]
    have := ih (by omega)
    exact stepC_ok this.1 this.2 o

theorem tailTo_keep (l : List ByteArray) (keep : List Bool) (k : Nat) (hk : k ≤ l.length) (hb : ∀ i, i < k → keep.getD i false = true) : tailTo l keep k = ((l.take k).map (·.data.toList)).flatten := by
  induction k with
  | zero => rfl
  | succ k ih =>
    obtain ⟨x, hx⟩ : ∃ x, l[k]? = some x := ⟨_, List.getElem?_eq_getElem (by omega)⟩
    rw [tailTo_succ l keep k hx, ih (by omega) (fun i hi => hb i (by omega)), List.take_add_one, hx]
    have e : spoilt keep k x = x.data.toList := if_pos (hb k (by omega))
    rw [e]
    simp
theorem tailTo_none (l : List ByteArray) (k : Nat) (hk : k ≤ l.length) : ∃ n, tailTo l [] k = List.replicate n 0 := by
  induction k with
  | zero => exact ⟨0, rfl⟩
  | succ k ih =>
    obtain ⟨x, hx⟩ : ∃ x, l[k]? = some x := ⟨_, List.getElem?_eq_getElem (by omega)⟩
    obtain ⟨n, hn⟩ := ih (by omega)
    refine ⟨n + x.size, ?_⟩
    rw [tailTo_succ l [] k hx, hn]
    show List.replicate n 0 ++ List.replicate x.size 0 = _
    rw [List.replicate_append_replicate]
theorem crash_keeps (s : DSt) (keep : List Bool) (hb : ∀ i, i < s.pieces.length → keep.getD i false = true) : (s.crash keep (-1)).bytes = s.bytes := by
  have e : crashTail s keep (-1) = s.tail := by
    unfold crashTail
    simp only
    rw [if_neg (by omega), tailTo_keep _ _ _ (Nat.le_refl _) hb, List.take_length]
    rfl
  unfold DSt.bytes
  rw [crash_all, e]
  rfl
theorem crash_spoils (s : DSt) : (s.crash [] (-1)).bytes = ⟨(s.lasts.data.toList ++ List.replicate (s.all.length - s.lasts.size) 0).toArray⟩ := by
  have e : crashTail s [] (-1) = List.replicate (s.all.length - s.lasts.size) 0 := by
    unfold crashTail
    simp only
    rw [if_neg (by omega)]
    obtain ⟨n, hn⟩ := tailTo_none s.pieces s.pieces.length (Nat.le_refl _)
    have hl := tailTo_length s.pieces [] s.pieces.length (Nat.le_refl _)
    rw [List.take_length, ← tail_length, hn, List.length_replicate] at hl
    have ha : s.all.length = s.lasts.data.toList.length + s.tail.length := List.length_append
    rw [all_size] at ha
    rw [hn]
    congr 1
    omega
  unfold DSt.bytes
  rw [crash_all, e]
theorem crash_cuts (s : DSt) (keep : List Bool) : (s.crash keep 0).bytes = s.lasts := by
  have e : crashTail s keep 0 = [] := by
    unfold crashTail
    simp only
    split
    · rfl
    · exact List.eq_nil_of_length_eq_zero (by omega)
  unfold DSt.bytes
  rw [crash_all, e, List.append_nil, bytes_toList]
end Go.Proofs.Ytpnmhpkpkejdiaa
