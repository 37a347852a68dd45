/- Layer 14, in plain words: what always holds of a disk, step by step. -/
import Derived.Test.YtpnmhpkpkejdiaaDiskG
namespace Go.Proofs.Ytpnmhpkpkejdiaa

theorem append_ok {N : Nat} {s : DSt} (h : DOk N s) (x : ByteArray) : DOk (N + 1) (s.append x).2 := by
  unfold DSt.append
  split
  · exact h.mono (by omega)
  · split
    · exact h.mono (by omega)
    · rename_i hd hf
      split
      · exact h.burnt.mono (by omega)
      · split
        · exact h.burnt.mono (by omega)
        · obtain ⟨b1, b2, b3, b4⟩ := burnt_parts s
          refine more_ok h.burnt ?_
          rw [b3, b4]
          omega
theorem sync_ok {N : Nat} {s : DSt} (h : DOk N s) : DOk N s.sync.2 := by
  unfold DSt.sync
  split
  · exact h
  · split
    · exact h.burnt
    · obtain ⟨b1, b2, b3, b4⟩ := burnt_parts s
      refine (only_ok h.burnt ?_).mono (by omega)
      rw [b3, bytes_size]
      exact h.all
theorem fuse_ok {N : Nat} {s : DSt} (h : DOk N s) (n : Int) (hn : n ≤ 9223372036854775807) : DOk N (s.fuse n) :=
  ⟨h.c0, h.c1, h.all, h.pieces, by simp only [DSt.fuse]; omega, by simp only [DSt.fuse]; omega⟩
theorem crashTail_le (s : DSt) (keep : List Bool) (cut : Int) : (crashTail s keep cut).length ≤ s.tail.length := by
  have e : (tailTo s.pieces keep s.pieces.length).length = s.tail.length := by
    rw [tailTo_length _ _ _ (Nat.le_refl _), List.take_length, tail_length]
  unfold crashTail
  simp only
  split
  · rw [← e, List.length_take]; omega
  · exact Nat.le_of_eq e
theorem crash_all (s : DSt) (keep : List Bool) (cut : Int) : (s.crash keep cut).all = s.lasts.data.toList ++ crashTail s keep cut := by simp [DSt.crash, DSt.all, DSt.tail]
theorem crash_len (s : DSt) (keep : List Bool) (cut : Int) : (s.crash keep cut).all.length ≤ s.all.length := by
  have e : s.all.length = s.lasts.data.toList.length + s.tail.length := List.length_append
  rw [crash_all, List.length_append, e]
  have := crashTail_le s keep cut
  omega
theorem crash_ok {N : Nat} {s : DSt} (h : DOk N s) (keep : List Bool) (cut : Int) : DOk 0 (s.crash keep cut) := by
  refine ⟨h.c0, h.c1, ?_, Nat.le_refl _, by simp [DSt.crash], by simp [DSt.crash]⟩
  have := crash_len s keep cut
  have := h.all
  show ((s.crash keep cut).all.length : Int) ≤ s.cap
  omega
/-- what lasts stays -/
def Stays (s s' : DSt) : Prop := s.lasts.data.toList <+: s'.lasts.data.toList
theorem Stays.refl (s : DSt) : Stays s s := List.prefix_rfl
theorem append_stays (s : DSt) (x : ByteArray) : Stays s (s.append x).2 := by
  obtain ⟨b1, b2, b3, b4⟩ := burnt_parts s
  unfold DSt.append Stays
  split
  · exact List.prefix_rfl
  · split
    · exact List.prefix_rfl
    · split
      · simp only [b1]; exact List.prefix_rfl
      · split
        · simp only [b1]; exact List.prefix_rfl
        · simp only [DSt.more, b1]; exact List.prefix_rfl
theorem sync_stays (s : DSt) : Stays s s.sync.2 := by
  obtain ⟨b1, b2, b3, b4⟩ := burnt_parts s
  unfold DSt.sync Stays
  split
  · exact List.prefix_rfl
  · split
    · simp only [b1]; exact List.prefix_rfl
    · simp only [DSt.only, bytes_data]
      exact ⟨s.tail, rfl⟩
theorem crash_stays (s : DSt) (keep : List Bool) (cut : Int) : Stays s (s.crash keep cut) := by
  unfold Stays DSt.crash
  exact ⟨crashTail s keep cut, by simp⟩
end Go.Proofs.Ytpnmhpkpkejdiaa
