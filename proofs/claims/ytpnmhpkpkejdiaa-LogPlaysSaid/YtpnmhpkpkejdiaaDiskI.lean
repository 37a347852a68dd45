/- Layer 14, in plain words: what is read of a disk, cut where what lasts ends. -/
import Derived.Test.YtpnmhpkpkejdiaaDiskH
namespace Go.Proofs.Ytpnmhpkpkejdiaa

theorem bytes_ge (s : DSt) : s.lasts.size ≤ s.bytes.size := by
  rw [bytes_size]
  have e : s.all.length = s.lasts.data.toList.length + s.tail.length := List.length_append
  have := all_size s.lasts
  omega
theorem lasts_le (s : DSt) (y : ByteArray) (h : y.data.toList <+: s.lasts.data.toList) : y.size ≤ s.lasts.size := by
  have := h.length_le
  rw [all_size, all_size] at this
  exact this
theorem lasts_cut (s : DSt) (y : ByteArray) (h : y.data.toList <+: s.lasts.data.toList) : s.bytes.extract 0 y.size = y := by
  have h1 := lasts_le s y h
  have h2 := bytes_ge s
  rw [bytes_size] at h2
  unfold DSt.bytes
  rw [extract_take _ _ (by omega)]
  have e : s.all.take y.size = y.data.toList := by
    obtain ⟨t, ht⟩ := h
    unfold DSt.all
    rw [← ht, List.append_assoc, ← all_size y]
    exact List.take_left
  rw [e]
theorem lasts_all (s : DSt) : s.bytes.extract 0 s.lasts.size = s.lasts := lasts_cut s s.lasts List.prefix_rfl
theorem append_cap (s : DSt) (x : ByteArray) : (s.append x).2.cap = s.cap := by
  obtain ⟨b1, b2, b3, b4⟩ := burnt_parts s
  unfold DSt.append
  split
  · rfl
  · split
    · rfl
    · split
      · exact b3
      · split
        · exact b3
        · exact b3
theorem sync_zero (s : DSt) (h : s.sync.1 = 0) : s.sync.2.lasts.size = s.sync.2.all.length := by
  unfold DSt.sync at h ⊢
  split at h
  · cases h
  · split at h
    · cases h
    · rename_i h1 h2
      rw [if_neg h1, if_neg h2]
      show s.bytes.size = (s.burnt.only s.bytes).all.length
      rw [only_all, all_size]
theorem crash_lasts (s : DSt) (keep : List Bool) (cut : Int) : (s.crash keep cut).lasts.size = (s.crash keep cut).all.length := by
  rw [crash_all]; exact List.size_toArray
theorem sync_cap (s : DSt) : s.sync.2.cap = s.cap := by
  obtain ⟨b1, b2, b3, b4⟩ := burnt_parts s
  unfold DSt.sync
  split
  · rfl
  · split
    · exact b3
    · exact b3
end Go.Proofs.Ytpnmhpkpkejdiaa
