/- Layer 15, in plain words: the records of bytes. -/
import Derived.Test.YtpnmhpkpkejdiaaSumP
namespace Go.Proofs.Ytpnmhpkpkejdiaa

theorem openL_len (l : List UInt8) (h : (openL l).2.2 = 0) : (openL l).1.length + (openL l).2.1.length + 8 = l.length := by
  unfold openL at h ⊢
  split at h
  · cases h
  · split at h
    · cases h
    · split at h
      · cases h
      · split at h
        · cases h
        · rename_i h1 h2 h3 h4
          rw [if_neg h1, if_neg h2, if_neg h3, if_neg h4]
          simp only [List.length_take, List.length_drop] at h3 ⊢
          omega
theorem openL_rest (l : List UInt8) (h : (openL l).2.2 = 0) : (openL l).2.1 = l.drop (8 + (openL l).1.length) := by
  unfold openL at h ⊢
  split at h
  · cases h
  · split at h
    · cases h
    · split at h
      · cases h
      · split at h
        · cases h
        · rename_i h1 h2 h3 h4
          rw [if_neg h1, if_neg h2, if_neg h3, if_neg h4]
          simp only [List.length_take, List.length_drop] at h3 ⊢
          rw [List.drop_drop]
          congr 1
          omega
/-- the records, and what is behind them -/
def scanF : Nat → List UInt8 → List (List UInt8) × List UInt8
  | 0, l => ([], l)
  | n + 1, l => if (openL l).2.2 = 0 then ((openL l).1 :: (scanF n (openL l).2.1).1, (scanF n (openL l).2.1).2) else ([], l)
def scanL (l : List UInt8) : List (List UInt8) × List UInt8 := scanF (l.length + 1) l
theorem scanF_stable (n m : Nat) (l : List UInt8) (hn : l.length < n) (hm : l.length < m) : scanF n l = scanF m l := by
  induction n generalizing m l with
  | zero => omega
  | succ n ih =>
    obtain ⟨m, rfl⟩ : ∃ k, m = k + 1 := ⟨m - 1, by omega⟩
    unfold scanF
    by_cases h : (openL l).2.2 = 0
    · have hl := openL_len l h
      rw [if_pos h, if_pos h, ih m _ (by omega) (by omega)]
    · rw [if_neg h, if_neg h]
theorem scanL_ok (l : List UInt8) (h : (openL l).2.2 = 0) : scanL l = ((openL l).1 :: (scanL (openL l).2.1).1, (scanL (openL l).2.1).2) := by
  have hl := openL_len l h
  unfold scanL
  conv => lhs; unfold scanF
  rw [if_pos h, scanF_stable l.length ((openL l).2.1.length + 1) _ (by omega) (by omega)]
theorem scanL_no (l : List UInt8) (h : (openL l).2.2 ≠ 0) : scanL l = ([], l) := by
  unfold scanL scanF
  rw [if_neg h]
theorem openL_nil : openL [] = ([], [], 3) := rfl
theorem scanL_nil : scanL [] = ([], []) := scanL_no [] (by rw [openL_nil]; decide)
theorem scanF_drop (n : Nat) (l : List UInt8) : (scanF n l).2.length ≤ l.length ∧ (scanF n l).2 = l.drop (l.length - (scanF n l).2.length) := by
  induction n generalizing l with
  | zero => simp [scanF]
  | succ n ih =>
    unfold scanF
    by_cases h : (openL l).2.2 = 0
    · have hl := openL_len l h
      have hr := openL_rest l h
      have i1 := ih (openL l).2.1
      rw [if_pos h]
      simp only
      refine ⟨by omega, ?_⟩
      have e := i1.2
      rw [hr, List.drop_drop] at e
      have e2 : l.length - (scanF n (openL l).2.1).2.length = 8 + (openL l).1.length + ((l.drop (8 + (openL l).1.length)).length - (scanF n (openL l).2.1).2.length) := by
        rw [← hr]; omega
      rw [e2, ← hr]
      rw [← hr] at e
      exact e
    · rw [if_neg h]; simp
theorem scanL_drop (l : List UInt8) : (scanL l).2.length ≤ l.length ∧ (scanL l).2 = l.drop (l.length - (scanL l).2.length) := scanF_drop _ l
/-- frames one behind the other -/
def framesOf : List (List UInt8) → List UInt8
  | [] => []
  | x :: l => frameL x ++ framesOf l
theorem scanL_frame (x behind : List UInt8) (h : x.length ≤ 1048576) : scanL (frameL x ++ behind) = (x :: (scanL behind).1, (scanL behind).2) := by
  have e := openL_frame x behind h
  rw [scanL_ok _ (by rw [e]), e]
theorem scanL_frames (ls : List (List UInt8)) (behind : List UInt8) (h : ∀ x ∈ ls, x.length ≤ 1048576) : scanL (framesOf ls ++ behind) = (ls ++ (scanL behind).1, (scanL behind).2) := by
  induction ls with
  | nil => rfl
  | cons x ls ih =>
    rw [framesOf, List.append_assoc, scanL_frame x _ (h x (List.mem_cons_self ..)), ih (fun y hy => h y (List.mem_cons_of_mem _ hy))]
    rfl
/-- .. and the bytes of the records are their frames -/
theorem frame_open (l : List UInt8) (h : (openL l).2.2 = 0) : l = frameL (openL l).1 ++ (openL l).2.1 := by
  unfold openL at h ⊢
  split at h
  · cases h
  · split at h
    · cases h
    · split at h
      · cases h
      · split at h
        · cases h
        · rename_i h1 h2 h3 h4
          rw [if_neg h1, if_neg h2, if_neg h3, if_neg h4]
          simp only
          have hs := (frame_iff l (by omega) (by simp only [List.length_drop] at h3 ⊢; omega)).2 (by simpa using h4)
          rw [hs, List.drop_drop, List.take_append_drop]
theorem scan_frames (l : List UInt8) : l = framesOf (scanL l).1 ++ (scanL l).2 := by
  have key : ∀ n, ∀ l : List UInt8, l.length < n → l = framesOf (scanF n l).1 ++ (scanF n l).2 := by
    intro n
    induction n with
    | zero => intro l h; omega
    | succ n ih =>
      intro l h
      unfold scanF
      by_cases ho : (openL l).2.2 = 0
      · have hl := openL_len l ho
        rw [if_pos ho]
        simp only [framesOf]
        rw [List.append_assoc, ← ih _ (by omega)]
        exact frame_open l ho
      · rw [if_neg ho]; rfl
  exact key _ l (by omega)
end Go.Proofs.Ytpnmhpkpkejdiaa
