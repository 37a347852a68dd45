/- Layer 15: what isn't there; in plain words: a disk of any bytes, opened. -/
import Derived.Test.YtpnmhpkpkejdiaaLogE
namespace Go.Proofs.Ytpnmhpkpkejdiaa
open Go.RowKit

set_option maxRecDepth 100000 in
set_option maxHeartbeats 400000 in
theorem wrongNil15 (w : World) : Calls Try.prog 58 #[.pointer none] w fun e w' => e = .returned (.int .i64 1) ∧ w = w' := by
  go_enter Try.func58, Try.ntmps58
  go_wp2_with fail
  go_ret
  exact ⟨rfl, rfl⟩
set_option maxRecDepth 100000 in
set_option maxHeartbeats 400000 in
theorem readNil15 (w : World) : Calls Try.prog 27 #[.pointer none] w fun e w' => e = .returned (.tuple #[.string ByteArray.empty, .int .i64 1]) ∧ w = w' := by
  go_enter Try.func27, Try.ntmps27
  go_wp2_with fail
  refine (wrongNil15 w).mono ?_
  rintro e w1 ⟨rfl, rfl⟩
  go_wp2_with fail
  go_ret2
  exact ⟨rfl, rfl⟩
set_option maxRecDepth 100000 in
set_option maxHeartbeats 400000 in
theorem openNil (w : World) : Calls Try.prog 46 #[.pointer none] w fun e w' => e = .returned (.tuple #[.pointer none, .int .i64 1]) ∧ w = w' := by
  go_enter Try.func46, Try.ntmps46
  go_wp2_with fail
  refine (readNil15 w).mono ?_
  rintro e w1 ⟨rfl, rfl⟩
  go_wp2_with fail
  go_ret2
  exact ⟨rfl, rfl⟩
set_option maxRecDepth 100000 in
set_option maxHeartbeats 400000 in
theorem lastNil (w : World) : Calls Try.prog 50 #[.pointer none] w fun e w' => e = .returned (.tuple #[.string ByteArray.empty, .bool false]) ∧ w = w' := by
  go_enter Try.func50, Try.ntmps50
  go_wp2_with fail
  go_ret2
  exact ⟨rfl, rfl⟩
set_option maxRecDepth 100000 in
set_option maxHeartbeats 400000 in
theorem appendNil15 (x : ByteArray) (w : World) : Calls Try.prog 47 #[.pointer none, .string x] w fun e w' => e = .returned (.int .i64 1) ∧ w = w' := by
  go_enter Try.func47, Try.ntmps47
  go_wp2_with fail
  go_ret
  exact ⟨rfl, rfl⟩
set_option maxRecDepth 100000 in
set_option maxHeartbeats 400000 in
theorem allNil (w : World) : Calls Try.prog 48 #[.pointer none] w fun e w' => e = .returned (.slice none 0 0) ∧ w = w' := by
  go_enter Try.func48, Try.ntmps48
  go_wp2_with fail
  go_ret
  exact ⟨rfl, rfl⟩
set_option maxRecDepth 100000 in
set_option maxHeartbeats 400000 in
theorem lenNil15 (w : World) : Calls Try.prog 51 #[.pointer none] w fun e w' => e = .returned (.int .i64 0) ∧ w = w' := by
  go_enter Try.func51, Try.ntmps51
  go_wp2_with fail
  go_ret
  exact ⟨rfl, rfl⟩
set_option maxRecDepth 100000 in
set_option maxHeartbeats 400000 in
theorem roomNil15 (w : World) : Calls Try.prog 52 #[.pointer none] w fun e w' => e = .returned (.int .i64 0) ∧ w = w' := by
  go_enter Try.func52, Try.ntmps52
  go_wp2_with fail
  go_ret
  exact ⟨rfl, rfl⟩

theorem scanF_small (n : Nat) (l : List UInt8) : ∀ x ∈ (scanF n l).1, x.length ≤ l.length := by
  induction n generalizing l with
  | zero => simp [scanF]
  | succ n ih =>
    unfold scanF
    by_cases h : (openL l).2.2 = 0
    · have hl := openL_len l h
      rw [if_pos h]
      intro x hx
      rcases List.mem_cons.1 hx with rfl | hx
      · omega
      · have := ih (openL l).2.1 x hx; omega
    · rw [if_neg h]; simp
theorem recs_small (s x : ByteArray) (hx : x ∈ recsOf s) : x.size ≤ s.size := by
  obtain ⟨y, hy, rfl⟩ := List.mem_map.1 hx
  have := scanF_small _ s.data.toList y hy
  rw [txt_size, ← all_size s]
  exact this
theorem recs_bytes (s : ByteArray) : s.data.toList.take (recLen s) = bytesL (recsOf s) := by
  have h := scan_frames s.data.toList
  have e : bytesL (recsOf s) = framesOf (scanL s.data.toList).1 := by
    unfold bytesL recsOf
    rw [List.map_map]
    have : ((fun x : ByteArray => x.data.toList) ∘ txt) = id := by funext x; exact txt_data x
    rw [this, List.map_id]
  rw [e]
  have hl : recLen s = (framesOf (scanL s.data.toList).1).length := by
    unfold recLen
    have := congrArg List.length h
    rw [List.length_append, all_size] at this
    omega
  rw [hl]
  clear e hl
  generalize framesOf (scanL s.data.toList).1 = A at *
  generalize (scanL s.data.toList).2 = R at *
  rw [h]
  exact List.take_left
theorem trunc_free {s : DSt} {n : Nat} (hl : s.left = -1) (hd : s.down = false) (hn : n ≤ s.all.length) : s.trunc (n : Nat) = (0, s.only (s.bytes.extract 0 n)) := by
  have h1 : ¬ (((n : Nat) : Int) < 0 ∨ (s.all.length : Int) < ((n : Nat) : Int)) := by omega
  have h2 : ¬ s.left = 0 := by omega
  have h3 : ¬ s.down = true := by rw [hd]; decide
  unfold DSt.trunc
  rw [if_neg h3, if_neg h1, if_neg h2, burnt_free hl]
  exact congrArg (fun k => ((0 : Int), s.only (s.bytes.extract 0 k))) (Int.toNat_natCast n)
theorem bytes_take (s : DSt) (q : Nat) (hq : q ≤ s.all.length) : (s.bytes.extract 0 q).data.toList = s.all.take q := by
  unfold DSt.bytes
  rw [extract_take _ _ hq]
/-- any disk that is up, and burns not, opened -/
theorem openD_any {N : Nat} {s : DSt} (hd : s.down = false) (hl : s.left = -1) (ok : DOk N s) : ∃ s2, openD s = (0, s2) ∧ s2.all = bytesL (recsOf s.bytes) ∧ s2.lasts.size = recLen s.bytes ∧ s2.down = false ∧ s2.left = -1 ∧ s2.cap = s.cap ∧ DOk N s2 := by
  have hrl : recLen s.bytes ≤ s.bytes.size := Nat.sub_le _ _
  have hrb := recs_bytes s.bytes
  have ho : openD s = if recLen s.bytes < s.bytes.size then s.trunc (recLen s.bytes : Nat) else s.sync := by
    unfold openD
    exact if_neg (by rw [hd]; decide)
  rw [ho]
  rw [bytes_data] at hrb
  rw [bytes_size] at hrl
  have hbs := bytes_size s
  have hal := ok.all
  generalize recLen s.bytes = q at *
  generalize bytesL (recsOf s.bytes) = bl at *
  by_cases hlt : q < s.bytes.size
  · have hx := bytes_take s q hrl
    have ht := trunc_free hl hd hrl
    have hsz : (s.bytes.extract 0 q).size = q := by rw [← all_size, hx, List.length_take]; omega
    rw [if_pos hlt, ht]
    generalize s.bytes.extract 0 q = y at *
    refine ⟨s.only y, rfl, ?_, hsz, hd, hl, rfl, (only_ok ok (by rw [hsz]; omega)).mono (by omega)⟩
    rw [only_all, hx, hrb]
  · have he : q = s.all.length := by omega
    rw [if_neg hlt, sync_free hl hd]
    refine ⟨s.only s.bytes, rfl, ?_, by rw [he]; exact hbs, hd, hl, rfl, only_ok2 ok⟩
    rw [only_bytes_all, ← hrb, he, List.take_length]
theorem new_append (c : Int) (hc : 3000 ≤ c ∧ c ≤ 16777216) (x : ByteArray) (hx : x.size ≤ 3000) : ((dst0 c).append x).2.all = x.data.toList ∧ ((dst0 c).append x).2.down = false ∧ ((dst0 c).append x).2.left = -1 ∧ ((dst0 c).append x).2.cap = c ∧ DOk 1 ((dst0 c).append x).2 := by
  have hcap : (dst0 c).cap = c := by show capOf c = c; unfold capOf; omega
  have ha : (dst0 c).all = [] := rfl
  have hfit : ((dst0 c).all.length : Int) + (x.size : Nat) ≤ (dst0 c).cap := by rw [ha, hcap]; simp; omega
  by_cases h0 : x.toList = []
  · have e : x.data.toList = [] := by rw [← ByteArray.toList_eq]; exact h0
    rw [append_none (s := dst0 c) rfl rfl hfit h0, e]
    exact ⟨rfl, rfl, rfl, hcap, (dst0_ok c).mono (by omega)⟩
  · rw [append_free (s := dst0 c) rfl rfl hfit h0]
    exact ⟨by rw [more_all, ha, List.nil_append], rfl, rfl, hcap, more_ok (dst0_ok c) hfit⟩
/-- a fuse of nought: the next call burns -/
theorem fuse_burns {s : DSt} (hd : s.down = false) : ∃ s2, (s.fuse 0).sync = (8, s2) ∧ s2.down = true := by
  unfold DSt.sync DSt.fuse
  simp only
  rw [if_neg (by rw [hd]; decide), if_pos (by decide)]
  refine ⟨_, rfl, ?_⟩
  unfold DSt.burnt
  rw [if_pos (by show max 0 (-1) = (0 : Int); decide)]
end Go.Proofs.Ytpnmhpkpkejdiaa
