/- Layer 14: what a disk's steps come to, in plain words; the example (awake). -/
import Derived.Test.YtpnmhpkpkejdiaaDiskE
namespace Go.Proofs.Ytpnmhpkpkejdiaa
open Go.RowKit

theorem burnt_free {s : DSt} (hl : s.left = -1) : s.burnt = s := by
  unfold DSt.burnt
  rw [if_neg (by omega), if_neg (by omega)]
theorem append_free {s : DSt} {x : ByteArray} (hl : s.left = -1) (hd : s.down = false) (hr : (s.all.length : Int) + (x.size : Nat) ≤ s.cap) (hx : x.toList ≠ []) : s.append x = (0, s.more x) := by
  unfold DSt.append
  rw [if_neg (by rw [hd]; simp), if_neg (by omega), if_neg (by omega), if_neg hx, burnt_free hl]
theorem append_none {s : DSt} {x : ByteArray} (hl : s.left = -1) (hd : s.down = false) (hr : (s.all.length : Int) + (x.size : Nat) ≤ s.cap) (hx : x.toList = []) : s.append x = (0, s) := by
  unfold DSt.append
  rw [if_neg (by rw [hd]; simp), if_neg (by omega), if_neg (by omega), if_pos hx, burnt_free hl]
theorem append_full {s : DSt} {x : ByteArray} (hd : s.down = false) (hr : s.cap < (s.all.length : Int) + (x.size : Nat)) : s.append x = (7, s) := by
  unfold DSt.append
  rw [if_neg (by rw [hd]; simp), if_pos (by omega)]
theorem sync_free {s : DSt} (hl : s.left = -1) (hd : s.down = false) : s.sync = (0, s.only s.bytes) := by
  unfold DSt.sync
  rw [if_neg (by rw [hd]; simp), if_neg (by omega), burnt_free hl]
theorem all_size (x : ByteArray) : x.data.toList.length = x.size := Array.length_toList
theorem more_ok {N : Nat} {s : DSt} {x : ByteArray} (h : DOk N s) (hr : (s.all.length : Int) + (x.size : Nat) ≤ s.cap) : DOk (N + 1) (s.more x) := by
  refine ⟨h.c0, h.c1, ?_, ?_, h.l0, h.l1⟩
  · rw [more_all, List.length_append, all_size]
    show _ ≤ s.cap
    omega
  · have := h.pieces
    simp only [DSt.more, List.length_append, List.length_singleton]; omega
theorem only_all (s : DSt) (y : ByteArray) : (s.only y).all = y.data.toList := by simp [DSt.only, DSt.all, DSt.tail]
theorem only_ok {N : Nat} {s : DSt} {y : ByteArray} (h : DOk N s) (hr : (y.size : Int) ≤ s.cap) : DOk 0 (s.only y) := by
  refine ⟨h.c0, h.c1, ?_, Nat.le_refl _, h.l0, h.l1⟩
  rw [only_all, all_size]
  exact hr
theorem DOk.mono {N M : Nat} {s : DSt} (h : DOk N s) (hm : N ≤ M) : DOk M s := { h with pieces := Nat.le_trans h.pieces hm }
theorem capOf_le (n : Int) : 0 ≤ capOf n ∧ capOf n ≤ 16777216 := by unfold capOf; omega
theorem dst0_ok (n : Int) : DOk 0 (dst0 n) := by
  have := capOf_le n
  exact ⟨this.1, this.2, by simp [dst0, DSt.all, DSt.tail]; exact this.1, Nat.le_refl _, by simp [dst0], by simp [dst0]⟩
theorem bytes_data (s : DSt) : s.bytes.data.toList = s.all := by simp [DSt.bytes]
theorem bytes_size (s : DSt) : s.bytes.size = s.all.length := List.size_toArray

def bAB : ByteArray := { data := #[97, 98] }
def bCD : ByteArray := { data := #[99, 100] }
theorem ne_toList {x : ByteArray} (h : x.data.toList ≠ []) : x.toList ≠ [] := by rw [ByteArray.toList_eq]; exact h

set_option maxRecDepth 100000 in
set_option maxHeartbeats 1600000 in
theorem diskAwake (w : World) : Calls Try.prog 23 #[] w fun e w' => e = .returned (.bool true) ∧ Below w.heap.size w w' := by
  obtain ⟨s0, hs0⟩ : ∃ s0, s0 = dst0 100 := ⟨_, rfl⟩
  have l0 : s0.left = -1 := by rw [hs0]; rfl
  have d0 : s0.down = false := by rw [hs0]; rfl
  have c0 : s0.cap = 100 := by rw [hs0]; rfl
  have a0 : s0.all = [] := by rw [hs0]; rfl
  have k0 : DOk 0 s0 := by rw [hs0]; exact dst0_ok _
  have e1 : s0.append bAB = (0, s0.more bAB) := append_free l0 d0 (by rw [c0, a0]; decide) (ne_toList (by decide))
  have k1 : DOk 1 (s0.more bAB) := more_ok k0 (by rw [c0, a0]; decide)
  have e2 : (s0.more bAB).sync = (0, (s0.more bAB).only (s0.more bAB).bytes) := sync_free l0 d0
  have b1 : (s0.more bAB).bytes = bAB := by
    unfold DSt.bytes; rw [more_all, a0]; rfl
  rw [b1] at e2
  have k2 : DOk 0 ((s0.more bAB).only bAB) := only_ok k1 (by show _ ≤ s0.cap; rw [c0]; decide)
  have e3 : ((s0.more bAB).only bAB).append bCD = (0, ((s0.more bAB).only bAB).more bCD) := append_free l0 d0 (by rw [only_all]; show _ ≤ s0.cap; rw [c0]; decide) (ne_toList (by decide))
  have k3 : DOk 1 (((s0.more bAB).only bAB).more bCD) := more_ok k2 (by rw [only_all]; show _ ≤ s0.cap; rw [c0]; decide)
  have e4 : (((s0.more bAB).only bAB).more bCD).crash [] (-1) = ⟨-1, false, { data := #[97, 98, 0, 0] }, [], s0.cap⟩ := rfl
  obtain ⟨s1, hs1⟩ : ∃ s1, s0.more bAB = s1 := ⟨_, rfl⟩
  rw [hs1] at e1 k1 e2 k2 e3 k3 e4
  obtain ⟨s2, hs2⟩ : ∃ s2, s1.only bAB = s2 := ⟨_, rfl⟩
  rw [hs2] at e2 k2 e3 k3 e4
  obtain ⟨s3, hs3⟩ : ∃ s3, s2.more bCD = s3 := ⟨_, rfl⟩
  rw [hs3] at e3 k3 e4
  have HS0 := Lib.hid hs0
  have E1 := Lib.hid e1
  have E2 := Lib.hid e2
  have E3 := Lib.hid e3
  have E4 := Lib.hid e4
  have K0 := Lib.hid k0
  have K1 := Lib.hid k1
  have K2 := Lib.hid k2
  have K3 := Lib.hid k3
  clear hs0 l0 d0 c0 a0 k0 e1 k1 e2 b1 k2 e3 k3 e4 hs1 hs2 hs3
  go_enter Try.func23, Try.ntmps23
  go_wp2_with fail
  refine (new_any 100 w).mono ?_
  rintro e w1 ⟨rfl, h1, hb1⟩
  rw [← HS0.out] at h1
  have c1 := append_any w.heap.size 0 s0 _ w1 bAB h1 K0.out (by omega) (by decide)
  rw [E1.out] at c1
  have C1 := Lib.hid c1
  have HB1 := Lib.hid hb1
  have z1 := hb1.size
  clear h1 hb1 c1
  go_wp2_with fail
  refine C1.out.mono ?_
  rintro e w2 ⟨rfl, h2, c2⟩
  have c3 := sync_any w.heap.size 1 s1 _ w2 h2 K1.out (by omega)
  rw [E2.out] at c3
  have C2 := Lib.hid c3
  have HB2 : Hid (Below w.heap.size w w2) := HB1.out.trans (c2.below z1 (fun i hi a => by omega))
  have z2 := c2.size
  clear h2 c2 c3 C1
  go_wp2_with fail
  refine C2.out.mono ?_
  rintro e w3 ⟨rfl, h3, c3⟩
  have c4 := append_any w.heap.size 0 s2 _ w3 bCD h3 K2.out (by omega) (by decide)
  rw [E3.out] at c4
  have C3 := Lib.hid c4
  have HB3 : Hid (Below w.heap.size w w3) := HB2.out.trans (c3.below (by omega) (fun i hi a => by rcases a with ⟨a, _⟩ | a <;> omega))
  have z3 := c3.size
  clear h3 c3 c4 C2
  go_wp2_with fail
  refine C3.out.mono ?_
  rintro e w4 ⟨rfl, h4, c4⟩
  have c5 := crash_any w.heap.size 1 s3 _ w4 [] none 0 (-1) h4 K3.out (by omega) (fun i b hi => by simp at hi) (by simp)
  rw [E4.out] at c5
  have C4 := Lib.hid c5
  have HB4 : Hid (Below w.heap.size w w4) := HB3.out.trans (c4.below (by omega) (fun i hi a => by rcases a with ⟨⟨a, _⟩ | a, _⟩ | a <;> omega))
  have z4 := c4.size
  clear h4 c4 c5 C3
  go_wp2_with fail
  refine C4.out.mono ?_
  rintro e w5 ⟨rfl, h5, c5⟩
  have c6 := read_up w.heap.size _ _ w5 h5 rfl (by simp [DSt.all, DSt.tail]) (by simp)
  have C5 := Lib.hid c6
  have HB5 : Hid (Below w.heap.size w w5) := HB4.out.trans (c5.below (by omega) (fun i hi a => by rcases a with ⟨⟨⟨a, _⟩ | a, _⟩ | a, _⟩ | a <;> omega))
  clear h5 c5 c6 C4
  go_wp2_with fail
  refine C5.out.mono ?_
  rintro e w6 ⟨rfl, hb6⟩
  have HB6 : Hid (Below w.heap.size w w6) := HB5.out.trans (hb6.mono HB5.out.size)
  clear hb6
  go_wp2_with fail
  go_ret
  exact ⟨rfl, HB6.out⟩
end Go.Proofs.Ytpnmhpkpkejdiaa
