/- Layer 15, in plain words: what opening, and appending, make of a disk whose bytes are records; the example (awake). -/
import Derived.Test.YtpnmhpkpkejdiaaLogD
namespace Go.Proofs.Ytpnmhpkpkejdiaa
open Go.RowKit

theorem scanF_count (n : Nat) (l : List UInt8) : (scanF n l).1.length + (scanF n l).2.length ≤ l.length := by
  induction n generalizing l with
  | zero => simp [scanF]
  | succ n ih =>
    unfold scanF
    by_cases h : (openL l).2.2 = 0
    · have hl := openL_len l h
      have := ih (openL l).2.1
      rw [if_pos h]
      simp only [List.length_cons]
      omega
    · rw [if_neg h]; simp
theorem recs_count (s : ByteArray) : (recsOf s).length ≤ s.size := by
  have := scanF_count (s.data.toList.length + 1) s.data.toList
  unfold recsOf scanL
  rw [List.length_map]
  rw [all_size] at this ⊢
  omega
/-- the bytes of records -/
def bytesL (ls : List ByteArray) : List UInt8 := framesOf (ls.map (·.data.toList))
theorem framesOf_append (a b : List (List UInt8)) : framesOf (a ++ b) = framesOf a ++ framesOf b := by
  induction a with
  | nil => rfl
  | cons x a ih => simp [framesOf, ih]
theorem bytesL_snoc (ls : List ByteArray) (x : ByteArray) : bytesL (ls ++ [x]) = bytesL ls ++ frameL x.data.toList := by
  unfold bytesL
  rw [List.map_append, framesOf_append]
  simp [framesOf]
theorem recs_frames (ls : List ByteArray) (s : ByteArray) (j : List UInt8) (h : ∀ x ∈ ls, x.size ≤ 1048576) (hs : s.data.toList = bytesL ls ++ j) (hj : (openL j).2.2 ≠ 0) :
    recsOf s = ls ∧ (scanL s.data.toList).2 = j ∧ recLen s = (bytesL ls).length := by
  have e := scanL_frames (ls.map (·.data.toList)) j (fun x hx => by
    obtain ⟨y, hy, rfl⟩ := List.mem_map.1 hx
    rw [all_size]; exact h y hy)
  rw [scanL_no j hj, List.append_nil] at e
  have e2 : (scanL s.data.toList) = (ls.map (·.data.toList), j) := by rw [hs]; exact e
  refine ⟨?_, by rw [e2], ?_⟩
  · unfold recsOf
    rw [e2]
    show (ls.map (·.data.toList)).map txt = ls
    rw [List.map_map]
    have : (txt ∘ fun x : ByteArray => x.data.toList) = id := by funext x; exact txt_of x
    rw [this, List.map_id]
  · unfold recLen
    have : s.size = s.data.toList.length := (all_size s).symm
    rw [e2, this, hs, List.length_append]
    simp
theorem open_nil : (openL []).2.2 ≠ 0 := by rw [openL_nil]; decide
/-- a disk of records alone, opened -/
theorem openD_clean {s : DSt} (ls : List ByteArray) (hd : s.down = false) (hl : s.left = -1) (h : ∀ x ∈ ls, x.size ≤ 1048576) (ha : s.all = bytesL ls) : openD s = (0, s.only s.bytes) ∧ recsOf s.bytes = ls := by
  have hr := recs_frames ls s.bytes [] h (by rw [bytes_data, ha, List.append_nil]) open_nil
  refine ⟨?_, hr.1⟩
  unfold openD
  rw [if_neg (by rw [hd]; decide), if_neg (by rw [hr.2.2, bytes_size, ha]; omega)]
  exact sync_free hl hd
theorem frame_ne (x : ByteArray) : (txt (frameL x.data.toList)).toList ≠ [] := by
  apply ne_toList
  rw [txt_data]
  intro e
  have := frameL_length x.data.toList
  rw [e] at this
  simp at this
theorem txt_frame_size (x : ByteArray) : (txt (frameL x.data.toList)).size = x.size + 8 := by rw [txt_size, frameL_length, all_size]
theorem appD_clean {s : DSt} (x : ByteArray) (hd : s.down = false) (hl : s.left = -1) (hr : (s.all.length : Int) + 8 + (x.size : Nat) ≤ s.cap) :
    appD s x = (0, (s.more (txt (frameL x.data.toList))).only (s.more (txt (frameL x.data.toList))).bytes) := by
  have e := append_free (x := txt (frameL x.data.toList)) hl hd (by rw [txt_frame_size]; omega) (frame_ne x)
  unfold appD
  rw [e]
  simp only [if_true]
  exact sync_free hl hd
theorem only_bytes_all (s : DSt) : (s.only s.bytes).all = s.all := by rw [only_all, bytes_data]
theorem more_frame_all (s : DSt) (x : ByteArray) : (s.more (txt (frameL x.data.toList))).all = s.all ++ frameL x.data.toList := by rw [more_all, txt_data]
theorem only_ok2 {N : Nat} {s : DSt} (h : DOk N s) : DOk N (s.only s.bytes) := (only_ok h (by rw [bytes_size]; exact h.all)).mono (by omega)
theorem crash_only (s : DSt) (y : ByteArray) (keep : List Bool) (cut : Int) : (s.only y).crash keep cut = ⟨-1, false, y, [], s.cap⟩ := by
  have e : crashTail (s.only y) keep cut = [] := by
    have := crashTail_le (s.only y) keep cut
    have h0 : (s.only y).tail = [] := rfl
    rw [h0] at this
    exact List.eq_nil_of_length_eq_zero (by simpa using this)
  unfold DSt.crash
  rw [e, List.append_nil]
  show DSt.mk _ _ (⟨y.data.toList.toArray⟩ : ByteArray) _ _ = _
  rw [bytes_toList]
  rfl

def bX : ByteArray := { data := #[120] }
set_option maxRecDepth 100000 in
set_option maxHeartbeats 3200000 in
theorem logAwake (w : World) : Calls Try.prog 42 #[] w fun e w' => e = .returned (.bool true) ∧ Below w.heap.size w w' := by
  obtain ⟨s0, hs0⟩ : ∃ s0, s0 = dst0 100 := ⟨_, rfl⟩
  have k0 : DOk 0 s0 := by rw [hs0]; exact dst0_ok _
  have a0 : s0.all = bytesL [] := by rw [hs0]; rfl
  have c0 : s0.cap = 100 := by rw [hs0]; rfl
  have d0 : s0.down = false := by rw [hs0]; rfl
  have l0 : s0.left = -1 := by rw [hs0]; rfl
  have o1 := openD_clean [] d0 l0 (by simp) a0
  obtain ⟨s1, hs1⟩ : ∃ s1, s0.only s0.bytes = s1 := ⟨_, rfl⟩
  have k1 : DOk 0 s1 := by rw [← hs1]; exact only_ok2 k0
  have a1 : s1.all = [] := by rw [← hs1, only_bytes_all, a0]; rfl
  have p1 : s1.cap = 100 ∧ s1.down = false ∧ s1.left = -1 := by rw [← hs1]; exact ⟨c0, d0, l0⟩
  have o2 := appD_clean (s := s1) bX p1.2.1 p1.2.2 (by rw [a1, p1.1]; decide)
  obtain ⟨sm, hsm⟩ : ∃ sm, s1.more (txt (frameL bX.data.toList)) = sm := ⟨_, rfl⟩
  have am : sm.all = bytesL [bX] := by rw [← hsm, more_frame_all, a1]; simp [bytesL, framesOf]
  have km : DOk 1 sm := by rw [← hsm]; exact more_ok k1 (by rw [a1, p1.1, txt_frame_size]; decide)
  have pm : sm.cap = 100 := by rw [← hsm]; exact p1.1
  rw [hsm] at o2
  obtain ⟨s2, hs2⟩ : ∃ s2, sm.only sm.bytes = s2 := ⟨_, rfl⟩
  have k2 : DOk 1 s2 := by rw [← hs2]; exact only_ok2 km
  have e3 : s2.crash [] 0 = ⟨-1, false, sm.bytes, [], sm.cap⟩ := by rw [← hs2]; exact crash_only sm sm.bytes [] 0
  obtain ⟨s3, hs3⟩ : ∃ s3, s2.crash [] 0 = s3 := ⟨_, rfl⟩
  have k3 : DOk 0 s3 := by rw [← hs3]; exact crash_ok k2 _ _
  have a3 : s3.all = bytesL [bX] := by rw [← hs3, e3, ← am]; simp [DSt.all, DSt.tail, bytes_data]
  have p3 : s3.down = false ∧ s3.left = -1 := by rw [← hs3, e3]; exact ⟨rfl, rfl⟩
  have o4 := openD_clean [bX] p3.1 p3.2 (by intro x hx; rw [List.mem_singleton.1 hx]; decide) a3
  have k4 : DOk 0 s3 := k3
  have HO1 := Lib.hid o1
  have HO2 := Lib.hid o2
  have HO4 := Lib.hid o4
  have HS0 := Lib.hid hs0
  have K0 := Lib.hid k0
  have K1 := Lib.hid k1
  have K2 := Lib.hid k2
  have K3 := Lib.hid k3
  have HS1 := Lib.hid hs1
  have HS2 := Lib.hid hs2
  have HS3 := Lib.hid hs3
  have A0 : Hid (s0.all.length ≤ 1000000) := by show s0.all.length ≤ _; rw [a0]; decide
  have A3 : Hid (s3.all.length ≤ 1000000) := by
    have := k3.all
    have h9 : s3.cap = 100 := by rw [← hs3, e3]; exact pm
    show s3.all.length ≤ _
    omega
  clear hs0 k0 a0 c0 d0 l0 o1 hs1 k1 a1 p1 o2 hsm am km pm hs2 k2 e3 hs3 k3 a3 p3 o4 k4
  go_enter Try.func42, Try.ntmps42
  go_wp2_with fail
  refine (new_any 100 w).mono ?_
  rintro e w1 ⟨rfl, h1, b1⟩
  rw [← HS0.out] at h1
  obtain ⟨gd, hgd⟩ : ∃ gd, w.heap.size = gd := ⟨_, rfl⟩
  rw [hgd] at h1 b1
  have hop := open_log gd 0 gd (fun _ => False) (fun k => gd ≤ k) s0 w1 h1 K0.out (by omega) A0.out (fun k a => ⟨a, fun x => x⟩) (fun k a => a.elim) (by have := b1.size; omega)
  have HOP := Lib.hid hop
  have HB1 := Lib.hid b1
  clear h1 b1 hop
  try rw [hgd]
  go_wp2_with fail
  refine HOP.out.mono ?_
  rintro e w2 ⟨v, rfl, c2, -, hv, -⟩
  rw [HO1.out.1] at hv ⊢
  obtain ⟨gl, rfl, hld⟩ := hv rfl
  have hB2 : Below gd w w2 := HB1.out.trans (c2.below (by have := HB1.out.size; omega) (fun i hi a => by omega))
  rw [HO1.out.2] at hld
  try simp only at hld
  rw [HS1.out] at hld
  have hz2 := hB2.size
  have hap := append_log gd 0 gd gl (fun _ => False) s1 [] w2 bX hld K1.out (by omega) (by simp) (by decide) (by omega)
  rw [HO2.out] at hap
  have HAP := Lib.hid hap
  have HB2 := Lib.hid hB2
  clear c2 hv hld hap hB2 HOP HB1
  go_wp2_with fail
  refine HAP.out.mono ?_
  rintro e w3 ⟨rfl, hld, c3⟩
  try simp only at hld
  rw [HS2.out] at hld
  have hB3 : Below gd w w3 := HB2.out.trans (c3.below (by omega) (fun i hi a => by omega))
  have hz3 := hB3.size
  obtain ⟨F3, hd3, -, hF3, -, -⟩ := hld.disk (by omega)
  have hcr := crash_any gd 1 s2 F3 w3 [] none 0 0 hd3 K2.out (by omega) (fun i b hi => by simp at hi) (by simp)
  rw [HS3.out] at hcr
  have HCR := Lib.hid hcr
  have HB3 := Lib.hid hB3
  have HF3 := Lib.hid hF3
  clear hld c3 hB3 hd3 hF3 hcr HAP HB2
  go_wp2_with fail
  refine HCR.out.mono ?_
  rintro e w4 ⟨rfl, h4, c4⟩
  have hB4 : Below gd w w4 := HB3.out.trans (c4.below (by omega) (fun i hi a => by have := HF3.out i a; omega))
  have hz4 := hB4.size
  have hop := open_log gd 0 gd (fun _ => False) _ s3 w4 h4 K3.out (by omega) A3.out (fun k a => ⟨by
    rcases a with ⟨a, _⟩ | a
    · exact HF3.out k a
    · omega, fun x => x⟩) (fun k a => a.elim) (by omega)
  have HOP := Lib.hid hop
  have HB4 := Lib.hid hB4
  clear h4 c4 hB4 hop HCR HB3
  go_wp2_with fail
  refine HOP.out.mono ?_
  rintro e w5 ⟨v, rfl, c5, -, hv, -⟩
  rw [HO4.out.1] at hv ⊢
  obtain ⟨gl2, rfl, hld⟩ := hv rfl
  have hB5 : Below gd w w5 := HB4.out.trans (c5.below (by omega) (fun i hi a => by
    rcases a with ⟨a, _⟩ | a
    · have := HF3.out i a; omega
    · omega))
  have hz5 := hB5.size
  rw [HO4.out.2] at hld
  obtain ⟨FL, hlg, -, -, -⟩ := hld.log (by omega)
  have HLN := Lib.hid (logLen_any gl2 gd [bX] FL w5 hlg)
  have HAL := Lib.hid (logAll_any gl2 gd [bX] FL w5 hlg (by simp))
  have HB5 := Lib.hid hB5
  clear hv c5 hld hB5 hlg HOP HB4
  go_wp2_with fail
  refine HLN.out.mono ?_
  rintro e w6 ⟨rfl, rfl⟩
  go_wp2_with fail
  refine HAL.out.mono ?_
  rintro e w7 ⟨ao, cap, rfl, hst, hb7⟩
  obtain ⟨b, off, rfl, hc⟩ := hst 0 bX rfl
  have hc' : w7.cell? ⟨b, off, none⟩ = some (.string { data := #[120] }) := hc
  have HB7 : Hid (Below gd w w7) := HB5.out.trans (hb7.mono (by omega))
  clear hst hb7 hc HAL HLN
  go_wp2_with fail
  go_ret
  exact ⟨rfl, by rw [hgd]; exact HB7.out⟩
end Go.Proofs.Ytpnmhpkpkejdiaa
