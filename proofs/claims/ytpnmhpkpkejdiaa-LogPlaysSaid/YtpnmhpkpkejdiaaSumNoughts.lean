/- Noughts alone are no frame, however many; frames one behind the other are opened one by one: the law SumNoughts answers true at every input. No condition. -/
import Derived.Test.YtpnmhpkpkejdiaaSumT
import Derived.Test.YtpnmhpkpkejdiaaLift
import Derived.Test.YtpnmhpkpkejdiaaBytes
import Derived.Test.YtpnmhpkpkejdiaaStrs
namespace Go.Proofs.Ytpnmhpkpkejdiaa
open Go.ChangeShapes Go.WideShapes Go.ChangeAt Go.RowKit CrcPlain
open Go.ChangeMaps (open_string)

theorem noughts_sum : sumN [0, 0, 0, 0] = 1214729159 := by decide +kernel
theorem openL_noughts (m : Nat) : ∃ k, openL (List.replicate m 0) = ([], List.replicate m 0, k) ∧ k ≠ 0 := by
  by_cases h8 : m < 8
  · exact ⟨3, by unfold openL; rw [if_pos (by simpa using h8)], by omega⟩
  · refine ⟨5, ?_, by omega⟩
    have h4 : (List.replicate m (0 : UInt8)).take 4 = [0, 0, 0, 0] := by rw [List.take_replicate, show min 4 m = 4 by omega]; rfl
    have h44 : ((List.replicate m (0 : UInt8)).drop 4).take 4 = [0, 0, 0, 0] := by rw [List.drop_replicate, List.take_replicate, show min 4 (m - 4) = 4 by omega]; rfl
    have hn : numL [0, 0, 0, 0] = 0 := rfl
    unfold openL
    rw [if_neg (by simpa using h8), h4, hn, if_neg (by omega), if_neg (by omega), h44, hn, if_pos]
    simp [noughts_sum]

/-- frames one behind the other -/
def framesL (l : List ByteArray) : List UInt8 := (l.map (fun s => frameL s.data.toList)).flatten
theorem framesL_snoc (ss : List ByteArray) (j : Nat) (hj : j < ss.length) : framesL (ss.take (j + 1)) = framesL (ss.take j) ++ frameL (ss.getD j ByteArray.empty).data.toList := by
  have h1 : ss.take (j + 1) = ss.take j ++ [ss[j]] := by rw [List.take_add_one, List.getElem?_eq_getElem hj]; rfl
  rw [h1]; simp only [framesL, List.map_append, List.flatten_append, List.map_cons, List.map_nil, List.flatten_cons, List.flatten_nil, List.append_nil, List.getD, List.getElem?_eq_getElem hj, Option.getD_some]
theorem framesL_drop (ss : List ByteArray) (j : Nat) (hj : j < ss.length) : framesL (ss.drop j) = frameL (ss.getD j ByteArray.empty).data.toList ++ framesL (ss.drop (j + 1)) := by
  rw [List.drop_eq_getElem_cons hj]
  simp only [framesL, List.map_cons, List.flatten_cons, List.getD, List.getElem?_eq_getElem hj, Option.getD_some]

theorem Lib_data_append (a s : ByteArray) : (a ++ s).data.toList = a.data.toList ++ s.data.toList := by simp
theorem open_at (acc s : ByteArray) (r : List UInt8) (h1 : s.size ≤ 1048576) (h : acc.data.toList = frameL s.data.toList ++ r) (ha : acc.size ≤ 140737488351232) (w : World) :
    Calls Try.prog 20 #[.string acc] w fun e w' => e = .returned (.tuple #[.string s, .string ⟨r.toArray⟩, .int .i64 0]) ∧ Below w.heap.size w w' := by
  have h2 := open_any acc ha w
  rw [h, openL_frame _ _ h1] at h2
  rw [str_of s]
  exact h2

set_option maxRecDepth 100000 in
set_option maxHeartbeats 1600000 in
theorem sumNoughts_law (m : Nat) (ao : Option Addr) (b off n cap : Nat) (ss : List ByteArray) (w : World) (hao : 0 < n → ao = some ⟨b, off, none⟩) (hm : m ≤ 2000) (hn : n ≤ 40) (hl : ss.length = n) (hs : ∀ s ∈ ss, s.size ≤ 140737488351232) (hb : 0 < n → b < w.heap.size)
    (hc : ∀ j, j < n → w.cell? ⟨b, off + j, none⟩ = some (.string (ss.getD j ByteArray.empty))) :
    Calls Try.prog 6 #[.int .u16 (m : Int), .slice ao n cap] w fun e w' => e = .returned (.bool true) ∧ Below w.heap.size w w' := by
  have HAO := Lib.hid hao
  clear hao
  have HL := Lib.hid hl
  have HS := Lib.hid hs
  have HC := Lib.hid hc
  have HB := Lib.hid hb
  clear hl hs hc hb
  go_enter Try.func6, Try.ntmps6
  go_wp2_with fail
  refine (sumAwake w).mono ?_
  rintro e w1 ⟨rfl, hb1⟩
  have HB1 := Lib.hid hb1
  clear hb1
  obtain ⟨W2, hmk, hbw, hlt, hcells⟩ := noughtsOf w1 .u16 m (by omega)
  have hconv := stringOf W2 w1.heap.size m m (List.replicate m 0) (by simp) hcells
  obtain ⟨z, hz⟩ : ∃ z : List UInt8, z = List.replicate m 0 := ⟨_, rfl⟩
  obtain ⟨k, hopen, hk⟩ := openL_noughts m
  have hzl : z.length ≤ 2000 := by rw [hz]; simpa using hm
  rw [← hz] at hconv hopen
  have HOPEN := Lib.hid hopen
  have HBW := Lib.hid hbw
  have hk0 : ((k : Int) == 0) = false := by simp [hk]
  have z1 := HB1.out.size
  clear hz hcells hopen hbw hk
  go_wp2_with fail
  refine (open_raw ⟨z.toArray⟩ (by show z.length ≤ _; omega) _).mono ?_
  rintro e w3 ⟨rfl, hb3⟩
  rw [show (ByteArray.mk z.toArray).data.toList = z from rfl, HOPEN.out]
  have HB3 : Hid (Below w.heap.size w w3) := HB1.out.trans ((HBW.out.mono z1).trans (hb3.mono (by omega)))
  clear hb3 hmk hconv z1 hlt HBW HB1
  go_wp2_with fail
  go_loopw [8, 37] (fun t i wr => ∃ (j : Nat) (acc : ByteArray), j ≤ n ∧ i = .int .i64 j ∧ t = .string acc ∧ Hid (acc.data.toList = framesL (ss.take j)) ∧ acc.size ≤ 3008 ∧ Hid (∀ i, i < j → (ss.getD i ByteArray.empty).size ≤ 3000) ∧ Hid (Below w.heap.size w wr)) (fun _ i _ => n - (intOf i).toNat)
  case atStart => exact ⟨0, ByteArray.empty, by omega, rfl, rfl, rfl, by decide, fun i hi => by omega, HB3⟩
  case round =>
    obtain ⟨j, acc, hj, rfl, rfl, HA, ha, HZ, HBR⟩ := hrel
    by_cases hlt : j < n
    · obtain rfl := HAO.out (by omega)
      have hc : wr.cell? ⟨b, off + j, none⟩ = some (.string (ss.getD j ByteArray.empty)) := (HBR.out.cell (by exact HB.out (by omega))).trans (HC.out j hlt)
      have hj' : j < ss.length := by rw [HL.out]; exact hlt
      have hsz : (ss.getD j ByteArray.empty).size ≤ 140737488351232 := by
        rw [List.getD, List.getElem?_eq_getElem hj']
        exact HS.out _ (List.getElem_mem hj')
      have HF : Hid (framesL (ss.take (j + 1)) = framesL (ss.take j) ++ frameL (ss.getD j ByteArray.empty).data.toList) := framesL_snoc ss j hj'
      clear hj'
      have HSJ : Hid (∀ s, ss.getD j ByteArray.empty = s → s.size ≤ 3000 → ∀ i, i < j + 1 → (ss.getD i ByteArray.empty).size ≤ 3000) := by
        intro s h1 h2 i hi
        by_cases h : i < j
        · exact HZ.out i h
        · obtain rfl : i = j := by omega
          rw [h1]; exact h2
      generalize hsj : ss.getD j ByteArray.empty = s at *
      have HSE := Lib.hid hsj
      clear hsj
      by_cases hbig : 3000 < acc.size + s.size
      · go_wp2_with fail
        go_ret
        exact ⟨rfl, HBR.out⟩
      · go_wp2_with fail
        refine (frame_any s (by omega) wr).mono ?_
        rintro e w4 ⟨rfl, hb4⟩
        have HB4 : Hid (Below w.heap.size w w4) := HBR.out.trans (hb4.mono HBR.out.size)
        clear hb4
        obtain ⟨f, hf⟩ : ∃ f : ByteArray, f = ⟨(frameL s.data.toList).toArray⟩ := ⟨_, rfl⟩
        rw [← hf]
        have hfs : f.size ≤ s.size + 8 := by rw [hf]; show (frameL s.data.toList).length ≤ _; rw [frameL_length]; exact Nat.le_refl _
        have HFD : Hid (f.data.toList = frameL s.data.toList) := by show _ = _; rw [hf]
        clear hf
        go_wp2_with fail
        go_roundw
        case rel => exact ⟨j + 1, acc ++ f, by omega, by go_num, rfl, by show _ = _; rw [HF.out, Lib_data_append, HA.out, HFD.out], by rw [ByteArray.size_append]; omega, HSJ.out s rfl (by omega), HB4⟩
        case measure => simp [intOf]; omega
    · have HJ : Hid (j = n) := by show _ = _; omega
      have HD : Hid (acc.data.toList = framesL (ss.drop 0)) := by
        show _ = _
        rw [HA.out, HJ.out, ← HL.out, List.take_length]; rfl
      have HZ2 : Hid (∀ i, i < n → (ss.getD i ByteArray.empty).size ≤ 3000) := by rw [← HJ.out]; exact HZ.out
      clear HZ HA
      go_wp2_with fail
      go_loopw [8, 54] (fun t i wq => ∃ (j : Nat) (acc : ByteArray), j ≤ n ∧ i = .int .i64 j ∧ t = .string acc ∧ Hid (acc.data.toList = framesL (ss.drop j)) ∧ acc.size ≤ 3008 ∧ Hid (Below w.heap.size w wq)) (fun _ i _ => n - (intOf i).toNat)
      case atStart => exact ⟨0, acc, by omega, rfl, rfl, HD, ha, HBR⟩
      case round =>
        obtain ⟨j2, acc2, hj2, rfl, rfl, HA2, ha2, HBQ⟩ := hrel
        by_cases hlt2 : j2 < n
        · obtain rfl := HAO.out (by omega)
          have hc : wr.cell? ⟨b, off + j2, none⟩ = some (.string (ss.getD j2 ByteArray.empty)) := (HBQ.out.cell (by exact HB.out (by omega))).trans (HC.out j2 hlt2)
          have hj' : j2 < ss.length := by rw [HL.out]; exact hlt2
          have hsz := HZ2.out j2 hlt2
          have HF : Hid (acc2.data.toList = frameL (ss.getD j2 ByteArray.empty).data.toList ++ framesL (ss.drop (j2 + 1))) := by
            show _ = _
            rw [HA2.out]; exact framesL_drop ss j2 hj'
          clear hj'
          generalize ss.getD j2 ByteArray.empty = s at *
          obtain ⟨r, hr⟩ : ∃ r : List UInt8, r = framesL (ss.drop (j2 + 1)) := ⟨_, rfl⟩
          rw [← hr] at HF
          have hal : acc2.size = s.size + 8 + r.length := by
            show acc2.data.toList.length = _
            rw [HF.out, List.length_append, frameL_length]; rfl
          have hlen : ((r.length : Int) != (acc2.size : Int) - 8 - s.size) = false := by rw [bne_eq_false_iff_eq]; omega
          have heq : (s.toList == s.toList) = true := by simp
          have hrl : r.length ≤ 3008 := by omega
          have HR := Lib.hid hr
          clear hr hal
          go_wp2_with fail
          refine (open_at acc2 s r (by omega) HF.out (by omega) wr).mono ?_
          rintro e w5 ⟨rfl, hb5⟩
          have HB5 : Hid (Below w.heap.size w w5) := HBQ.out.trans (hb5.mono HBQ.out.size)
          clear hb5
          go_wp2_with fail
          go_roundw
          case rel => exact ⟨j2 + 1, ⟨r.toArray⟩, by omega, by go_num, rfl, by show _ = _; rw [← HR.out], hrl, HB5⟩
          case measure => simp [intOf]; omega
        · have HAE : Hid (acc2.data.toList = []) := by
            show _ = _
            rw [HA2.out, show j2 = ss.length by rw [HL.out]; omega, List.drop_length]; rfl
          have hem : acc2.toList = [] := by rw [ByteArray.toList_eq]; exact HAE.out
          go_wp2_with fail
          go_ret
          exact ⟨rfl, HBQ.out⟩

/-- what the law lets go -/
theorem sumNoughts_let (m : Int) (ao : Option Addr) (n cap : Nat) (w : World) (hm1 : 0 ≤ m) (hm2 : m ≤ 65535) (hn : n ≤ maxLen) (hlet : 2000 < m ∨ 40 < n) :
    Calls Try.prog 6 #[.int .u16 m, .slice ao n cap] w fun e w' => e = .returned (.bool true) ∧ Below w.heap.size w w' := by
  unfold maxLen at hn
  by_cases c1 : 2000 < m
  · clear hlet
    go_enter Try.func6, Try.ntmps6
    go_wp2_with fail
    refine (sumAwake w).mono ?_
    rintro e w1 ⟨rfl, hb1⟩
    have HB1 := Lib.hid hb1
    clear hb1
    go_wp2_with fail
    go_ret
    exact ⟨rfl, HB1.out⟩
  · have c2 : 40 < n := by omega
    clear hlet
    go_enter Try.func6, Try.ntmps6
    go_wp2_with fail
    refine (sumAwake w).mono ?_
    rintro e w1 ⟨rfl, hb1⟩
    have HB1 := Lib.hid hb1
    clear hb1
    go_wp2_with fail
    go_ret
    exact ⟨rfl, HB1.out⟩

theorem under_u16 : Try.prog.underlying 36 = some (.int .u16) := by kernel_rfl
theorem bounds_u16 {n : Int} (h : (Lit.int .u16 n).wf = true) : 0 ≤ n ∧ n ≤ 65535 := by
  simpa [Lit.wf, IntKind.min, IntKind.max, IntKind.signed, IntKind.bits] using h

set_option maxRecDepth 100000 in
theorem sumNoughts_lawful : Lawful 6 Try.f6 := by
  intro H enc W base args ds p hval hA hlt hsz
  rw [Try.params6] at hA hval hsz
  obtain ⟨v0, v1, d0, d1, p0, p1, rfl, rfl, rfl, h0, h1⟩ := trodAll_two hA
  obtain ⟨m, rfl, rfl, rfl, wm⟩ := open_int under_u16 (hval 0 36 v0 rfl rfl) h0
  obtain ⟨m1, m2⟩ := bounds_u16 wm
  obtain ⟨ss, b, off, ao, n, cap, rfl, hn, hl, hs, hao, hb, hc⟩ := strsArg 1 hval hsz hlt h1 rfl rfl rfl (fun x hx => List.mem_append_right _ hx)
  by_cases hlet : 2000 < m ∨ 40 < n
  · exact sumNoughts_let m ao n cap W m1 m2 hn hlet
  · obtain ⟨m, rfl⟩ := Int.eq_ofNat_of_zero_le m1
    exact sumNoughts_law m ao b off n cap ss W hao (by omega) (by omega) hl hs hb hc

theorem sumNoughts_holds : Rows.SumNoughtsSaid :=
  OpenClaim.holds_of_wide 6 Try.f6 rfl rfl rfl rfl rfl rfl rfl ⟨rfl, rfl, rfl, rfl, rfl⟩ rfl rfl rfl rfl rfl (by kernel_rfl) Try.func6 (by kernel_rfl)
    (of_decide_eq_true (by kernel_rfl)) (by unfold Func.isWrapper; rw [if_neg (of_decide_eq_false (by kernel_rfl))]; exact ⟨rfl, rfl⟩)
    (fun os started H enc _ => law_lift (s := Rows.sumNoughtsSpec) Try.func6 (by kernel_rfl) rfl rfl rfl (by rw [Try.params6]; intro t ht; simp at ht; rcases ht with rfl | rfl <;> exact ⟨by kernel_rfl, of_decide_eq_true (by kernel_rfl)⟩)
      (by rw [Try.params6]; intro H ds hds; match ds, hds with | [d1, d2], _ => exact ⟨rfl, rfl, rfl⟩) sumNoughts_lawful os started H enc
      (ChangeSpec.witness6 (enc := enc) (C := Try.checked) false ⟨#[], #[.int .u16 0, .slice none 0 0], []⟩ 8 (by kernel_rfl) (by kernel_rfl) (by kernel_rfl) (by kernel_rfl)))
end Go.Proofs.Ytpnmhpkpkejdiaa
