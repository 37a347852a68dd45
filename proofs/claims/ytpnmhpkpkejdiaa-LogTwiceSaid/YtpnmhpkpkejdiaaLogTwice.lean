/- Torn anywhere in its last record a log has all others; opened twice it is as once: the law LogTwice answers true at every input. No condition. -/
import Derived.Test.YtpnmhpkpkejdiaaLogG
import Derived.Test.YtpnmhpkpkejdiaaLift
import Derived.Test.YtpnmhpkpkejdiaaStrs
namespace Go.Proofs.Ytpnmhpkpkejdiaa
open Go.ChangeShapes Go.WideShapes Go.ChangeAt Go.RowKit
set_option linter.unusedSimpArgs false

theorem bytesL_small (ls : List ByteArray) (h : ∀ x ∈ ls, x.size ≤ 300) : (bytesL ls).length ≤ ls.length * 308 := by
  induction ls with
  | nil => simp [bytesL, framesOf]
  | cons x ls ih =>
    have h1 := ih (fun y hy => h y (List.mem_cons_of_mem _ hy))
    have h2 := h x (List.mem_cons_self ..)
    have e : bytesL (x :: ls) = frameL x.data.toList ++ bytesL ls := rfl
    rw [e, List.length_append, frameL_length, all_size, List.length_cons]
    omega
theorem torn_ok (c : Int) (ls : List ByteArray) (x : ByteArray) (h1 : ((bytesL ls).length : Int) + 8 + (x.size : Nat) ≤ c) (h2 : c ≤ 16777216) : DOk 1 (stTorn c ls x) := by
  refine ⟨by show (0 : Int) ≤ c; omega, h2, ?_, Nat.le_refl _, by show (-1 : Int) ≤ -1; omega, by show (-1 : Int) ≤ _; omega⟩
  have e : (stTorn c ls x).all = bytesL ls ++ frameL x.data.toList := by
    show (txt (bytesL ls)).data.toList ++ ((txt (frameL x.data.toList)).data.toList ++ []) = _
    rw [List.append_nil, txt_data, txt_data]
  rw [e, List.length_append, frameL_length, all_size]
  show _ ≤ c
  omega

set_option maxRecDepth 100000 in
set_option maxHeartbeats 1600000 in
theorem logTwice_let (so : Option Addr) (n scap : Nat) (c : Int) (w : World) (hm : n ≤ maxLen) (hlet : 40 < n ∨ n = 0) :
    Calls Try.prog 13 #[.slice so n scap, .int .u16 c] w fun e w' => e = .returned (.bool true) ∧ Below w.heap.size w w' := by
  unfold maxLen at hm
  by_cases h1 : 40 < n
  · clear hlet
    go_enter Try.func13, Try.ntmps13
    go_wp2_with fail
    refine (logAwake w).mono ?_
    rintro e w1 ⟨rfl, hb1⟩
    have HB1 := Lib.hid hb1
    clear hb1
    go_wp2_with fail
    go_ret
    exact ⟨rfl, HB1.out⟩
  · obtain rfl : n = 0 := hlet.resolve_left h1
    clear hlet h1
    go_enter Try.func13, Try.ntmps13
    go_wp2_with fail
    refine (logAwake w).mono ?_
    rintro e w1 ⟨rfl, hb1⟩
    have HB1 := Lib.hid hb1
    clear hb1
    go_wp2_with fail
    go_ret
    exact ⟨rfl, HB1.out⟩

theorem run_take1L {P : Program} {size : Nat} (w : World) (t : TypeId) (ht : P.underlying t = some (.slice (P.elem t))) (hs : (P.info? (P.elem t)).map (·.size) = some size) {ao : Option Addr} {n cap k : Nat} (hk : k ≤ cap) :
    Sem.run P (Instr.slice t (.slice ao n cap) none (some (.int .i64 (k : Int))) none) w = .ok (.slice ao k cap) w := by
  rw [run_slice_h (P := P) w t ao n cap ht .i64 k (by omega) (by omega)]
  obtain ⟨i, hi, hsz⟩ := Option.map_eq_some_iff.1 hs
  have e : (fun x : Addr => x.add 0) = id := by funext x; simp [Addr.add]
  simp [sizeOf, typeInfo, hi, hsz, sliced, Result.andThen, e]
/-- where the loop stands -/
def TwInv (l : List ByteArray) (n k : Nat) (s : DSt) (rs : List ByteArray) : Prop :=
  (k < n → s = stClean 1048576 (l.take k) ∧ rs = l.take k) ∧ (k = n → ∀ x, l[n - 1]? = some x → s = stTorn 1048576 (l.take (n - 1)) x)

set_option maxRecDepth 100000 in
set_option maxHeartbeats 12800000 in
theorem logTwice_law (so : Option Addr) (sb soff n scap : Nat) (l : List ByteArray) (cn : Nat) (hcn : cn ≤ 65535) (w : World) (hl : l.length = n) (hn : n ≤ 40) (hn0 : 0 < n) (hscap : n ≤ scap) (hscm : scap ≤ maxLen) (hao : 0 < n → so = some ⟨sb, soff, none⟩) (hb : 0 < n → sb < w.heap.size)
    (hx : ∀ x ∈ l, x.size ≤ 140737488351232) (hc : ∀ i x, l[i]? = some x → w.cell? ⟨sb, soff + i, none⟩ = some (.string x)) :
    Calls Try.prog 13 #[.slice so n scap, .int .u16 (cn : Nat)] w fun e w' => e = .returned (.bool true) ∧ Below w.heap.size w w' := by
  obtain rfl := hao hn0
  have hst : StrsAt w (some ⟨sb, soff, none⟩) l := fun i x hi => ⟨sb, soff, rfl, hc i x hi⟩
  unfold maxLen at hscm
  have HST := Lib.hid hst
  have HL := Lib.hid hl
  have HB := Lib.hid hb
  have HX := Lib.hid hx
  have HC := Lib.hid hc
  clear hl hb hx hc hst hao
  have d40 : decide ((40 : Int) < (n : Int)) = false := by rw [decide_eq_false_iff_not]; omega
  have dn0 : ((n : Int) == 0) = false := by rw [beq_eq_false_iff_ne]; omega
  go_enter Try.func13, Try.ntmps13
  go_wp2_with fail
  refine (logAwake w).mono ?_
  rintro e w0 ⟨rfl, hb0⟩
  have HB0 := Lib.hid hb0
  clear hb0
  go_wp2_with fail
  refine (new_any 1048576 w0).mono ?_
  rintro e w1 ⟨rfl, h1, b1⟩
  obtain ⟨gd, hgd⟩ : ∃ gd, w0.heap.size = gd := ⟨_, rfl⟩
  try rw [hgd]
  rw [hgd] at h1 b1
  rw [dst0_clean 1048576 (by omega)] at h1
  have hz0 : w.heap.size ≤ gd := by have := HB0.out.size; omega
  have hz1 : gd ≤ w1.heap.size := by have := b1.size; omega
  have hoc := open_clean 1048576 [] (by simp)
  have hop := open_log gd 0 gd (fun _ => False) (fun k => gd ≤ k) (stClean 1048576 []) w1 h1 (clean_ok _ _ (by simp [bytesL, framesOf]) (by omega)) (by omega) (by rw [clean_all]; simp [bytesL, framesOf]) (fun k a => ⟨a, fun x => x⟩) (fun k a => a.elim) hz1
  have HOP := Lib.hid hop
  have HOC := Lib.hid hoc
  have HB1 : Hid (Below w.heap.size w w1) := HB0.out.trans (b1.mono hz0)
  clear h1 b1 hgd hop hoc HB0
  go_wp2_with fail
  refine HOP.out.mono ?_
  rintro e w2 ⟨v, he, c2, -, hv, -⟩
  rw [HOC.out.1] at he hv
  obtain ⟨gl, rfl, hld⟩ := hv rfl
  rw [HOC.out.2] at hld
  subst he
  have HLD : Hid (LD w2 gd (fun _ => False) gd gl (stClean 1048576 (l.take 0)) (l.take 0)) := hld
  have HB2 : Hid (Below w.heap.size w w2) := HB1.out.trans (c2.below (by omega) (fun i hi a => by omega))
  have hz2 : gd ≤ w2.heap.size := by have := c2.size; omega
  clear hv c2 hld HOP HOC HB1
  go_wp2_with fail
  go_loopw [36] (fun i wr => ∃ (k : Nat) (s : DSt) (rs : List ByteArray), k ≤ n ∧ i = .int .i64 k ∧ Hid (TwInv l n k s rs ∧ ∀ x ∈ l.take k, x.size ≤ 300) ∧ Hid (LD wr gd (fun _ => False) gd gl s rs) ∧ Hid (Below w.heap.size w wr ∧ gd ≤ wr.heap.size)) (fun i _ => n - (intOf i).toNat)
  case atStart => exact ⟨0, _, _, by omega, rfl, ⟨⟨fun _ => ⟨rfl, rfl⟩, fun a => absurd a (by omega)⟩, by simp⟩, HLD.out, HB2.out, hz2⟩
  case round =>
    obtain ⟨k, s, rs, hk, rfl, HI, HD, HW⟩ := hrel
    clear HLD HB2 hz2
    obtain ⟨wq, hwq⟩ : ∃ wq : World, wq = wr := ⟨_, rfl⟩
    rw [← hwq] at HD HW ⊢
    clear hwq
    have hzq := HW.out.2
    by_cases hlt : k < n
    · obtain ⟨rfl, rfl⟩ := HI.out.1.1 hlt
      obtain ⟨x, hx⟩ : ∃ x, l[k]? = some x := ⟨_, List.getElem?_eq_getElem (by rw [HL.out]; exact hlt)⟩
      have q0 : wq.cell? ⟨sb, soff + k, none⟩ = some (.string x) := (HW.out.1.cell (by exact HB.out hn0)).trans (HC.out k x hx)
      have hxs := HX.out x (List.mem_of_getElem? hx)
      have HXK := Lib.hid hx
      clear hx
      by_cases h300 : 300 < x.size
      · go_wp2_with fail
        go_ret
        exact ⟨rfl, HW.out.1⟩
      · have hsm := bytesL_small (l.take k) HI.out.2
        rw [List.length_take, HL.out] at hsm
        have hbl : (bytesL (l.take k)).length ≤ 12320 := by omega
        have HSM : Hid (∀ y ∈ l.take (k + 1), y.size ≤ 300) := by
          intro y hy
          rw [List.take_add_one, HXK.out] at hy
          rcases List.mem_append.1 hy with hy | hy
          · exact HI.out.2 y hy
          · have : y = x := by simpa using hy
            rw [this]; omega
        have hlk : (l.take k).length ≤ 40 := by rw [List.length_take]; omega
        have e1 : IntKind.i64.wrap ((n : Int) - 1) = (n : Int) - 1 := IntWalk.i64_in _ (by omega)
        by_cases hlast : k + 1 = n
        · have e2 : ((k : Int) == (n : Int) - 1) = true := by rw [beq_iff_eq]; omega
          have e3 : decide ((k : Int) < (n : Int) - 1) = false := by rw [decide_eq_false_iff_not]; omega
          obtain ⟨F, hd, -, hF, -, ht⟩ := HD.out.disk hzq
          have hfu := fuse_any gd (stClean 1048576 (l.take k)) F wq 1 hd
          have HFU : Hid (Calls Try.prog 32 #[.pointer (some ⟨gd, 0, none⟩), .int .i64 1] wq fun e w' => e = .returned (.tuple #[]) ∧ LD w' gd (fun _ => False) gd gl ((stClean 1048576 (l.take k)).fuse 1) (l.take k) ∧ Below w.heap.size w w' ∧ gd ≤ w'.heap.size) := hfu.mono fun e w' ⟨a, b, cc⟩ => ⟨a, ht w' _ (b.mono fun q _ hq => by
            by_cases hqq : q < wq.heap.size
            · exact .inl ⟨hq, hqq⟩
            · exact .inr (by omega)) cc, HW.out.1.trans (cc.below (by omega) (fun i hi a => by have := hF i a; omega)), Nat.le_trans hzq cc.size⟩
          have hat := app_torn 1048576 (l.take k) x (by omega)
          have HAT := Lib.hid hat
          have HFO : Hid (DOk 0 ((stClean 1048576 (l.take k)).fuse 1)) := fuse_ok (clean_ok _ _ (by omega) (by omega)) 1 (by omega)
          have HKN : Hid (TwInv l n (k + 1) (stTorn 1048576 (l.take k) x) (l.take k)) := ⟨fun a => absurd a (by omega), fun _ y hy => by
            have ek : n - 1 = k := by omega
            rw [ek] at hy ⊢
            rw [HXK.out] at hy
            rw [← Option.some.inj hy]⟩
          clear hd hF ht hfu hat hsm
          go_wp2_with fail
          refine HFU.out.mono ?_
          rintro e w3 ⟨rfl, h3, b3, z3⟩
          have hap := append_log gd 0 gd gl (fun _ => False) _ (l.take k) w3 x h3 HFO.out (by omega) (by omega) (by omega) z3
          rw [HAT.out] at hap
          have HAP := Lib.hid hap
          have HB3 := Lib.hid b3
          clear h3 b3 hap HFU HD HW
          go_wp2_with fail
          refine HAP.out.mono ?_
          rintro e w4 ⟨rfl, h4, c4⟩
          have HLD4 := Lib.hid h4
          have HB4 : Hid (Below w.heap.size w w4 ∧ gd ≤ w4.heap.size) := ⟨HB3.out.trans (c4.below (by omega) (fun i hi a => by omega)), Nat.le_trans z3 c4.size⟩
          clear h4 c4 HAP HB3
          go_wp2_with fail
          go_roundw
          case rel => exact ⟨k + 1, _, _, by omega, by go_num, ⟨HKN.out, HSM.out⟩, HLD4.out, HB4.out⟩
          case measure => simp [intOf]; omega
        · have e2 : ((k : Int) == (n : Int) - 1) = false := by rw [beq_eq_false_iff_ne]; omega
          have e3 : decide ((k : Int) < (n : Int) - 1) = true := by rw [decide_eq_true_iff]; omega
          have hac := app_clean 1048576 (l.take k) x (by omega)
          have hap := append_log gd 0 gd gl (fun _ => False) _ (l.take k) wq x HD.out (clean_ok _ _ (by omega) (by omega)) (by omega) (by omega) (by omega) hzq
          rw [hac] at hap
          have HAP := Lib.hid hap
          have HKN : Hid (TwInv l n (k + 1) (stClean 1048576 (l.take k ++ [x])) (l.take k ++ [x])) := ⟨fun _ => by
            have e : l.take (k + 1) = l.take k ++ [x] := by rw [List.take_add_one, HXK.out]; rfl
            rw [e]; exact ⟨rfl, rfl⟩, fun a => absurd a hlast⟩
          clear hac hap hsm HD
          go_wp2_with fail
          refine HAP.out.mono ?_
          rintro e w4 ⟨rfl, h4, c4⟩
          have HLD4 := Lib.hid h4
          have HB4 : Hid (Below w.heap.size w w4 ∧ gd ≤ w4.heap.size) := ⟨HW.out.1.trans (c4.below (by omega) (fun i hi a => by omega)), Nat.le_trans hzq c4.size⟩
          clear h4 c4 HAP HW
          go_wp2_with fail
          go_roundw
          case rel => exact ⟨k + 1, _, _, by omega, by go_num, ⟨HKN.out, HSM.out⟩, HLD4.out, HB4.out⟩
          case measure => simp [intOf]; omega
    · obtain rfl : k = n := by omega
      obtain ⟨p, hp⟩ : ∃ p, k - 1 = p := ⟨_, rfl⟩
      have hpk : p + 1 = k := by omega
      obtain ⟨x, hx⟩ : ∃ x, l[p]? = some x := ⟨_, List.getElem?_eq_getElem (by rw [HL.out]; omega)⟩
      have hs := HI.out.1.2 rfl x (by rw [hp]; exact hx)
      rw [hp] at hs
      subst hs
      have hlk : l.take k = l := by rw [← HL.out]; exact List.take_length
      have hxm : x ∈ l.take k := by rw [hlk]; exact List.mem_of_getElem? hx
      have hx300 := HI.out.2 x hxm
      have q0 : wq.cell? ⟨sb, soff + p, none⟩ = some (.string x) := (HW.out.1.cell (by exact HB.out hn0)).trans (HC.out p x hx)
      have hlp : ∀ y ∈ l.take p, y.size ≤ 300 := fun y hy => HI.out.2 y (by
        have : l.take p = (l.take k).take p := by rw [List.take_take, Nat.min_eq_left (by omega)]
        rw [this] at hy
        exact List.mem_of_mem_take hy)
      have hbl := bytesL_small (l.take p) hlp
      rw [List.length_take, HL.out] at hbl
      have hlx : l.take p ++ [x] = l := by
        have : l.take (p + 1) = l.take p ++ [x] := by rw [List.take_add_one, hx]; rfl
        rw [← this, hpk, hlk]
      obtain ⟨sz, hsz⟩ : ∃ sz, 8 + x.size = sz := ⟨_, rfl⟩
      obtain ⟨m, hm⟩ : ∃ m, cn % (sz + 1) = m := ⟨_, rfl⟩
      have hmb : m ≤ sz := by rw [← hm]; have := Nat.mod_lt cn (show sz + 1 > 0 by omega); omega
      have htop := torn_open 1048576 (l.take p) x m (fun y hy => by have := hlp y hy; omega) (by omega)
      have htok := torn_ok 1048576 (l.take p) x (by omega) (by omega)
      have HKC : Hid (DOk 1 ((stTorn 1048576 (l.take p) x).crash [true] (m : Nat))) := (crash_ok htok _ _).mono (by omega)
      have HLC : Hid (((stTorn 1048576 (l.take p) x).crash [true] (m : Nat)).all.length ≤ 1000000) := by
        have h1 := crash_len (stTorn 1048576 (l.take p) x) [true] (m : Nat)
        have h2 : (stTorn 1048576 (l.take p) x).all.length = (bytesL (l.take p)).length + (x.size + 8) := by
          have e : (stTorn 1048576 (l.take p) x).all = bytesL (l.take p) ++ frameL x.data.toList := by
            show (txt (bytesL (l.take p))).data.toList ++ ((txt (frameL x.data.toList)).data.toList ++ []) = _
            rw [List.append_nil, txt_data, txt_data]
          rw [e, List.length_append, frameL_length, all_size]
        show _ ≤ 1000000
        omega
      have i1 : IntKind.i64.wrap ((k : Int) - 1) = (p : Int) := by rw [IntWalk.i64_in _ (by omega)]; omega
      have i2 : (k : Int) - 1 = (p : Int) := by omega
      have i3 : IntKind.i64.wrap ((8 : Int) + (x.size : Int)) = (sz : Int) := by rw [IntWalk.i64_in _ (by omega)]; omega
      have i4 : (8 : Int) + (x.size : Int) = (sz : Int) := by omega
      obtain ⟨z, hzz⟩ : ∃ z, sz + 1 = z := ⟨_, rfl⟩
      have i5 : (sz : Int) + 1 = (z : Int) := by omega
      rw [hzz] at hm
      have i6 : (cn : Int) % (z : Int) = (m : Int) := by rw [← hm]; exact (Int.natCast_emod cn z).symm
      have i7 : (cn : Int).tmod (z : Int) = (m : Int) := by rw [Int.tmod_eq_emod_of_nonneg (by omega)]; exact i6
      have hz1' : 0 < z := by omega
      obtain ⟨wA, hwA⟩ : ∃ wA, wq.alloc (.cells #[.bool true] 4) = wA := ⟨_, rfl⟩
      have hbA : Below wq.heap.size wq wA := by rw [← hwA]; exact (Below.refl _ _).alloc (Nat.le_refl _) _
      have hK : wA.heap[wq.heap.size]? = some (.cells #[.bool true] 4) := by rw [← hwA]; exact heap_alloc_new wq _
      have hzA := hbA.size
      obtain ⟨F, hd, -, hF, -, -⟩ := (HD.out.below hbA).disk (by omega)
      have hcr := crash_any gd 1 _ F wA [true] (some ⟨wq.heap.size, 0, none⟩) 1 (m : Nat) hd htok (by omega) (fun i b hi => ⟨wq.heap.size, 0, rfl, by
        have hi1 := (List.getElem?_eq_some_iff.1 hi).1
        simp at hi1
        subst hi1
        simp at hi
        subst hi
        exact cell_at hK rfl⟩) (by simp)
      have HCR := Lib.hid hcr
      have HF := Lib.hid hF
      have HBA : Hid (Below w.heap.size w wA) := HW.out.1.trans (hbA.mono (by omega))
      have hrun : ∀ w : World, Sem.run Try.prog (Instr.slice 22 (.slice (some ⟨sb, soff, none⟩) k scap) none (some (.int .i64 (p : Int))) none) w = .ok (.slice (some ⟨sb, soff, none⟩) p scap) w := fun w => run_take1L w 22 under_strl (size := 1) (by kernel_rfl) (by omega)
      rw [hsz] at htop
      have HHM : Hid (m = m) := rfl
      by_cases hmz : m < sz
      · rw [if_pos hmz] at htop
        obtain ⟨rr, hrr⟩ : ∃ rr, l.take p = rr := ⟨_, rfl⟩
        obtain ⟨rn, hrn⟩ : ∃ rn, p = rn := ⟨_, rfl⟩
        have HRN : Hid (rr.length = rn) := by show rr.length = rn; rw [← hrr, List.length_take, HL.out]; omega
        have HWANT : Hid (StrsAt w (some ⟨sb, soff, none⟩) rr) := fun i y hi => by
          rw [← hrr, List.getElem?_take] at hi
          split at hi
          · exact HST.out i y hi
          · cases hi
        have HKR : Hid (DOk 1 (stClean 1048576 rr)) := clean_ok _ _ (by rw [← hrr]; omega) (by omega)
        have HLR : Hid ((stClean 1048576 rr).all.length ≤ 1000000) := by show _ ≤ 1000000; rw [clean_all, ← hrr]; omega
        have hopn := open_clean 1048576 rr (fun y hy => by rw [← hrr] at hy; have := hlp y hy; omega)
        have HOR := Lib.hid hopn
        have htop' : openD ((stTorn 1048576 (l.take p) x).crash [true] (m : Nat)) = (0, stClean 1048576 rr) ∧ recsOf ((stTorn 1048576 (l.take p) x).crash [true] (m : Nat)).bytes = rr := by rw [← hrr]; exact htop
        have HTO := Lib.hid htop'
        have hmzi : decide ((m : Int) < (sz : Int)) = true := by rw [decide_eq_true_iff]; omega
        subst hrn
        clear hrr hcr hF hd hbA hK htok hbl hlp hlk hlx hx hxm hm hsz hzz HI HD HW htop' HHM hp hpk
        clear hopn
        go_wp2_with fail
        try rw [hwA]
        refine HCR.out.mono ?_
        rintro e w3 ⟨rfl, h3, c3⟩
        have hz3 := c3.size
        have HB3 : Hid (Below w.heap.size w w3) := HBA.out.trans (c3.below (by omega) (fun i hi a => by have := HF.out i a; omega))
        have hop := open_log gd 1 gd (fun _ => False) _ _ w3 h3 HKC.out (by omega) HLC.out (fun q a => ⟨by
          rcases a with ⟨a, _⟩ | a
          · exact HF.out q a
          · omega, fun x => x⟩) (fun q a => a.elim) (by omega)
        have HOP := Lib.hid hop
        clear h3 c3 hop HCR hwA
        go_wp2_with fail
        refine HOP.out.mono ?_
        rintro e w4 ⟨v, he, c4, -, hv, -⟩
        rw [HTO.out.1] at he hv
        obtain ⟨g1, rfl, hld⟩ := hv rfl
        rw [HTO.out.2] at hld
        subst he
        have hz4 := c4.size
        have HB4 : Hid (Below w.heap.size w w4) := HB3.out.trans (c4.below (by omega) (fun i hi a => by
          rcases a with ⟨a, _⟩ | a
          · have := HF.out i a; omega
          · omega))
        obtain ⟨F4, hd4, -, hF4, -, ht4⟩ := hld.disk (by omega)
        have hop := open_log gd 1 gd (fun _ => False) F4 _ w4 hd4 HKR.out (by omega) HLR.out (fun q a => ⟨hF4 q a, fun x => x⟩) (fun q a => a.elim) (by omega)
        have HOP2 := Lib.hid hop
        have HT4 := Lib.hid ht4
        have HF4 := Lib.hid hF4
        clear hv c4 hld hd4 hF4 ht4 hop HOP HB3
        go_wp2_with fail
        refine HOP2.out.mono ?_
        rintro e w5 ⟨v, he, c5, hd5, hv, -⟩
        rw [HOR.out.1] at he hv hd5
        obtain ⟨g2, rfl, hld2⟩ := hv rfl
        rw [HOR.out.2] at hld2
        subst he
        have hz5 := c5.size
        have HB5 : Hid (Below w.heap.size w w5) := HB4.out.trans (c5.below (by omega) (fun i hi a => by have := HF4.out i a; omega))
        have HL1 := Lib.hid (HT4.out w5 _ hd5 c5)
        have HL2 := Lib.hid hld2
        obtain ⟨FL1, hlg1, -, -, -⟩ := HL1.out.log (by omega)
        have hall := logAll_any g1 gd rr FL1 w5 hlg1 (by rw [HRN.out]; omega)
        rw [HRN.out] at hall
        have HAL := Lib.hid hall
        clear hv c5 hd5 hld2 hlg1 hall HOP2 HT4 HB4 HL1
        go_wp2_with fail
        refine HAL.out.mono ?_
        rintro e w6 ⟨ao6, cp6, rfl, hst6, hb6⟩
        have hz6 := hb6.size
        have HB6 : Hid (Below w.heap.size w w6) := HB5.out.trans (hb6.mono (by omega))
        have hsm := same_any rr rr p p ao6 _ cp6 scap w6 hst6 (HWANT.out.below HB6.out) HRN.out HRN.out (by omega) (by omega) true (by simp)
        have HSM := Lib.hid hsm
        have HL6 := Lib.hid (HL2.out.below hb6)
        clear hst6 hb6 hsm HAL HL2 HB5
        go_wp2_with fail
        refine HSM.out.mono ?_
        rintro e w7 ⟨rfl, hb7⟩
        have hz7 := hb7.size
        have HB7 : Hid (Below w.heap.size w w7) := HB6.out.trans (hb7.mono (by omega))
        have HL7 := Lib.hid (HL6.out.below hb7)
        obtain ⟨FL2, hlg2, -, -, -⟩ := HL7.out.log (by omega)
        have hall := logAll_any g2 gd rr FL2 w7 hlg2 (by rw [HRN.out]; omega)
        rw [HRN.out] at hall
        have HAL := Lib.hid hall
        clear hb7 hlg2 hall HSM HL6 HB6
        go_wp2_with fail
        refine HAL.out.mono ?_
        rintro e w8 ⟨ao8, cp8, rfl, hst8, hb8⟩
        have hz8 := hb8.size
        have HB8 : Hid (Below w.heap.size w w8) := HB7.out.trans (hb8.mono (by omega))
        have hsm := same_any rr rr p p ao8 _ cp8 scap w8 hst8 (HWANT.out.below HB8.out) HRN.out HRN.out (by omega) (by omega) true (by simp)
        have HSM := Lib.hid hsm
        have HL8 := Lib.hid (HL7.out.below hb8)
        clear hst8 hb8 hsm HAL HL7 HB7
        go_wp2_with fail
        refine HSM.out.mono ?_
        rintro e w9 ⟨rfl, hb9⟩
        have hz9 := hb9.size
        have HB9 : Hid (Below w.heap.size w w9) := HB8.out.trans (hb9.mono (by omega))
        have HL9 := Lib.hid (HL8.out.below hb9)
        obtain ⟨F9, hd9, -, -, -, -⟩ := HL9.out.disk (by omega)
        have hla := lasts_any gd (stClean 1048576 rr) F9 w9 hd9
        have hle := len_any gd (stClean 1048576 rr) F9 w9 hd9 (by have := HLR.out; omega) (by show 0 ≤ _; omega)
        have hbe : (stClean 1048576 rr).lasts.size = (stClean 1048576 rr).all.length := by rw [clean_all]; exact txt_size _
        rw [hbe] at hla
        generalize (stClean 1048576 rr).all.length = q9 at *
        have HLA := Lib.hid hla
        have HLE := Lib.hid hle
        clear hb9 hd9 hla hle hbe HSM HL8 HB8 HL9
        go_wp2_with fail
        refine HLA.out.mono ?_
        rintro e w9' ⟨rfl, rfl⟩
        go_wp2_with fail
        refine HLE.out.mono ?_
        rintro e w10 ⟨rfl, hb10⟩
        have HB10 : Hid (Below w.heap.size w w10) := HB9.out.trans (hb10.mono (by omega))
        clear hb10 HLA HLE HB9
        go_wp2_with fail
        go_ret
        exact ⟨rfl, HB10.out⟩
      · rw [if_neg hmz] at htop
        rw [hlx] at htop
        obtain ⟨rr, hrr⟩ : ∃ rr, l = rr := ⟨_, rfl⟩
        obtain ⟨rn, hrn⟩ : ∃ rn, k = rn := ⟨_, rfl⟩
        have HRN : Hid (rr.length = rn) := by show rr.length = rn; rw [← hrr, HL.out]; exact hrn
        have HWANT : Hid (StrsAt w (some ⟨sb, soff, none⟩) rr) := fun i y hi => by
          rw [← hrr] at hi
          exact HST.out i y hi
        have hbl2 : (bytesL l).length ≤ 12320 := by
          have := bytesL_small l (fun y hy => by rw [← hlk] at hy; exact HI.out.2 y hy)
          rw [HL.out] at this
          omega
        have HKR : Hid (DOk 1 (stClean 1048576 rr)) := clean_ok _ _ (by rw [← hrr]; omega) (by omega)
        have HLR : Hid ((stClean 1048576 rr).all.length ≤ 1000000) := by show _ ≤ 1000000; rw [clean_all, ← hrr]; omega
        have hopn := open_clean 1048576 rr (fun y hy => by rw [← hrr, ← hlk] at hy; have := HI.out.2 y hy; omega)
        have HOR := Lib.hid hopn
        have htop' : openD ((stTorn 1048576 (l.take p) x).crash [true] (m : Nat)) = (0, stClean 1048576 rr) ∧ recsOf ((stTorn 1048576 (l.take p) x).crash [true] (m : Nat)).bytes = rr := by rw [← hrr]; exact htop
        have HTO := Lib.hid htop'
        have hmzi : decide ((m : Int) < (sz : Int)) = false := by rw [decide_eq_false_iff_not]; omega
        subst hrn
        clear hrr hcr hF hd hbA hK htok hbl hbl2 hlp hlk hlx hx hxm hm hsz hzz HI HD HW htop' HHM hp hpk
        clear hopn htop
        go_wp2_with fail
        try rw [hwA]
        refine HCR.out.mono ?_
        rintro e w3 ⟨rfl, h3, c3⟩
        have hz3 := c3.size
        have HB3 : Hid (Below w.heap.size w w3) := HBA.out.trans (c3.below (by omega) (fun i hi a => by have := HF.out i a; omega))
        have hop := open_log gd 1 gd (fun _ => False) _ _ w3 h3 HKC.out (by omega) HLC.out (fun q a => ⟨by
          rcases a with ⟨a, _⟩ | a
          · exact HF.out q a
          · omega, fun x => x⟩) (fun q a => a.elim) (by omega)
        have HOP := Lib.hid hop
        clear h3 c3 hop HCR hwA
        go_wp2_with fail
        refine HOP.out.mono ?_
        rintro e w4 ⟨v, he, c4, -, hv, -⟩
        rw [HTO.out.1] at he hv
        obtain ⟨g1, rfl, hld⟩ := hv rfl
        rw [HTO.out.2] at hld
        subst he
        have hz4 := c4.size
        have HB4 : Hid (Below w.heap.size w w4) := HB3.out.trans (c4.below (by omega) (fun i hi a => by
          rcases a with ⟨a, _⟩ | a
          · have := HF.out i a; omega
          · omega))
        obtain ⟨F4, hd4, -, hF4, -, ht4⟩ := hld.disk (by omega)
        have hop := open_log gd 1 gd (fun _ => False) F4 _ w4 hd4 HKR.out (by omega) HLR.out (fun q a => ⟨hF4 q a, fun x => x⟩) (fun q a => a.elim) (by omega)
        have HOP2 := Lib.hid hop
        have HT4 := Lib.hid ht4
        have HF4 := Lib.hid hF4
        clear hv c4 hld hd4 hF4 ht4 hop HOP HB3
        go_wp2_with fail
        refine HOP2.out.mono ?_
        rintro e w5 ⟨v, he, c5, hd5, hv, -⟩
        rw [HOR.out.1] at he hv hd5
        obtain ⟨g2, rfl, hld2⟩ := hv rfl
        rw [HOR.out.2] at hld2
        subst he
        have hz5 := c5.size
        have HB5 : Hid (Below w.heap.size w w5) := HB4.out.trans (c5.below (by omega) (fun i hi a => by have := HF4.out i a; omega))
        have HL1 := Lib.hid (HT4.out w5 _ hd5 c5)
        have HL2 := Lib.hid hld2
        obtain ⟨FL1, hlg1, -, -, -⟩ := HL1.out.log (by omega)
        have hall := logAll_any g1 gd rr FL1 w5 hlg1 (by rw [HRN.out]; omega)
        rw [HRN.out] at hall
        have HAL := Lib.hid hall
        clear hv c5 hd5 hld2 hlg1 hall HOP2 HT4 HB4 HL1
        go_wp2_with fail
        refine HAL.out.mono ?_
        rintro e w6 ⟨ao6, cp6, rfl, hst6, hb6⟩
        have hz6 := hb6.size
        have HB6 : Hid (Below w.heap.size w w6) := HB5.out.trans (hb6.mono (by omega))
        have hsm := same_any rr rr k k ao6 _ cp6 scap w6 hst6 (HWANT.out.below HB6.out) HRN.out HRN.out (by omega) (by omega) true (by simp)
        have HSM := Lib.hid hsm
        have HL6 := Lib.hid (HL2.out.below hb6)
        clear hst6 hb6 hsm HAL HL2 HB5
        go_wp2_with fail
        refine HSM.out.mono ?_
        rintro e w7 ⟨rfl, hb7⟩
        have hz7 := hb7.size
        have HB7 : Hid (Below w.heap.size w w7) := HB6.out.trans (hb7.mono (by omega))
        have HL7 := Lib.hid (HL6.out.below hb7)
        obtain ⟨FL2, hlg2, -, -, -⟩ := HL7.out.log (by omega)
        have hall := logAll_any g2 gd rr FL2 w7 hlg2 (by rw [HRN.out]; omega)
        rw [HRN.out] at hall
        have HAL := Lib.hid hall
        clear hb7 hlg2 hall HSM HL6 HB6
        go_wp2_with fail
        refine HAL.out.mono ?_
        rintro e w8 ⟨ao8, cp8, rfl, hst8, hb8⟩
        have hz8 := hb8.size
        have HB8 : Hid (Below w.heap.size w w8) := HB7.out.trans (hb8.mono (by omega))
        have hsm := same_any rr rr k k ao8 _ cp8 scap w8 hst8 (HWANT.out.below HB8.out) HRN.out HRN.out (by omega) (by omega) true (by simp)
        have HSM := Lib.hid hsm
        have HL8 := Lib.hid (HL7.out.below hb8)
        clear hst8 hb8 hsm HAL HL7 HB7
        go_wp2_with fail
        refine HSM.out.mono ?_
        rintro e w9 ⟨rfl, hb9⟩
        have hz9 := hb9.size
        have HB9 : Hid (Below w.heap.size w w9) := HB8.out.trans (hb9.mono (by omega))
        have HL9 := Lib.hid (HL8.out.below hb9)
        obtain ⟨F9, hd9, -, -, -, -⟩ := HL9.out.disk (by omega)
        have hla := lasts_any gd (stClean 1048576 rr) F9 w9 hd9
        have hle := len_any gd (stClean 1048576 rr) F9 w9 hd9 (by have := HLR.out; omega) (by show 0 ≤ _; omega)
        have hbe : (stClean 1048576 rr).lasts.size = (stClean 1048576 rr).all.length := by rw [clean_all]; exact txt_size _
        rw [hbe] at hla
        generalize (stClean 1048576 rr).all.length = q9 at *
        have HLA := Lib.hid hla
        have HLE := Lib.hid hle
        clear hb9 hd9 hla hle hbe HSM HL8 HB8 HL9
        go_wp2_with fail
        refine HLA.out.mono ?_
        rintro e w9' ⟨rfl, rfl⟩
        go_wp2_with fail
        refine HLE.out.mono ?_
        rintro e w10 ⟨rfl, hb10⟩
        have HB10 : Hid (Below w.heap.size w w10) := HB9.out.trans (hb10.mono (by omega))
        clear hb10 HLA HLE HB9
        go_wp2_with fail
        go_ret
        exact ⟨rfl, HB10.out⟩

theorem under_u16L : Try.prog.underlying 36 = some (.int .u16) := by kernel_rfl
set_option maxRecDepth 100000 in
theorem logTwice_lawful : Lawful 13 Try.f13 := by
  intro H enc W base args ds p hval hA hlt hsz
  rw [Try.params13] at hA hval hsz
  obtain ⟨v0, v1, d0, d1, p0, p1, rfl, rfl, rfl, h0, h1⟩ := trodAll_two hA
  obtain ⟨l, b, off, ao, n, cap, rfl, hm, hl, hx, hao, hb, hc⟩ := strsArg 0 hval hsz hlt h0 rfl rfl rfl (fun x hx => by simp [hx])
  obtain ⟨c, rfl, rfl, rfl, hw⟩ := open_int under_u16L (hval 1 36 v1 rfl rfl) h1
  have hcb : 0 ≤ c ∧ c ≤ 65535 := by simpa [Lit.wf, IntKind.min, IntKind.max, IntKind.signed, IntKind.bits] using hw
  have hcap : n ≤ cap ∧ cap ≤ maxLen := by
    obtain ⟨fuel, hf⟩ := h0
    rcases open_strings under_strs under_str cells_str hf with ⟨hcs, _⟩ | ⟨a, len', cap', ss, hcs, _, hl, hm, _⟩
    · simp [Value.cells] at hcs
      obtain ⟨rfl, rfl, rfl⟩ := hcs
      exact ⟨by omega, by unfold maxLen; omega⟩
    · simp [Value.cells] at hcs
      obtain ⟨rfl, rfl, rfl⟩ := hcs
      exact ⟨hl, hm⟩
  by_cases hlet : 40 < n ∨ n = 0
  · exact logTwice_let ao n cap c W hm hlet
  · obtain ⟨cn, rfl⟩ := Int.eq_ofNat_of_zero_le hcb.1
    exact logTwice_law ao b off n cap l cn (by omega) W hl (by omega) (by omega) hcap.1 hcap.2 hao hb hx (fun i x hi => by
      have hil : i < n := by rw [← hl]; exact (List.getElem?_eq_some_iff.1 hi).1
      have := hc i hil
      rw [List.getD_eq_getElem?_getD, hi] at this
      exact this)

theorem logTwice_holds : Rows.LogTwiceSaid :=
  OpenClaim.holds_of_wide 13 Try.f13 rfl rfl rfl rfl rfl rfl rfl ⟨rfl, rfl, rfl, rfl, rfl⟩ rfl rfl rfl rfl rfl (by kernel_rfl) Try.func13 (by kernel_rfl)
    (of_decide_eq_true (by kernel_rfl)) (by unfold Func.isWrapper; rw [if_neg (of_decide_eq_false (by kernel_rfl))]; exact ⟨rfl, rfl⟩)
    (fun os started H enc _ => law_lift (s := Rows.logTwiceSpec) Try.func13 (by kernel_rfl) rfl rfl rfl (by rw [Try.params13]; intro t ht; simp at ht; rcases ht with rfl | rfl <;> exact ⟨by kernel_rfl, of_decide_eq_true (by kernel_rfl)⟩)
      (by rw [Try.params13]; intro H ds hds; match ds, hds with | [d1, d2], _ => exact ⟨rfl, rfl, rfl⟩) logTwice_lawful os started H enc
      (ChangeSpec.witness6 (enc := enc) (C := Try.checked) false ⟨#[], #[.slice none 0 0, .int .u16 0], []⟩ 8 (by kernel_rfl) (by kernel_rfl) (by kernel_rfl) (by kernel_rfl)))
end Go.Proofs.Ytpnmhpkpkejdiaa
