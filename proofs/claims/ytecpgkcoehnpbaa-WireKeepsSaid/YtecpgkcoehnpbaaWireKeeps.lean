/- Turned about, as it likes, a wire carries the same packets; each that is taken was sent: the law WireKeeps answers true at every input. No condition. -/
import Derived.Test.YtecpgkcoehnpbaaWireOrder
import Derived.Test.YtecpgkcoehnpbaaPkMap
import Derived.Test.YtecpgkcoehnpbaaAnyTo
import Derived.OpenShut
namespace Go.Proofs.Ytecpgkcoehnpbaa
open Go.ChangeShapes Go.WideShapes Go.ChangeAt Go.RowKit

open Classical in
/-- how often a packet is in a list -/
noncomputable def cnt (l : List Pk) (p : Pk) : Nat := l.countP (fun q => decide (q = p))
theorem cnt_perm {l m : List Pk} (h : l.Perm m) : cnt l = cnt m := by funext p; exact h.countP_eq _
theorem cnt_nil : cnt [] = fun _ => 0 := rfl
open Classical in
theorem cnt_cons (p : Pk) (l : List Pk) (q : Pk) : cnt (p :: l) q = if q = p then cnt l p + 1 else cnt l q := by
  unfold cnt
  rw [List.countP_cons]
  by_cases h : q = p
  · subst h; simp
  · simp [h, Ne.symm h]
theorem ins_perm (l : List Pk) (k : Nat) (p : Pk) : (insPk l k p).Perm (p :: l) := by
  unfold insPk
  have := List.perm_middle (a := p) (l₁ := l.take k) (l₂ := l.drop k)
  rwa [List.take_append_drop] at this
theorem erase_perm {l : List Pk} {i : Nat} {p : Pk} (h : l[i]? = some p) : (p :: l.eraseIdx i).Perm l := by
  obtain ⟨hl, rfl⟩ := List.getElem?_eq_some_iff.1 h
  have h1 : l.eraseIdx i = l.take i ++ l.drop (i + 1) := List.eraseIdx_eq_take_drop_succ l i
  have h2 := List.perm_middle (a := l[i]) (l₁ := l.take i) (l₂ := l.drop (i + 1))
  rw [List.getElem_cons_drop, List.take_append_drop] at h2
  rw [h1]; exact h2.symm
theorem turn_perm {l : List Pk} {i : Nat} {p : Pk} (h : l[i]? = some p) (k : Nat) : (insPk (l.eraseIdx i) k p).Perm l := (ins_perm _ _ _).trans (erase_perm h)
open Classical in
theorem cnt_erase {l : List Pk} {i : Nat} {p : Pk} (h : l[i]? = some p) (q : Pk) : ((cnt (l.eraseIdx i) q : Nat) : Int) = if q = p then (cnt l p : Int) - 1 else (cnt l q : Int) := by
  have h1 := congrFun (cnt_perm (erase_perm h)) q
  have h2 := congrFun (cnt_perm (erase_perm h)) p
  rw [cnt_cons] at h1 h2
  rw [if_pos rfl] at h2
  by_cases hq : q = p
  · subst hq; rw [if_pos rfl]; omega
  · rw [if_neg hq] at h1 ⊢; omega
theorem cnt_pos {l : List Pk} {i : Nat} {p : Pk} (h : l[i]? = some p) : 1 ≤ cnt l p := by
  have h2 := congrFun (cnt_perm (erase_perm h)) p
  rw [cnt_cons, if_pos rfl] at h2; omega
open Classical in
theorem cnt_snoc {l : List Pk} {j : Nat} {p : Pk} (h : l[j]? = some p) (q : Pk) : ((cnt (l.take (j + 1)) q : Nat) : Int) = if q = p then (cnt (l.take j) p : Int) + 1 else (cnt (l.take j) q : Int) := by
  have h1 : (l.take (j + 1)).Perm (p :: l.take j) := by rw [take_snoc h]; exact List.perm_append_comm
  rw [congrFun (cnt_perm h1) q, cnt_cons]
  split <;> simp

/-- what stands beside the wire may turn -/
theorem Two.other {B g : Nat} {X : Nat → Prop} {w w' : World} {l : List Pk} {v : Value} {l2 : List Pk} (h : Two B X w g l v l2) (hc : Chg w w' X) : Two B X w' g l v l2 := by
  obtain ⟨F, G, h1, h2, h3, h4, h5⟩ := h
  exact ⟨F, G, h1.chg hc (fun k hk x => (h3 k hk).2.2 x), h2.chg hc (fun k hk x => (h4 k hk).2.2.1 x), fun k hk => ⟨(h3 k hk).1, Nat.lt_of_lt_of_le (h3 k hk).2.1 hc.size, (h3 k hk).2.2⟩, fun k hk => ⟨(h4 k hk).1, Nat.lt_of_lt_of_le (h4 k hk).2.1 hc.size, (h4 k hk).2.2⟩, fun k x => Nat.lt_of_lt_of_le (h5 k x) hc.size⟩
theorem MapAt.chg {w w' : World} {b : Nat} {f : Pk → Int} (h : MapAt w b f) {S : Nat → Prop} (hc : Chg w w' S) (hs : ¬ S b) : MapAt w' b f := by
  obtain ⟨es, clock, h1, h2⟩ := h
  exact ⟨es, clock, hc.heap h1 hs, h2⟩
theorem MapAt.kept {w w' : World} {b : Nat} {f : Pk → Int} {X : Nat → Prop} (h : MapAt w b f) (hk : Kept X w w') (hx : X b) : MapAt w' b f := by
  obtain ⟨es, clock, h1, h2⟩ := h
  exact ⟨es, clock, hk b _ hx h1, h2⟩
theorem MapAt.lt {w : World} {b : Nat} {f : Pk → Int} (h : MapAt w b f) : b < w.heap.size := by
  obtain ⟨es, clock, h1, h2⟩ := h
  exact heap_lt h1

open Classical in
/-- what 'm[p] = x' makes of the map, in two steps -/
theorem map_two {w : World} {b : Nat} {f : Pk → Int} (h : MapAt w b f) {p : Pk} (hp : PkOk p) (x : Int) : ∃ (v0 : Value) (st : Nat) (w1 w2 : World), Sem.run Try.prog (Instr.mapEntry 46 (.map (some b)) (pkV p)) w = .ok (.tuple #[v0, goInt st]) w1 ∧
    Sem.run Try.prog (Instr.lookup 46 (.map (some b)) (pkV p) false) w1 = .ok (.int .i64 (f p)) w1 ∧ Chg w w1 (fun k => k = b) ∧
    Sem.run Try.prog (Instr.entryStore 46 (.map (some b)) (goInt st) (.int .i64 x)) w1 = .ok () w2 ∧ MapAt w2 b (fun q => if q = p then x else f q) ∧ Chg w w2 (fun k => k = b) := by
  have hlt := h.lt
  obtain ⟨es1, clock1, j, e0, h1, h2, h3, h4⟩ := map_entry h hp
  have hb1 := putObj_at hlt (.map es1 clock1)
  obtain ⟨es2, h5, h6⟩ := map_store hb1 h2 h3 h4 hp x
  have hlt1 : b < (putObj w b (.map es1 clock1)).heap.size := heap_lt hb1
  exact ⟨e0.val, e0.born, _, _, h1, map_lookup ⟨es1, clock1, hb1, h2⟩ hp, putObj_chg _ _ _, h5, ⟨es2, clock1, putObj_at hlt1 _, h6⟩, (putObj_chg _ _ _).trans (putObj_chg _ _ _) (fun _ _ y => y)⟩
open Classical in
theorem map_snoc {w : World} {b j : Nat} {l : List Pk} {p : Pk} {c : Int} (h : MapAt w b (fun q => if q = p then c + 1 else (cnt (l.take j) q : Int))) (hp : l[j]? = some p) (hc : (cnt (l.take j) p : Int) = c) : MapAt w b (fun q => (cnt (l.take (j + 1)) q : Int)) := by
  have e : (fun q => (cnt (l.take (j + 1)) q : Int)) = fun q => if q = p then c + 1 else (cnt (l.take j) q : Int) := by
    funext q; rw [cnt_snoc hp q, hc]
  rw [e]; exact h
open Classical in
theorem map_erase {w : World} {b i : Nat} {l : List Pk} {p : Pk} {c : Int} (h : MapAt w b (fun q => if q = p then c - 1 else (cnt l q : Int))) (hp : l[i]? = some p) (hc : (cnt l p : Int) = c) : MapAt w b (fun q => (cnt (l.eraseIdx i) q : Int)) := by
  have e : (fun q => (cnt (l.eraseIdx i) q : Int)) = fun q => if q = p then c - 1 else (cnt l q : Int) := by
    funext q; rw [cnt_erase hp q, hc]
  rw [e]; exact h

set_option maxRecDepth 100000 in
set_option maxHeartbeats 6400000 in
theorem wireKeeps_law (ao : Option Addr) (b off n cap : Nat) (l : List Pk) (to : Option Addr) (tb toff m tcap : Nat) (ts : List (Int × Int)) (w : World) (hao : 0 < n → ao = some ⟨b, off, none⟩) (hb : 0 < n → b < w.heap.size) (hl : l.length = n) (hok : ∀ p ∈ l, PkOk p)
    (hc : ∀ i p, l[i]? = some p → ∀ j u, (pkCells p)[j]? = some u → w.cell? ⟨b, off + i * 6 + j, none⟩ = some u) (hto : 0 < m → to = some ⟨tb, toff, none⟩) (htb : 0 < m → tb < w.heap.size) (htl : ts.length = m)
    (htc : ∀ i (x : Int × Int), ts[i]? = some x → w.cell? ⟨tb, toff + i * 2, none⟩ = some (.int .i64 x.1) ∧ w.cell? ⟨tb, toff + i * 2 + 1, none⟩ = some (.int .i64 x.2))
    (hn : n ≤ 60) (hm : m ≤ 60) : Calls Try.prog 4 #[.slice ao n cap, .slice to m tcap] w fun e w' => e = .returned (.bool true) ∧ Below w.heap.size w w' := by
  have HN := Lib.hid (news_arg (cap := cap) hao hl hc)
  have HAO := Lib.hid hao
  have HB := Lib.hid hb
  have HL := Lib.hid hl
  have HC := Lib.hid hc
  have HTO := Lib.hid hto
  have HTB := Lib.hid htb
  have HTL := Lib.hid htl
  have HTC := Lib.hid htc
  have HOKS := Lib.hid hok
  have mixed : Try.prog.follows .mixedOrders = true := by kernel_rfl
  clear hao hb hl hc hto htb htl htc hok
  go_enter Try.func4, Try.ntmps4
  go_wp2_with fail
  refine (wireAwake w).mono ?_
  rintro e w1 ⟨rfl, hb1⟩
  have z1 := hb1.size
  have HB1 := Lib.hid hb1
  clear hb1
  go_wp2_with fail
  refine (wireNew_any w1).mono ?_
  rintro e w2 ⟨rfl, rfl⟩
  have HT : Hid (Two w.heap.size (fun _ => False) (w1.alloc (.cells #[.slice none 0 0] 85)) w1.heap.size [] (.slice none 0 0) []) :=
    ⟨fun k => k = w1.heap.size, fun _ => False, wire_new w1, Sl.nil _ _ _ _, fun k hk => by rw [World.size_alloc]; exact ⟨by omega, by omega, fun x => x⟩, fun _ x => x.elim, fun _ x => x.elim⟩
  have HB2 : Hid (Below w.heap.size w (w1.alloc (.cells #[.slice none 0 0] 85))) := HB1.out.alloc z1 _
  have HS := Lib.hid (two_send HT.out HB2.out.size l (.slice ao n cap) (HN.out.below HB2.out (fun a c e hm => by
    simp only [Value.slice.injEq] at e
    have := HL.out
    have h0 := HAO.out (by omega)
    rw [h0] at e
    rw [← Option.some.inj e.1]
    exact HB.out (by omega))) (by have := HL.out; simp only [List.length_nil]; omega))
  clear HT HN HB1
  generalize w1.alloc (.cells #[.slice none 0 0] 85) = w2 at *
  go_wp2_with fail
  refine HS.out.mono ?_
  rintro e w3 ⟨rfl, h3, hb3, -⟩
  rw [List.nil_append, cutPks_id _ (by rw [HL.out]; omega)] at h3
  have HR3 : Hid (Two w.heap.size (fun _ => False) w3 w1.heap.size l (.slice none 0 0) [] ∧ Below w.heap.size w w3) := ⟨h3, HB2.out.trans hb3⟩
  clear h3 hb3 HS HB2
  go_wp2_with fail
  go_loopw [30] (fun i wr => ∃ (j : Nat) (wl : List Pk), j ≤ m ∧ i = .int .i64 j ∧ Hid (wl.Perm l) ∧ Hid (Two w.heap.size (fun _ => False) wr w1.heap.size wl (.slice none 0 0) [] ∧ Below w.heap.size w wr)) (fun i _ => m - (intOf i).toNat)
  case atStart => exact ⟨0, l, by omega, rfl, List.Perm.refl _, HR3.out⟩
  case round =>
    obtain ⟨j, wl, hj, rfl, HPM, HR⟩ := hrel
    clear HR3
    have hwl : wl.length = n := HPM.out.length_eq.trans HL.out
    by_cases hlt : j < m
    · obtain rfl := HTO.out (by omega)
      obtain ⟨⟨x, y⟩, hx⟩ : ∃ x, ts[j]? = some x := ⟨_, List.getElem?_eq_getElem (by rw [HTL.out]; exact hlt)⟩
      have q0 : wr.cell? ⟨tb, toff + j * 2, none⟩ = some (.int .i64 x) := (HR.out.2.cell (by exact HTB.out (by omega))).trans (HTC.out j _ hx).1
      have q1 : wr.cell? ⟨tb, toff + j * 2 + 1, none⟩ = some (.int .i64 y) := (HR.out.2.cell (by exact HTB.out (by omega))).trans (HTC.out j _ hx).2
      clear hx
      have hz := HR.out.2.size
      have h2 := HR.out.1.below ((Below.refl wr.heap.size wr).alloc (Nat.le_refl _) (.cells #[.int .i64 x, .int .i64 y] 44)) (Nat.le_refl _)
      have HB4 : Hid (Below w.heap.size w (wr.alloc (.cells #[.int .i64 x, .int .i64 y] 44))) := HR.out.2.alloc hz _
      have hz4 : w.heap.size ≤ (wr.alloc (.cells #[.int .i64 x, .int .i64 y] 44)).heap.size := HB4.out.size
      by_cases hin : x < 0 ∨ (wl.length : Int) ≤ x
      · have HS := Lib.hid (two_turn_none h2 hz4 x y hin)
        clear hin h2
        go_wp2_with fail
        refine HS.out.mono ?_
        rintro e w5 ⟨rfl, h5, hb5, -⟩
        have HR5 : Hid (Two w.heap.size (fun _ => False) w5 w1.heap.size wl (.slice none 0 0) [] ∧ Below w.heap.size w w5) := ⟨h5, HB4.out.trans hb5⟩
        clear h5 hb5 HS HB4
        go_wp2_with fail
        go_roundw
        case rel => exact ⟨j + 1, wl, by omega, by go_num, HPM, HR5⟩
        case measure => simp [intOf]; omega
      · obtain ⟨k, rfl⟩ := Int.eq_ofNat_of_zero_le (show 0 ≤ x by omega)
        obtain ⟨p, hp⟩ : ∃ p, wl[k]? = some p := ⟨_, List.getElem?_eq_getElem (by omega)⟩
        have HS := Lib.hid (two_turn h2 hz4 k y p hp (by omega))
        have HPM2 : Hid ((insPk (wl.eraseIdx k) (turnTo y (wl.length - 1)) p).Perm l) := (turn_perm hp _).trans HPM.out
        clear hin h2 hp
        go_wp2_with fail
        refine HS.out.mono ?_
        rintro e w5 ⟨rfl, h5, hb5, -⟩
        have HR5 : Hid (Two w.heap.size (fun _ => False) w5 w1.heap.size (insPk (wl.eraseIdx k) (turnTo y (wl.length - 1)) p) (.slice none 0 0) [] ∧ Below w.heap.size w w5) := ⟨h5, HB4.out.trans hb5⟩
        clear h5 hb5 HS HB4
        go_wp2_with fail
        go_roundw
        case rel => exact ⟨j + 1, _, by omega, by go_num, HPM2, HR5⟩
        case measure => simp [intOf]; omega
    · have hz := HR.out.2.size
      obtain ⟨mb, hmb⟩ : ∃ mb, mb = wr.heap.size := ⟨_, rfl⟩
      have HR6 : Hid (Two w.heap.size (fun k => k = mb) (wr.alloc (.map #[] 0)) w1.heap.size wl (.slice none 0 0) [] ∧ Below w.heap.size w (wr.alloc (.map #[] 0)) ∧ MapAt (wr.alloc (.map #[] 0)) mb (fun _ => 0) ∧ w.heap.size ≤ mb) :=
        ⟨HR.out.1.next ((Below.refl wr.heap.size wr).alloc (Nat.le_refl _) (.map #[] 0)) (Nat.le_refl _) (fun k hk => by rw [World.size_alloc]; omega), HR.out.2.alloc hz _, ⟨_, _, by rw [hmb]; exact heap_alloc_new wr _, MapIs.empty⟩, by omega⟩
      have hmm := @run_makeMap Try.prog
      clear HR
      go_wp2_with fail
      rw [← hmb]
      clear hmm hmb hlt hj hz
      generalize wr.alloc (.map #[] 0) = w6 at *
      go_loopw [44] (fun i wq => ∃ j : Nat, j ≤ n ∧ i = .int .i64 j ∧ Hid (Two w.heap.size (fun k => k = mb) wq w1.heap.size wl (.slice none 0 0) [] ∧ Below w.heap.size w wq ∧ MapAt wq mb (fun q => (cnt (l.take j) q : Int)) ∧ w.heap.size ≤ mb)) (fun i _ => n - (intOf i).toNat)
      case atStart => exact ⟨0, by omega, rfl, HR6.out⟩
      case round =>
        obtain ⟨j, hj, rfl, HQ⟩ := hrel
        clear HR6
        by_cases hlt : j < n
        · obtain rfl := HAO.out (by omega)
          obtain ⟨p, hp⟩ : ∃ p, l[j]? = some p := ⟨_, List.getElem?_eq_getElem (by rw [HL.out]; exact hlt)⟩
          have hc : ∀ k u, (pkCells p)[k]? = some u → wr.cell? ⟨b, off + j * 6 + k, none⟩ = some u := fun k u hk => (HQ.out.2.1.cell (by exact HB.out (by omega))).trans (HC.out j p hp k u hk)
          have q0 := hc 0 _ rfl
          have q1 := hc 1 _ rfl
          have q2 := hc 2 _ rfl
          have q3 := hc 3 _ rfl
          have q4 := hc 4 _ rfl
          have q5 := hc 5 _ rfl
          rw [Nat.add_zero] at q0
          have HP := Lib.hid hp
          have HOK := Lib.hid (HOKS.out p (List.mem_of_getElem? hp))
          have hz := HQ.out.2.1.size
          obtain ⟨c, hcv⟩ : ∃ c : Int, (cnt (l.take j) p : Int) = c := ⟨_, rfl⟩
          have hcb : 0 ≤ c ∧ c ≤ 60 := by
            rw [← hcv]
            have : cnt (l.take j) p ≤ (l.take j).length := List.countP_le_length
            have h2 := List.length_take_le j l
            omega
          have hw1 : IntKind.i64.wrap (c + 1) = c + 1 := IntWalk.i64_in _ (by omega)
          have HCV := Lib.hid hcv
          have HBX := Lib.hid (heap_alloc_new wr (pkObj p))
          have HM := Lib.hid (HQ.out.2.2.1.chg ((Chg.refl wr (fun _ => False)).alloc (pkObj p)) (fun x => x))
          have HNE : Hid (¬ wr.heap.size = mb) := by have := HQ.out.2.2.1.lt; show ¬ _; omega
          clear hc hp hcv
          go_wp2_with fail
          have HMD : Hid (MapAt (wr.alloc (pkObj p)).drew mb _) := HM.out.chg ((Chg.refl (wr.alloc (pkObj p)) (fun _ => False)).drew) (fun x => x)
          obtain ⟨v0, st, wm1, wm2, hr1, hr2, hr3, hr4, hr5, hr6⟩ := map_two (HMD.out) (p := p) HOK.out (c + 1)
          have hr0 := map_lookup HM.out HOK.out
          rw [HCV.out] at hr0 hr2
          have hbx1 := hr3.heap HBX.out HNE.out
          have hr0d : Sem.run Try.prog (Instr.lookup 46 (.map (some mb)) (pkV p) false) (wr.alloc (pkObj p)).drew = .ok (.int .i64 c) (wr.alloc (pkObj p)).drew := by have := map_lookup (w := (wr.alloc (pkObj p)).drew) HMD.out HOK.out; rw [HCV.out] at this; exact this
          have hS : (fun w' : World => w'.cell? ⟨wr.heap.size, 0, none⟩ = some (.int .i64 p.ch) ∧ w'.cell? ⟨wr.heap.size, 1, none⟩ = some (.int .i64 p.back) ∧ w'.cell? ⟨wr.heap.size, 2, none⟩ = some (.int .i64 p.inc) ∧ w'.cell? ⟨wr.heap.size, 3, none⟩ = some (.int .i64 p.seq) ∧ w'.cell? ⟨wr.heap.size, 4, none⟩ = some (.int .i64 p.ack) ∧ w'.cell? ⟨wr.heap.size, 5, none⟩ = some (.string p.load) ∧ Sem.run Try.prog (Instr.lookup 46 (.map (some mb)) (.agg #[.int .i64 p.ch, .int .i64 p.back, .int .i64 p.inc, .int .i64 p.seq, .int .i64 p.ack, .string p.load]) false) w' = .ok (.int .i64 c) w') (wr.alloc (pkObj p)).drew := ⟨cell_at HBX.out rfl, cell_at HBX.out rfl, cell_at HBX.out rfl, cell_at HBX.out rfl, cell_at HBX.out rfl, cell_at HBX.out rfl, hr0d⟩
          refine AnyTo.region (m := 6) (S := fun w' : World => w'.cell? ⟨wr.heap.size, 0, none⟩ = some (.int .i64 p.ch) ∧ w'.cell? ⟨wr.heap.size, 1, none⟩ = some (.int .i64 p.back) ∧ w'.cell? ⟨wr.heap.size, 2, none⟩ = some (.int .i64 p.inc) ∧ w'.cell? ⟨wr.heap.size, 3, none⟩ = some (.int .i64 p.seq) ∧ w'.cell? ⟨wr.heap.size, 4, none⟩ = some (.int .i64 p.ack) ∧ w'.cell? ⟨wr.heap.size, 5, none⟩ = some (.string p.load) ∧ Sem.run Try.prog (Instr.lookup 46 (.map (some mb)) (.agg #[.int .i64 p.ch, .int .i64 p.back, .int .i64 p.inc, .int .i64 p.seq, .int .i64 p.ack, .string p.load]) false) w' = .ok (.int .i64 c) w') mixed ?_
          refine AnyTo.take (i := 0) (v := ?va0) rfl (by kernel_rfl) (by kernel_rfl) (by kernel_rfl) (by kernel_rfl) (fun _ _ _ h => h) (Or.inl ⟨by rfl, ?hya0⟩) hS ?resta0
          case hya0 => (intro w' hw'; (try dsimp only at hw'); go_simp; try (with_reducible rfl))
          try simp only [Act.put, List.setIfInBounds_toArray, List.set_cons_zero, List.set_cons_succ]
          refine AnyTo.take (i := 1) (v := ?va1) rfl (by kernel_rfl) (by kernel_rfl) (by kernel_rfl) (by kernel_rfl) (fun _ _ _ h => h) (Or.inl ⟨by rfl, ?hya1⟩) hS ?resta1
          case hya1 => (intro w' hw'; (try dsimp only at hw'); go_simp; try (with_reducible rfl))
          try simp only [Act.put, List.setIfInBounds_toArray, List.set_cons_zero, List.set_cons_succ]
          refine AnyTo.take (i := 2) (v := ?va2) rfl (by kernel_rfl) (by kernel_rfl) (by kernel_rfl) (by kernel_rfl) (fun _ _ _ h => h) (Or.inl ⟨by rfl, ?hya2⟩) hS ?resta2
          case hya2 => (intro w' hw'; (try dsimp only at hw'); go_simp; try (with_reducible rfl))
          try simp only [Act.put, List.setIfInBounds_toArray, List.set_cons_zero, List.set_cons_succ]
          refine AnyTo.take (i := 3) (v := ?va3) rfl (by kernel_rfl) (by kernel_rfl) (by kernel_rfl) (by kernel_rfl) (fun _ _ _ h => h) (Or.inl ⟨by rfl, ?hya3⟩) hS ?resta3
          case hya3 => (intro w' hw'; (try dsimp only at hw'); go_simp; try (with_reducible rfl))
          try simp only [Act.put, List.setIfInBounds_toArray, List.set_cons_zero, List.set_cons_succ]
          have hr1' : Sem.run Try.prog (Instr.mapEntry 46 (.map (some mb)) (.agg #[.int .i64 p.ch, .int .i64 p.back, .int .i64 p.inc, .int .i64 p.seq, .int .i64 p.ack, .string p.load])) (wr.alloc (.cells #[.int .i64 p.ch, .int .i64 p.back, .int .i64 p.inc, .int .i64 p.seq, .int .i64 p.ack, .string p.load] 23)).drew = .ok (.tuple #[v0, .int .i64 (st : Int)]) wm1 := hr1
          have hst : Sem.run Try.prog (Instr.entryStore 46 (.map (some mb)) (.int .i64 (st : Int)) (.int .i64 (c + 1))) wm1 = .ok () wm2 := hr4
          have HST := Lib.hid hst
          have HM2 := Lib.hid hr5
          have HC2 := Lib.hid hr6
          have hs1 := hr2
          clear hr1 hr2 hr3 hr4 hr5 hr6 hr0 hr0d hst
          refine AnyTo.step (i := 4) (by kernel_rfl) rfl (fun K hK => ?_)
          go_simp
          refine hK.out _ _ (fun _ => ⟨cell_at hbx1 rfl, cell_at hbx1 rfl, cell_at hbx1 rfl, cell_at hbx1 rfl, cell_at hbx1 rfl, cell_at hbx1 rfl, hs1⟩) ?_
          clear hK K
          try simp only [Act.put, List.setIfInBounds_toArray, List.set_cons_zero, List.set_cons_succ]
          refine AnyTo.step (i := 5) (by kernel_rfl) rfl (fun K hK => ?_)
          go_simp
          refine hK.out _ _ (fun _ => ⟨cell_at hbx1 rfl, cell_at hbx1 rfl, cell_at hbx1 rfl, cell_at hbx1 rfl, cell_at hbx1 rfl, cell_at hbx1 rfl, hs1⟩) ?_
          clear hK K hr1'
          try simp only [Act.put, List.setIfInBounds_toArray, List.set_cons_zero, List.set_cons_succ]
          have hst := HST.out
          refine AnyTo.step (i := 6) (by kernel_rfl) rfl (fun K hK => ?_)
          go_simp
          refine hK.out _ _ (fun z => absurd rfl z) ?_
          clear hK K hs1 hbx1 hS hst HST
          try simp only [Act.put, List.setIfInBounds_toArray, List.set_cons_zero, List.set_cons_succ]
          refine AnyTo.done (by kernel_rfl) ?_
          have HR7 : Hid (Two w.heap.size (fun k => k = mb) wm2 w1.heap.size wl (.slice none 0 0) [] ∧ Below w.heap.size w wm2 ∧ MapAt wm2 mb (fun q => (cnt (l.take (j + 1)) q : Int)) ∧ w.heap.size ≤ mb) := by
            refine ⟨?_, ?_, ?_, HQ.out.2.2.2⟩
            · exact ((HQ.out.1.below ((Below.refl wr.heap.size wr).alloc (Nat.le_refl _) (pkObj p)) (Nat.le_refl _)).other ((Chg.refl _ _).drew)).other HC2.out
            · exact ((HQ.out.2.1.alloc hz _).drew).trans (HC2.out.below (by show w.heap.size ≤ (wr.alloc (pkObj p)).heap.size; rw [World.size_alloc]; omega) (fun i hi hx => by have h1 : i = mb := hx; have := HQ.out.2.2.2; omega))
            · exact map_snoc HM2.out HP.out HCV.out
          clear HMD HM2 HC2 HBX HM HQ HCV hw1
          go_wp2_with fail
          go_roundw
          case rel => exact ⟨j + 1, by omega, by go_num, HR7⟩
          case measure => simp [intOf]; omega
        · have HQ2 : Hid (Two w.heap.size (fun k => k = mb) wr w1.heap.size wl (.slice none 0 0) [] ∧ Below w.heap.size w wr ∧ MapAt wr mb (fun q => (cnt wl q : Int)) ∧ w.heap.size ≤ mb) := by
            have h := HQ.out
            rw [List.take_of_length_le (by rw [HL.out]; omega), ← cnt_perm HPM.out] at h
            exact h
          have HOKW : Hid (∀ p ∈ wl, PkOk p) := fun p hp => HOKS.out p (HPM.out.mem_iff.1 hp)
          clear HQ
          go_wp2_with fail
          go_loopw [11] (fun i wq => ∃ vl : List Pk, i = .int .i64 (vl.length : Nat) ∧ vl.length ≤ 60 ∧ Hid (∀ p ∈ vl, PkOk p) ∧ Hid (Two w.heap.size (fun k => k = mb) wq w1.heap.size vl (.slice none 0 0) [] ∧ Below w.heap.size w wq ∧ MapAt wq mb (fun q => (cnt vl q : Int)) ∧ w.heap.size ≤ mb)) (fun i _ => (intOf i).toNat)
          case atStart => exact ⟨wl, by rw [hwl], by omega, HOKW, HQ2.out⟩
          case round =>
            obtain ⟨vl, rfl, hvl, HOV, HV⟩ := hrel
            clear HQ2 HOKW
            by_cases hpos : 0 < vl.length
            · obtain ⟨p, hp⟩ : ∃ p, vl[vl.length / 2]? = some p := ⟨_, List.getElem?_eq_getElem (by omega)⟩
              have hz := HV.out.2.1.size
              have hs := two_take HV.out.1 hz (vl.length / 2) p hp (by omega)
              rw [show ((vl.length / 2 : Nat) : Int) = (vl.length : Int) / 2 by omega] at hs
              have HS := Lib.hid hs
              clear hs
              have HP := Lib.hid hp
              have HOK := Lib.hid (HOV.out p (List.mem_of_getElem? hp))
              have HLV : Hid ((vl.eraseIdx (vl.length / 2)).length = vl.length - 1) := List.length_eraseIdx_of_lt (by omega)
              have HOV2 : Hid (∀ q ∈ vl.eraseIdx (vl.length / 2), PkOk q) := fun q hq => HOV.out q (List.mem_of_mem_eraseIdx hq)
              obtain ⟨c, hcv⟩ : ∃ c : Int, (cnt vl p : Int) = c := ⟨_, rfl⟩
              have hcb : 1 ≤ c ∧ c ≤ 60 := by
                rw [← hcv]
                have h1 : cnt vl p ≤ vl.length := List.countP_le_length
                have h2 := cnt_pos hp
                omega
              have hw1 : IntKind.i64.wrap (c - 1) = c - 1 := IntWalk.i64_in _ (by omega)
              have hq2 : Int.tdiv (vl.length : Int) 2 = ((vl.length / 2 : Nat) : Int) := by rw [Int.tdiv_eq_ediv_of_nonneg (by omega)]; omega
              have HCV := Lib.hid hcv
              clear hp hcv
              go_wp2_with fail
              refine HS.out.mono ?_
              rintro e w5 ⟨rfl, h5, hb5, k5⟩
              have hz5 : w.heap.size ≤ w5.heap.size := Nat.le_trans hz hb5.size
              have hm5 : MapAt w5 mb (fun q => (cnt vl q : Int)) := HV.out.2.2.1.kept k5 rfl
              have hlk : Sem.run Try.prog (Instr.lookup 46 (.map (some mb)) (.agg #[.int .i64 p.ch, .int .i64 p.back, .int .i64 p.inc, .int .i64 p.seq, .int .i64 p.ack, .string p.load]) false) (w5.alloc (.cells #[.int .i64 p.ch, .int .i64 p.back, .int .i64 p.inc, .int .i64 p.seq, .int .i64 p.ack, .string p.load] 23)) = .ok (.int .i64 c) (w5.alloc (.cells #[.int .i64 p.ch, .int .i64 p.back, .int .i64 p.inc, .int .i64 p.seq, .int .i64 p.ack, .string p.load] 23)) := by
                have h := map_lookup (hm5.chg ((Chg.refl w5 (fun _ => False)).alloc (pkObj p)) (fun x => x)) HOK.out
                rw [HCV.out] at h; exact h
              have hc0 : (c == 0) = false := by rw [beq_eq_false_iff_ne]; omega
              have H5 := Lib.hid h5
              have HB5 := Lib.hid (HV.out.2.1.trans hb5)
              have HBX := Lib.hid (heap_alloc_new w5 (pkObj p))
              have HM := Lib.hid (hm5.chg ((Chg.refl w5 (fun _ => False)).alloc (pkObj p)) (fun x => x))
              have HNE : Hid (¬ w5.heap.size = mb) := by have := hm5.lt; show ¬ _; omega
              have HMB : Hid (w.heap.size ≤ mb) := HV.out.2.2.2
              clear h5 hb5 k5 hm5 HS HV
              go_wp2_with fail
              clear hlk hc0
              have HMD : Hid (MapAt (w5.alloc (pkObj p)).drew mb _) := HM.out.chg ((Chg.refl (w5.alloc (pkObj p)) (fun _ => False)).drew) (fun x => x)
              obtain ⟨v0, st, wm1, wm2, hr1, hr2, hr3, hr4, hr5, hr6⟩ := map_two (HMD.out) (p := p) HOK.out (c - 1)
              have hr0 := map_lookup HM.out HOK.out
              rw [HCV.out] at hr0 hr2
              have hbx1 := hr3.heap HBX.out HNE.out
              have hr0d : Sem.run Try.prog (Instr.lookup 46 (.map (some mb)) (pkV p) false) (w5.alloc (pkObj p)).drew = .ok (.int .i64 c) (w5.alloc (pkObj p)).drew := by have := map_lookup (w := (w5.alloc (pkObj p)).drew) HMD.out HOK.out; rw [HCV.out] at this; exact this
              have hS : (fun w' : World => w'.cell? ⟨w5.heap.size, 0, none⟩ = some (.int .i64 p.ch) ∧ w'.cell? ⟨w5.heap.size, 1, none⟩ = some (.int .i64 p.back) ∧ w'.cell? ⟨w5.heap.size, 2, none⟩ = some (.int .i64 p.inc) ∧ w'.cell? ⟨w5.heap.size, 3, none⟩ = some (.int .i64 p.seq) ∧ w'.cell? ⟨w5.heap.size, 4, none⟩ = some (.int .i64 p.ack) ∧ w'.cell? ⟨w5.heap.size, 5, none⟩ = some (.string p.load) ∧ Sem.run Try.prog (Instr.lookup 46 (.map (some mb)) (.agg #[.int .i64 p.ch, .int .i64 p.back, .int .i64 p.inc, .int .i64 p.seq, .int .i64 p.ack, .string p.load]) false) w' = .ok (.int .i64 c) w') (w5.alloc (pkObj p)).drew := ⟨cell_at HBX.out rfl, cell_at HBX.out rfl, cell_at HBX.out rfl, cell_at HBX.out rfl, cell_at HBX.out rfl, cell_at HBX.out rfl, hr0d⟩
              refine AnyTo.region (m := 6) (S := fun w' : World => w'.cell? ⟨w5.heap.size, 0, none⟩ = some (.int .i64 p.ch) ∧ w'.cell? ⟨w5.heap.size, 1, none⟩ = some (.int .i64 p.back) ∧ w'.cell? ⟨w5.heap.size, 2, none⟩ = some (.int .i64 p.inc) ∧ w'.cell? ⟨w5.heap.size, 3, none⟩ = some (.int .i64 p.seq) ∧ w'.cell? ⟨w5.heap.size, 4, none⟩ = some (.int .i64 p.ack) ∧ w'.cell? ⟨w5.heap.size, 5, none⟩ = some (.string p.load) ∧ Sem.run Try.prog (Instr.lookup 46 (.map (some mb)) (.agg #[.int .i64 p.ch, .int .i64 p.back, .int .i64 p.inc, .int .i64 p.seq, .int .i64 p.ack, .string p.load]) false) w' = .ok (.int .i64 c) w') mixed ?_
              refine AnyTo.take (i := 0) (v := ?vb0) rfl (by kernel_rfl) (by kernel_rfl) (by kernel_rfl) (by kernel_rfl) (fun _ _ _ h => h) (Or.inl ⟨by rfl, ?hyb0⟩) hS ?restb0
              case hyb0 => (intro w' hw'; (try dsimp only at hw'); go_simp; try (with_reducible rfl))
              try simp only [Act.put, List.setIfInBounds_toArray, List.set_cons_zero, List.set_cons_succ]
              refine AnyTo.take (i := 1) (v := ?vb1) rfl (by kernel_rfl) (by kernel_rfl) (by kernel_rfl) (by kernel_rfl) (fun _ _ _ h => h) (Or.inl ⟨by rfl, ?hyb1⟩) hS ?restb1
              case hyb1 => (intro w' hw'; (try dsimp only at hw'); go_simp; try (with_reducible rfl))
              try simp only [Act.put, List.setIfInBounds_toArray, List.set_cons_zero, List.set_cons_succ]
              refine AnyTo.take (i := 2) (v := ?vb2) rfl (by kernel_rfl) (by kernel_rfl) (by kernel_rfl) (by kernel_rfl) (fun _ _ _ h => h) (Or.inl ⟨by rfl, ?hyb2⟩) hS ?restb2
              case hyb2 => (intro w' hw'; (try dsimp only at hw'); go_simp; try (with_reducible rfl))
              try simp only [Act.put, List.setIfInBounds_toArray, List.set_cons_zero, List.set_cons_succ]
              refine AnyTo.take (i := 3) (v := ?vb3) rfl (by kernel_rfl) (by kernel_rfl) (by kernel_rfl) (by kernel_rfl) (fun _ _ _ h => h) (Or.inl ⟨by rfl, ?hyb3⟩) hS ?restb3
              case hyb3 => (intro w' hw'; (try dsimp only at hw'); go_simp; try (with_reducible rfl))
              try simp only [Act.put, List.setIfInBounds_toArray, List.set_cons_zero, List.set_cons_succ]
              have hr1' : Sem.run Try.prog (Instr.mapEntry 46 (.map (some mb)) (.agg #[.int .i64 p.ch, .int .i64 p.back, .int .i64 p.inc, .int .i64 p.seq, .int .i64 p.ack, .string p.load])) (w5.alloc (.cells #[.int .i64 p.ch, .int .i64 p.back, .int .i64 p.inc, .int .i64 p.seq, .int .i64 p.ack, .string p.load] 23)).drew = .ok (.tuple #[v0, .int .i64 (st : Int)]) wm1 := hr1
              have hst : Sem.run Try.prog (Instr.entryStore 46 (.map (some mb)) (.int .i64 (st : Int)) (.int .i64 (c - 1))) wm1 = .ok () wm2 := hr4
              have HST := Lib.hid hst
              have HM2 := Lib.hid hr5
              have HC2 := Lib.hid hr6
              have hs1 := hr2
              clear hr1 hr2 hr3 hr4 hr5 hr6 hr0 hr0d hst
              refine AnyTo.step (i := 4) (by kernel_rfl) rfl (fun K hK => ?_)
              go_simp
              refine hK.out _ _ (fun _ => ⟨cell_at hbx1 rfl, cell_at hbx1 rfl, cell_at hbx1 rfl, cell_at hbx1 rfl, cell_at hbx1 rfl, cell_at hbx1 rfl, hs1⟩) ?_
              clear hK K
              try simp only [Act.put, List.setIfInBounds_toArray, List.set_cons_zero, List.set_cons_succ]
              refine AnyTo.step (i := 5) (by kernel_rfl) rfl (fun K hK => ?_)
              go_simp
              refine hK.out _ _ (fun _ => ⟨cell_at hbx1 rfl, cell_at hbx1 rfl, cell_at hbx1 rfl, cell_at hbx1 rfl, cell_at hbx1 rfl, cell_at hbx1 rfl, hs1⟩) ?_
              clear hK K hr1'
              try simp only [Act.put, List.setIfInBounds_toArray, List.set_cons_zero, List.set_cons_succ]
              have hst := HST.out
              refine AnyTo.step (i := 6) (by kernel_rfl) rfl (fun K hK => ?_)
              go_simp
              refine hK.out _ _ (fun z => absurd rfl z) ?_
              clear hK K hs1 hbx1 hS hst HST
              try simp only [Act.put, List.setIfInBounds_toArray, List.set_cons_zero, List.set_cons_succ]
              refine AnyTo.done (by kernel_rfl) ?_
              have HR8 : Hid (Two w.heap.size (fun k => k = mb) wm2 w1.heap.size (vl.eraseIdx (vl.length / 2)) (.slice none 0 0) [] ∧ Below w.heap.size w wm2 ∧ MapAt wm2 mb (fun q => (cnt (vl.eraseIdx (vl.length / 2)) q : Int)) ∧ w.heap.size ≤ mb) := by
                refine ⟨?_, ?_, ?_, HMB.out⟩
                · exact ((H5.out.below ((Below.refl w5.heap.size w5).alloc (Nat.le_refl _) (pkObj p)) (Nat.le_refl _)).other ((Chg.refl _ _).drew)).other HC2.out
                · exact ((HB5.out.alloc hz5 _).drew).trans (HC2.out.below (by show w.heap.size ≤ (w5.alloc (pkObj p)).heap.size; rw [World.size_alloc]; omega) (fun i hi hx => by have h1 : i = mb := hx; have := HMB.out; omega))
                · exact map_erase HM2.out HP.out HCV.out
              clear HMD HM2 HC2 HBX HM HCV hw1 H5 HB5
              go_wp2_with fail
              go_roundw
              case rel => exact ⟨vl.eraseIdx (vl.length / 2), by rw [HLV.out]; go_num, by rw [HLV.out]; omega, HOV2, HR8⟩
              case measure => simp [intOf]; omega
            · have hv0 : vl.length = 0 := by omega
              have HS := Lib.hid (two_len HV.out.1)
              rw [hv0] at HS
              go_wp2_with fail
              refine HS.out.mono ?_
              rintro e w5 ⟨rfl, rfl⟩
              go_wp2_with fail
              go_ret
              exact ⟨rfl, HV.out.2.1⟩

/-- what the law lets go -/
theorem wireKeeps_let (ao : Option Addr) (n cap : Nat) (to : Option Addr) (m tcap : Nat) (w : World) (hn : n ≤ maxLen) (hm : m ≤ maxLen) (hlet : 60 < n ∨ 60 < m) :
    Calls Try.prog 4 #[.slice ao n cap, .slice to m tcap] w fun e w' => e = .returned (.bool true) ∧ Below w.heap.size w w' := by
  unfold maxLen at hn hm
  by_cases c1 : 60 < n
  · clear hlet
    go_enter Try.func4, Try.ntmps4
    go_wp2_with fail
    refine (wireAwake w).mono ?_
    rintro e w1 ⟨rfl, hb1⟩
    have HB1 := Lib.hid hb1
    clear hb1
    go_wp2_with fail
    go_ret
    exact ⟨rfl, HB1.out⟩
  · have c2 : 60 < m := by omega
    clear hlet
    go_enter Try.func4, Try.ntmps4
    go_wp2_with fail
    refine (wireAwake w).mono ?_
    rintro e w1 ⟨rfl, hb1⟩
    have HB1 := Lib.hid hb1
    clear hb1
    go_wp2_with fail
    go_ret
    exact ⟨rfl, HB1.out⟩

theorem under_pairs : Try.prog.underlying 40 = some (.slice 44) := by kernel_rfl
theorem under_pair : Try.prog.underlying 44 = some (.array 2 3) := by kernel_rfl
theorem cells_pair : Try.prog.cellsOf 44 = 2 := by kernel_rfl
theorem rdPair {H : Type} {enc : TypeId × Value → H} {W : World} {base : Nat} {spare : Nat → Bool} {held : Bool} (fuel : Nat) (cs : List Value) (y : DataW H × List MemPlace) (h : DataW.trod enc Try.prog W base spare held fuel 44 cs = some y) : ∃ x : Int × Int, cs = [.int .i64 x.1, .int .i64 x.2] ∧ True := by
  obtain ⟨xs, n, _, hx, hcl, hlen, hg⟩ := DataW.trod_array under_pair h
  rw [cells_pair] at hcl
  match cs, hcl with
  | [c0, c1], _ =>
    match xs, hlen with
    | [y0, y1], _ =>
      obtain ⟨n0, rfl, _⟩ := rdInt (by simpa [cells_int] using hg 0 (by omega)) rfl
      obtain ⟨n1, rfl, _⟩ := rdInt (by simpa [cells_int] using hg 1 (by omega)) rfl
      exact ⟨(n0, n1), rfl, trivial⟩

set_option maxRecDepth 100000 in
theorem wireKeeps_lawful : Lawful 4 Try.f4 := by
  intro H enc W base args ds p hval hA hlt hsz
  rw [Try.params4] at hA hval hsz
  obtain ⟨v0, v1, d0, d1, p0, p1, rfl, rfl, rfl, h0, h1⟩ := trodAll_two hA
  obtain ⟨l, b, off, ao, n, cap, rfl, _, hn, hl, hok, hao, hb, hc⟩ := sliceArg pkCells PkOk 6 (by omega) under_pks cells_pk (fun fuel cs y a1 a2 _ => rdPk fuel cs y a1 a2) (hval 0 28 v0 rfl rfl) h0 (weights_in (j := 0) hsz rfl rfl) hlt (fun x hx => List.mem_append_left _ hx)
  obtain ⟨ts, tb, toff, to, m, tcap, rfl, _, hm, htl, _, hto, htb, htc⟩ := sliceArg (fun x : Int × Int => [.int .i64 x.1, .int .i64 x.2]) (fun _ => True) 2 (by omega) under_pairs cells_pair (fun fuel cs y a1 _ _ => rdPair fuel cs y a1) (hval 1 40 v1 rfl rfl) h1 (weights_in (j := 1) hsz rfl rfl) hlt (fun x hx => by simp [hx])
  by_cases hlet : 60 < n ∨ 60 < m
  · exact wireKeeps_let ao n cap to m tcap W hn hm hlet
  · exact wireKeeps_law ao b off n cap l to tb toff m tcap ts W hao hb hl hok hc hto htb htl (fun i x hx => ⟨by have := htc i x hx 0 _ rfl; rwa [Nat.add_zero] at this, htc i x hx 1 _ rfl⟩) (by omega) (by omega)

theorem wireKeeps_holds : Rows.WireKeepsSaid :=
  OpenClaim.holds_of_wide 4 Try.f4 rfl rfl rfl rfl rfl rfl rfl ⟨rfl, rfl, rfl, rfl, rfl⟩ rfl rfl rfl rfl rfl (by kernel_rfl) Try.func4 (by kernel_rfl)
    (of_decide_eq_true (by kernel_rfl)) (by unfold Func.isWrapper; rw [if_neg (of_decide_eq_false (by kernel_rfl))]; exact ⟨rfl, rfl⟩)
    (fun os started H enc _ => law_lift (s := Rows.wireKeepsSpec) Try.func4 (by kernel_rfl) rfl rfl rfl (by rw [Try.params4]; intro t ht; simp at ht; rcases ht with rfl | rfl <;> exact ⟨by kernel_rfl, of_decide_eq_true (by kernel_rfl)⟩)
      (by rw [Try.params4]; intro H ds hds; match ds, hds with | [d1, d2], _ => exact ⟨rfl, rfl, rfl⟩) wireKeeps_lawful os started H enc
      (ChangeSpec.witness6 (enc := enc) (C := Try.checked) false ⟨#[], #[.slice none 0 0, .slice none 0 0], []⟩ 8 (by kernel_rfl) (by kernel_rfl) (by kernel_rfl) (by kernel_rfl)))
end Go.Proofs.Ytecpgkcoehnpbaa
