/- Layer 15: what LogPlays' steps make of a disk, its log and two lists of texts. -/
import Derived.Test.YtpnmhpkpkejdiaaLogK
namespace Go.Proofs.Ytpnmhpkpkejdiaa
open Go.RowKit

theorem len_bytes (ls : List ByteArray) : ls.length * 8 ≤ (bytesL ls).length := by
  induction ls with
  | nil => simp
  | cons x ls ih =>
    have e : bytesL (x :: ls) = frameL x.data.toList ++ bytesL ls := rfl
    rw [e, List.length_append, frameL_length, List.length_cons]
    omega
/-- as LP, where the log's records are another list -/
def LQ (w : World) (B : Nat) (Y : Nat → Prop) (gd gl : Nat) (s : DSt) (L : List ByteArray) (vh vm : Value) (has might : List ByteArray) : Prop :=
  ∃ X : Nat → Prop, (∀ q, Y q → X q) ∧ LD w B X gd gl s L ∧ Sl w X 9 1 vh has.length (strCells has) ∧ Sl w X 9 1 vm might.length (strCells might)
theorem LQ.below {w w' : World} {B gd gl : Nat} {Y : Nat → Prop} {s : DSt} {L : List ByteArray} {vh vm : Value} {has might : List ByteArray} (h : LQ w B Y gd gl s L vh vm has might) (hb : Below w.heap.size w w') : LQ w' B Y gd gl s L vh vm has might := by
  obtain ⟨X, h1, h2, h3, h4⟩ := h
  exact ⟨X, h1, h2.below hb, sl_below h3 hb (Nat.le_refl _), sl_below h4 hb (Nat.le_refl _)⟩
theorem LQ.less {w : World} {B gd gl : Nat} {Y Z : Nat → Prop} {s : DSt} {L : List ByteArray} {vh vm : Value} {has might : List ByteArray} (h : LQ w B Y gd gl s L vh vm has might) (hz : ∀ q, Z q → Y q) : LQ w B Z gd gl s L vh vm has might := by
  obtain ⟨X, h1, h2, h3, h4⟩ := h
  exact ⟨X, fun q a => h1 q (hz q a), h2, h3, h4⟩
theorem LQ.lists {w w' : World} {B gd gl : Nat} {Y : Nat → Prop} {s : DSt} {L : List ByteArray} {vh vm vh' vm' : Value} {has might has' might' : List ByteArray} (h : LQ w B Y gd gl s L vh vm has might) (hb : Below w.heap.size w w')
    (h1 : (vh' = vh ∧ has' = has) ∨ Sl w' (fun k => w.heap.size ≤ k) 9 1 vh' has'.length (strCells has')) (h2 : (vm' = vm ∧ might' = might) ∨ Sl w' (fun k => w.heap.size ≤ k) 9 1 vm' might'.length (strCells might')) : LQ w' B Y gd gl s L vh' vm' has' might' := by
  obtain ⟨X, g1, g2, g3, g4⟩ := h
  refine ⟨fun q => X q ∨ (w.heap.size ≤ q ∧ q < w'.heap.size), fun q a => .inl (g1 q a), g2.extend hb (fun q hq a => a.resolve_right (by omega)) (fun q a => ?_), ?_, ?_⟩
  · rcases a with a | a
    · exact Nat.lt_of_lt_of_le (g2.1 q a) hb.size
    · exact a.2
  · rcases h1 with ⟨rfl, rfl⟩ | h1
    · exact (sl_below g3 hb (Nat.le_refl _)).mono fun k _ a => .inl a
    · exact h1.mono fun k hk a => .inr ⟨a, hk⟩
  · rcases h2 with ⟨rfl, rfl⟩ | h2
    · exact (sl_below g4 hb (Nat.le_refl _)).mono fun k _ a => .inl a
    · exact h2.mono fun k hk a => .inr ⟨a, hk⟩
theorem LP.toLQ {w : World} {B gd gl : Nat} {Y : Nat → Prop} {s : DSt} {vh vm : Value} {has might : List ByteArray} (h : LP w B Y gd gl s vh vm has might) : LQ w B Y gd gl s has vh vm has might := h
theorem LQ.toLP {w : World} {B gd gl : Nat} {Y : Nat → Prop} {s : DSt} {vh vm : Value} {has might : List ByteArray} (h : LQ w B Y gd gl s has vh vm has might) : LP w B Y gd gl s vh vm has might := h
theorem LQ.lt {w : World} {B gd gl : Nat} {Y : Nat → Prop} {s : DSt} {L : List ByteArray} {vh vm : Value} {has might : List ByteArray} (h : LQ w B Y gd gl s L vh vm has might) : ∀ q, Y q → q < w.heap.size := by
  obtain ⟨X, g1, g2, _⟩ := h
  exact fun q a => g2.1 q (g1 q a)
theorem LQ.disk {w : World} {B gd gl : Nat} {Y : Nat → Prop} {s : DSt} {L : List ByteArray} {vh vm : Value} {has might : List ByteArray} (h : LQ w B Y gd gl s L vh vm has might) (hB : B ≤ w.heap.size) : ∃ F : Nat → Prop, DiskAt w F gd s ∧ (∀ q, Y q → ¬ F q) ∧ (∀ q, F q → B ≤ q) ∧
    ∀ (w' : World) (s' : DSt), DiskAt w' (fun k => (F k ∧ k < w.heap.size) ∨ w.heap.size ≤ k) gd s' → Chg w w' F → LQ w' B Y gd gl s' L vh vm has might := by
  obtain ⟨X, g1, g2, g3, g4⟩ := h
  obtain ⟨F, d1, d2, d3, _, d5⟩ := g2.disk hB
  exact ⟨F, d1, fun q a => d2 q (g1 q a), d3, fun w' s' hd hc => ⟨X, g1, d5 w' s' hd hc, g3.chg hc (fun k a => d2 k a), g4.chg hc (fun k a => d2 k a)⟩⟩
theorem LQ.log {w : World} {B gd gl : Nat} {Y : Nat → Prop} {s : DSt} {L : List ByteArray} {vh vm : Value} {has might : List ByteArray} (h : LQ w B Y gd gl s L vh vm has might) (hB : B ≤ w.heap.size) : ∃ FL, LogAt w FL gl gd L := by
  obtain ⟨X, g1, g2, g3, g4⟩ := h
  obtain ⟨FL, d1, _⟩ := g2.log hB
  exact ⟨FL, d1⟩
theorem LQ.appC {w : World} {B gd gl : Nat} {Y : Nat → Prop} {s : DSt} {L : List ByteArray} {vh vm : Value} {has might : List ByteArray} (h : LQ w B Y gd gl s L vh vm has might) (N : Nat) (x : ByteArray) (ok : DOk N s) (hN : N ≤ 50000) (hl : L.length ≤ 100000) (hx : x.size ≤ 100000) (hB : B ≤ w.heap.size) :
    Calls Try.prog 47 #[.pointer (some ⟨gl, 0, none⟩), .string x] w fun e w' => e = .returned (.int .i64 (appD s x).1) ∧ Below B w w' ∧ (∀ q, Y q → w'.heap[q]? = w.heap[q]?) ∧ LQ w' B Y gd gl (appD s x).2 (if (appD s x).1 = 0 then L ++ [x] else L) vh vm has might := by
  obtain ⟨X, g1, g2, g3, g4⟩ := h
  exact (append_log B N gd gl X s L w x g2 ok hN hl hx hB).mono fun e w' ⟨a, b, c⟩ => ⟨a, c.below hB (fun i hi q => by omega), fun q hq => c.block q (g2.1 q (g1 q hq)) (fun a => a.2 (g1 q hq)), X, g1, b, g3.chg c (fun k a q => q.2 a), g4.chg c (fun k a q => q.2 a)⟩
theorem LQ.crashC {w : World} {B gd gl : Nat} {Y : Nat → Prop} {s : DSt} {L : List ByteArray} {vh vm : Value} {has might : List ByteArray} (h : LQ w B Y gd gl s L vh vm has might) (N : Nat) (ok : DOk N s) (hN : N ≤ 100000) (hB : B ≤ w.heap.size) (keep : List Bool) (ko : Option Addr) (kcap : Nat) (cut : Int) (hk : BoolsAt w ko keep) (hkn : keep.length ≤ 100000) :
    Calls Try.prog 33 #[.pointer (some ⟨gd, 0, none⟩), .agg #[.slice ko keep.length kcap, .int .i64 cut]] w fun e w' => e = .returned (.tuple #[]) ∧ Below B w w' ∧ (∀ q, Y q → w'.heap[q]? = w.heap[q]?) ∧ LQ w' B Y gd gl (s.crash keep cut) L vh vm has might := by
  have hlt := h.lt
  obtain ⟨F, hd, hY, hF, ht⟩ := h.disk hB
  exact (crash_any gd N s F w keep ko kcap cut hd ok hN hk hkn).mono fun e w' ⟨a, b, cc⟩ => ⟨a, cc.below hB (fun i hi a => by have := hF i a; omega), fun q hq => cc.block q (hlt q hq) (hY q hq), ht w' _ b cc⟩
theorem LQ.fuseC {w : World} {B gd gl : Nat} {Y : Nat → Prop} {s : DSt} {L : List ByteArray} {vh vm : Value} {has might : List ByteArray} (h : LQ w B Y gd gl s L vh vm has might) (hB : B ≤ w.heap.size) (n : Int) :
    Calls Try.prog 32 #[.pointer (some ⟨gd, 0, none⟩), .int .i64 n] w fun e w' => e = .returned (.tuple #[]) ∧ Below B w w' ∧ (∀ q, Y q → w'.heap[q]? = w.heap[q]?) ∧ LQ w' B Y gd gl (s.fuse n) L vh vm has might := by
  have hlt := h.lt
  obtain ⟨F, hd, hY, hF, ht⟩ := h.disk hB
  exact (fuse_any gd s F w n hd).mono fun e w' ⟨a, b, cc⟩ => ⟨a, cc.below hB (fun i hi a => by have := hF i a; omega), fun q hq => cc.block q (hlt q hq) (hY q hq), ht w' _ (b.mono fun q _ hq => by
    by_cases hqq : q < w.heap.size
    · exact .inl ⟨hq, hqq⟩
    · exact .inr (by omega)) cc⟩
theorem LQ.openC {w : World} {B gd gl : Nat} {Y : Nat → Prop} {s : DSt} {L : List ByteArray} {vh vm : Value} {has might : List ByteArray} (h : LQ w B Y gd gl s L vh vm has might) (N : Nat) (ok : DOk N s) (hN : N ≤ 100000) (hl : s.all.length ≤ 1000000) (hB : B ≤ w.heap.size) (s' : DSt) (code : Int) (ho : openD s = (code, s')) (got : List ByteArray) (hg : recsOf s.bytes = got) :
    Calls Try.prog 46 #[.pointer (some ⟨gd, 0, none⟩)] w fun e w' => ∃ v, e = .returned (.tuple #[v, .int .i64 code]) ∧ Below B w w' ∧ (∀ q, Y q → w'.heap[q]? = w.heap[q]?) ∧ (code = 0 → ∃ g2, v = .pointer (some ⟨g2, 0, none⟩) ∧ LQ w' B Y gd g2 s' got vh vm has might) ∧ (code ≠ 0 → LQ w' B Y gd gl s' L vh vm has might) := by
  have hlt := h.lt
  obtain ⟨X, g1, g2, g3, g4⟩ := h
  obtain ⟨F, d1, d2, d3, _, d5⟩ := g2.disk hB
  refine (open_log B N gd X F s w d1 ok hN hl (fun k a => ⟨d3 k a, fun b => d2 k b a⟩) g2.1 hB).mono ?_
  rintro e w' ⟨v, he, cc, hd, h0, h1⟩
  rw [ho] at he hd h0 h1
  rw [hg] at h0
  have k3 := g3.chg cc (fun k a => d2 k a)
  have k4 := g4.chg cc (fun k a => d2 k a)
  refine ⟨v, he, cc.below hB (fun i hi a => by have := d3 i a; omega), fun q hq => cc.block q (hlt q hq) (d2 q (g1 q hq)), fun hc => ?_, fun hc => ⟨X, g1, d5 w' _ hd cc, k3, k4⟩⟩
  obtain ⟨gl', e1, e2⟩ := h0 hc
  exact ⟨gl', e1, X, g1, e2, k3, k4⟩
theorem strs_of {w : World} {X : Nat → Prop} {a : Option Addr} {n c : Nat} {l : List ByteArray} (h : Sl w X 9 1 (.slice a n c) l.length (strCells l)) (hn : l.length = n) : StrsAt w a l := by
  subst hn
  exact h.strs
/-- where the law's loop stands -/
def PlayRel (w : World) (c : Int) (gd : Nat) (tx th tm tz : Value) (wr : World) : Prop :=
  ∃ (gl sz hn mn hcp mcp : Nat) (ha ma : Option Addr) (s : DSt) (has might : List ByteArray), tx = .pointer (some ⟨gl, 0, none⟩) ∧ th = .slice ha hn hcp ∧ tm = .slice ma mn mcp ∧ tz = .int .i64 sz ∧ Hid (has.length = hn ∧ might.length = mn ∧ (bytesL has).length = sz) ∧ Hid (PlayInv c s has might) ∧
    Hid (LQ wr w.heap.size (fun _ => False) gd gl s has (.slice ha hn hcp) (.slice ma mn mcp) has might) ∧ Hid (Below w.heap.size w wr)
/-- .. and the loop that opens the log again -/
def ReRel (w : World) (c : Int) (gd X : Nat) (O : Obj) (keep : List Bool) (cut : Int) (vh vm : Value) (has might got : List ByteArray) (k : Nat) (ty tf : Value) (wr : World) : Prop :=
  Hid (Below w.heap.size w wr) ∧ Hid (wr.heap[X]? = some O) ∧
  ((tf = .int .i64 0 ∧ ∃ (g2 : Nat) (s4 : DSt), ty = .pointer (some ⟨g2, 0, none⟩) ∧ Hid (s4.fuse (-1) = stClean c got) ∧ Hid (LQ wr w.heap.size (fun q => q = X) gd g2 s4 got vh vm has might)) ∨
   (tf = .int .i64 8 ∧ k = 1 ∧ ∃ (gl : Nat) (s2 : DSt), Hid (LQ wr w.heap.size (fun q => q = X) gd gl s2 has vh vm has might) ∧ Hid (DOk 1 s2 ∧ DOk 1 (s2.crash keep cut) ∧ (s2.crash keep cut).all.length ≤ 1000000 ∧ recsOf (s2.crash keep cut).bytes = got ∧ openD (s2.crash keep cut) = (0, stClean c got))))

end Go.Proofs.Ytpnmhpkpkejdiaa
