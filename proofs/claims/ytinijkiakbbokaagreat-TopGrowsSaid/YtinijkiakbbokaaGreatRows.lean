/-
  No cell of these rows narrows 'for every input' (looked for: loops, veiled, ifaces, maps, wideKeys, modest, calm, conditions, laid).
  DERIVED. THE GIVEN ROWS OF THIS SEAT. 3 by the template 'for every input the law returns true; each argument reads behind the call as it read before'; 0 by the template 'total and deterministic' (their statements: YtinijkiakbbokaaGreatTotals.lean).
  GIVEN WITH THE SEED: the statements are not yours to turn. If you find one false, say at which input.
  Laid BY PROGRAM, IN A SANDBOX (cutbox-rows.mjs): the forced cells as the released guide's own fill.sh prints them over the translation 5374c40333453a2d… (all of the seat's roots in one cut). By AI agents, Wed Nov 11 2026. No macro, syntax, notation, axiom, sorry.
-/
import Derived.Test.YtinijkiakbbokaaGreatChecked
import GoSem.Claim
import GoSem.ClaimJoined
import GoSem.ClaimMapViews
import Derived.JoinedTies
import Derived.KernelRfl
namespace Go.Proofs.YtinijkiakbbokaaGreat
/- THE CELL 'sum', in the pinned program and in every row, IS THE sha256 OF THE DUMP (.gsa) THAT YtinijkiakbbokaaGreatProg.lean LOADS. Nothing in Lean hashes anything: it is a label: what it is worth is what the hold of that sum in a sandbox is worth. -/
noncomputable def Tryz.pinned : Pinned := { name := "ytinijkiakbbokaagreat", sum := "5374c40333453a2de622c0bbf0febcaa74a1acd0ad840e5dcc328980490e45da", checked := Tryz.checked }
namespace Rows
def none {H : Type} : Left H := { results := [], args := [] }

/-- 'forebaytop.TopUpgrade': WHATEVER THE INPUT: true; the input reads as it did. -/
def topUpgradeSpec : ChangeSpec := { name := "topUpgrade", fn := fun _ => fun
  | [d1, d2, d3] => { results := [.lit (.bool true)], args := [d1, d2, d3] }
  | _ => none }
def topUpgradeRow : OpenClaim := { program := "ytinijkiakbbokaagreat", sum := "5374c40333453a2de622c0bbf0febcaa74a1acd0ad840e5dcc328980490e45da", func := "forebay/forebaytop.TopUpgrade", spec := "topUpgrade", inPlace := ["internal/abi.NoEscape", "internal/bytealg.MakeNoZero"], unfollowed := true, recurses := true, plainKeys := false, apart := false }
def TopUpgradeSaid : Prop := topUpgradeRow.holds Tryz.pinned (OpenSpec.ofChange topUpgradeSpec)

/-- ITS FALSE NEIGHBOUR: 'it returns false'. Refute it at one input. -/
def topUpgradeWrong : ChangeSpec := { name := "topUpgrade", fn := fun _ => fun
  | [d1, d2, d3] => { results := [.lit (.bool false)], args := [d1, d2, d3] }
  | _ => none }
def TopUpgradeWrongFalsely : Prop := topUpgradeRow.holds Tryz.pinned (OpenSpec.ofChange topUpgradeWrong)

/-- 'forebaytop.TopGrows': WHATEVER THE INPUT: true; the input reads as it did. -/
def topGrowsSpec : ChangeSpec := { name := "topGrows", fn := fun _ => fun
  | [d1, d2, d3] => { results := [.lit (.bool true)], args := [d1, d2, d3] }
  | _ => none }
def topGrowsRow : OpenClaim := { program := "ytinijkiakbbokaagreat", sum := "5374c40333453a2de622c0bbf0febcaa74a1acd0ad840e5dcc328980490e45da", func := "forebay/forebaytop.TopGrows", spec := "topGrows", inPlace := ["internal/abi.NoEscape", "internal/bytealg.MakeNoZero", "slices.overlaps[forebay/wire.Packet]"], unfollowed := true, recurses := true, plainKeys := false, apart := false }
def TopGrowsSaid : Prop := topGrowsRow.holds Tryz.pinned (OpenSpec.ofChange topGrowsSpec)

/-- ITS FALSE NEIGHBOUR: 'it returns false'. Refute it at one input. -/
def topGrowsWrong : ChangeSpec := { name := "topGrows", fn := fun _ => fun
  | [d1, d2, d3] => { results := [.lit (.bool false)], args := [d1, d2, d3] }
  | _ => none }
def TopGrowsWrongFalsely : Prop := topGrowsRow.holds Tryz.pinned (OpenSpec.ofChange topGrowsWrong)

/-- 'forebaytop.TopAtomic': WHATEVER THE INPUT: true; the input reads as it did. -/
def topAtomicSpec : ChangeSpec := { name := "topAtomic", fn := fun _ => fun
  | [d1, d2, d3] => { results := [.lit (.bool true)], args := [d1, d2, d3] }
  | _ => none }
def topAtomicRow : OpenClaim := { program := "ytinijkiakbbokaagreat", sum := "5374c40333453a2de622c0bbf0febcaa74a1acd0ad840e5dcc328980490e45da", func := "forebay/forebaytop.TopAtomic", spec := "topAtomic", inPlace := ["internal/abi.NoEscape", "internal/bytealg.MakeNoZero"], unfollowed := true, recurses := true, plainKeys := false, apart := false }
def TopAtomicSaid : Prop := topAtomicRow.holds Tryz.pinned (OpenSpec.ofChange topAtomicSpec)

/-- ITS FALSE NEIGHBOUR: 'it returns false'. Refute it at one input. -/
def topAtomicWrong : ChangeSpec := { name := "topAtomic", fn := fun _ => fun
  | [d1, d2, d3] => { results := [.lit (.bool false)], args := [d1, d2, d3] }
  | _ => none }
def TopAtomicWrongFalsely : Prop := topAtomicRow.holds Tryz.pinned (OpenSpec.ofChange topAtomicWrong)

/- THE SECOND FORM. 'bulk': how many values and letters a reading holds, each counted each time it is reached (what is shared counts as often as it is met; a slice's spare places count too). A statement '..UptoSaid' is the law's where the arguments, and the package variables that the reading takes, are together of bulk at most 1048576: NARROWER than '..Said'. Prove '..Said' where nothing that the law and all that it calls make is longer than what came in: it says more and counts as full. Else prove '..UptoSaid'. A law counts once. -/
mutual
def uptoBulk {H : Type} : DataW H → Nat
  | .lit (.string bytes) => bytes.length + 1
  | .lit _ => 1
  | .nil => 1
  | .ptr d => uptoBulk d + 1
  | .slice elems spare => uptoBulkAll elems + uptoBulkAll spare + 1
  | .agg parts => uptoBulkAll parts + 1
  | .iface _ d => uptoBulk d + 1
  | .map entries => uptoBulkEntries entries + 1
  | .held _ => 1
def uptoBulkAll {H : Type} : List (DataW H) → Nat
  | [] => 0
  | d :: r => uptoBulk d + uptoBulkAll r
def uptoBulkEntries {H : Type} : List (Lit × DataW H) → Nat
  | [] => 0
  | x :: r => uptoBulkEntry x + uptoBulkEntries r
def uptoBulkEntry {H : Type} : Lit × DataW H → Nat
  | (.string bytes, d) => bytes.length + uptoBulk d + 1
  | (_, d) => uptoBulk d + 1
 end
def uptoSmall : (H : Type) → List (DataW H) → Bool := fun _ ds => decide (uptoBulkAll ds ≤ 1048576)
def OpenSpec.upto (s : _root_.Go.ChangeSpec) : _root_.Go.OpenSpec := { _root_.Go.OpenSpec.ofChange s with cond := some uptoSmall }

/-- 'forebaytop.TopUpgrade', WHERE WHAT IT READS IS OF BULK AT MOST 1048576: true; the input reads as it did. -/
def topUpgradeUptoRow : OpenClaim := { program := "ytinijkiakbbokaagreat", sum := "5374c40333453a2de622c0bbf0febcaa74a1acd0ad840e5dcc328980490e45da", func := "forebay/forebaytop.TopUpgrade", spec := "topUpgrade", inPlace := ["internal/abi.NoEscape", "internal/bytealg.MakeNoZero"], unfollowed := true, recurses := true, plainKeys := false, apart := false, narrowed := true }
def TopUpgradeUptoSaid : Prop := topUpgradeUptoRow.holds Tryz.pinned (OpenSpec.upto topUpgradeSpec)

/-- 'forebaytop.TopGrows', WHERE WHAT IT READS IS OF BULK AT MOST 1048576: true; the input reads as it did. -/
def topGrowsUptoRow : OpenClaim := { program := "ytinijkiakbbokaagreat", sum := "5374c40333453a2de622c0bbf0febcaa74a1acd0ad840e5dcc328980490e45da", func := "forebay/forebaytop.TopGrows", spec := "topGrows", inPlace := ["internal/abi.NoEscape", "internal/bytealg.MakeNoZero", "slices.overlaps[forebay/wire.Packet]"], unfollowed := true, recurses := true, plainKeys := false, apart := false, narrowed := true }
def TopGrowsUptoSaid : Prop := topGrowsUptoRow.holds Tryz.pinned (OpenSpec.upto topGrowsSpec)

/-- 'forebaytop.TopAtomic', WHERE WHAT IT READS IS OF BULK AT MOST 1048576: true; the input reads as it did. -/
def topAtomicUptoRow : OpenClaim := { program := "ytinijkiakbbokaagreat", sum := "5374c40333453a2de622c0bbf0febcaa74a1acd0ad840e5dcc328980490e45da", func := "forebay/forebaytop.TopAtomic", spec := "topAtomic", inPlace := ["internal/abi.NoEscape", "internal/bytealg.MakeNoZero"], unfollowed := true, recurses := true, plainKeys := false, apart := false, narrowed := true }
def TopAtomicUptoSaid : Prop := topAtomicUptoRow.holds Tryz.pinned (OpenSpec.upto topAtomicSpec)

end Rows
end Go.Proofs.YtinijkiakbbokaaGreat
