/-
  No cell of these rows narrows 'for every input' (looked for: loops, veiled, ifaces, maps, wideKeys, modest, calm, conditions, laid).
  DERIVED. THE GIVEN ROWS OF THIS SEAT. 8 by the template 'for every input the law returns true; each argument reads behind the call as it read before'; 0 by the template 'total and deterministic' (their statements: YtecpgkcoehnpbaaTotals.lean).
  GIVEN WITH THE SEED: the statements are not yours to turn. If you find one false, say at which input.
  Laid BY PROGRAM, IN A SANDBOX (cutbox-rows.mjs): the forced cells as the released guide's own fill.sh prints them over the translation 7b1e10f865b6a94d… (all of the seat's roots in one cut). By AI agents, Wed Nov 11 2026. No macro, syntax, notation, axiom, sorry.
-/
import Derived.Test.YtecpgkcoehnpbaaChecked
import GoSem.Claim
import GoSem.ClaimJoined
import GoSem.ClaimMapViews
import Derived.JoinedTies
import Derived.KernelRfl
namespace Go.Proofs.Ytecpgkcoehnpbaa
/- THE CELL 'sum', in the pinned program and in every row, IS THE sha256 OF THE DUMP (.gsa) THAT YtecpgkcoehnpbaaProg.lean LOADS. Nothing in Lean hashes anything: it is a label: what it is worth is what the hold of that sum in a sandbox is worth. -/
noncomputable def Try.pinned : Pinned := { name := "ytecpgkcoehnpbaa", sum := "7b1e10f865b6a94d3f6167b63d3db0e341795f70416ce0a9e8ae9bf39dbbccc5", checked := Try.checked }
namespace Rows
def none {H : Type} : Left H := { results := [], args := [] }

/-- 'forebaylaw17.LinkNone': WHATEVER THE INPUT: true; the input reads as it did. -/
def linkNoneSpec : ChangeSpec := { name := "linkNone", fn := fun _ => fun
  | [d1, d2] => { results := [.lit (.bool true)], args := [d1, d2] }
  | _ => none }
def linkNoneRow : OpenClaim := { program := "ytecpgkcoehnpbaa", sum := "7b1e10f865b6a94d3f6167b63d3db0e341795f70416ce0a9e8ae9bf39dbbccc5", func := "forebay/forebaylaw17.LinkNone", spec := "linkNone", plainKeys := false, apart := false }
def LinkNoneSaid : Prop := linkNoneRow.holds Try.pinned (OpenSpec.ofChange linkNoneSpec)

/-- ITS FALSE NEIGHBOUR: 'it returns false'. Refute it at one input. -/
def linkNoneWrong : ChangeSpec := { name := "linkNone", fn := fun _ => fun
  | [d1, d2] => { results := [.lit (.bool false)], args := [d1, d2] }
  | _ => none }
def LinkNoneWrongFalsely : Prop := linkNoneRow.holds Try.pinned (OpenSpec.ofChange linkNoneWrong)

/-- 'forebaylaw16.WireKeeps': WHATEVER THE INPUT: true; the input reads as it did. -/
def wireKeepsSpec : ChangeSpec := { name := "wireKeeps", fn := fun _ => fun
  | [d1, d2] => { results := [.lit (.bool true)], args := [d1, d2] }
  | _ => none }
def wireKeepsRow : OpenClaim := { program := "ytecpgkcoehnpbaa", sum := "7b1e10f865b6a94d3f6167b63d3db0e341795f70416ce0a9e8ae9bf39dbbccc5", func := "forebay/forebaylaw16.WireKeeps", spec := "wireKeeps", inPlace := ["slices.overlaps[forebay/wire.Packet]"], plainKeys := false, apart := false }
def WireKeepsSaid : Prop := wireKeepsRow.holds Try.pinned (OpenSpec.ofChange wireKeepsSpec)

/-- ITS FALSE NEIGHBOUR: 'it returns false'. Refute it at one input. -/
def wireKeepsWrong : ChangeSpec := { name := "wireKeeps", fn := fun _ => fun
  | [d1, d2] => { results := [.lit (.bool false)], args := [d1, d2] }
  | _ => none }
def WireKeepsWrongFalsely : Prop := wireKeepsRow.holds Try.pinned (OpenSpec.ofChange wireKeepsWrong)

/-- 'forebaylaw16.WireOrder': WHATEVER THE INPUT: true; the input reads as it did. -/
def wireOrderSpec : ChangeSpec := { name := "wireOrder", fn := fun _ => fun
  | [d1, d2] => { results := [.lit (.bool true)], args := [d1, d2] }
  | _ => none }
def wireOrderRow : OpenClaim := { program := "ytecpgkcoehnpbaa", sum := "7b1e10f865b6a94d3f6167b63d3db0e341795f70416ce0a9e8ae9bf39dbbccc5", func := "forebay/forebaylaw16.WireOrder", spec := "wireOrder", inPlace := ["slices.overlaps[forebay/wire.Packet]"], plainKeys := false, apart := false }
def WireOrderSaid : Prop := wireOrderRow.holds Try.pinned (OpenSpec.ofChange wireOrderSpec)

/-- ITS FALSE NEIGHBOUR: 'it returns false'. Refute it at one input. -/
def wireOrderWrong : ChangeSpec := { name := "wireOrder", fn := fun _ => fun
  | [d1, d2] => { results := [.lit (.bool false)], args := [d1, d2] }
  | _ => none }
def WireOrderWrongFalsely : Prop := wireOrderRow.holds Try.pinned (OpenSpec.ofChange wireOrderWrong)

/-- 'forebaylaw16.WirePlays': WHATEVER THE INPUT: true; the input reads as it did. -/
def wirePlaysSpec : ChangeSpec := { name := "wirePlays", fn := fun _ => fun
  | [d] => { results := [.lit (.bool true)], args := [d] }
  | _ => none }
def wirePlaysRow : OpenClaim := { program := "ytecpgkcoehnpbaa", sum := "7b1e10f865b6a94d3f6167b63d3db0e341795f70416ce0a9e8ae9bf39dbbccc5", func := "forebay/forebaylaw16.WirePlays", spec := "wirePlays", inPlace := ["slices.overlaps[forebay/wire.Packet]"], plainKeys := false, apart := false }
def WirePlaysSaid : Prop := wirePlaysRow.holds Try.pinned (OpenSpec.ofChange wirePlaysSpec)

/-- ITS FALSE NEIGHBOUR: 'it returns false'. Refute it at one input. -/
def wirePlaysWrong : ChangeSpec := { name := "wirePlays", fn := fun _ => fun
  | [d] => { results := [.lit (.bool false)], args := [d] }
  | _ => none }
def WirePlaysWrongFalsely : Prop := wirePlaysRow.holds Try.pinned (OpenSpec.ofChange wirePlaysWrong)

/-- 'forebaylaw16.WireNone': WHATEVER THE INPUT: true; the input reads as it did. -/
def wireNoneSpec : ChangeSpec := { name := "wireNone", fn := fun _ => fun
  | [d1, d2] => { results := [.lit (.bool true)], args := [d1, d2] }
  | _ => none }
def wireNoneRow : OpenClaim := { program := "ytecpgkcoehnpbaa", sum := "7b1e10f865b6a94d3f6167b63d3db0e341795f70416ce0a9e8ae9bf39dbbccc5", func := "forebay/forebaylaw16.WireNone", spec := "wireNone", inPlace := ["slices.overlaps[forebay/wire.Packet]"], plainKeys := false, apart := false }
def WireNoneSaid : Prop := wireNoneRow.holds Try.pinned (OpenSpec.ofChange wireNoneSpec)

/-- ITS FALSE NEIGHBOUR: 'it returns false'. Refute it at one input. -/
def wireNoneWrong : ChangeSpec := { name := "wireNone", fn := fun _ => fun
  | [d1, d2] => { results := [.lit (.bool false)], args := [d1, d2] }
  | _ => none }
def WireNoneWrongFalsely : Prop := wireNoneRow.holds Try.pinned (OpenSpec.ofChange wireNoneWrong)

/-- 'forebaylaw17.LinkSafe': WHATEVER THE INPUT: true; the input reads as it did. -/
def linkSafeSpec : ChangeSpec := { name := "linkSafe", fn := fun _ => fun
  | [d1, d2, d3] => { results := [.lit (.bool true)], args := [d1, d2, d3] }
  | _ => none }
def linkSafeRow : OpenClaim := { program := "ytecpgkcoehnpbaa", sum := "7b1e10f865b6a94d3f6167b63d3db0e341795f70416ce0a9e8ae9bf39dbbccc5", func := "forebay/forebaylaw17.LinkSafe", spec := "linkSafe", inPlace := ["slices.overlaps[forebay/wire.Packet]"], plainKeys := false, apart := false }
def LinkSafeSaid : Prop := linkSafeRow.holds Try.pinned (OpenSpec.ofChange linkSafeSpec)

/-- ITS FALSE NEIGHBOUR: 'it returns false'. Refute it at one input. -/
def linkSafeWrong : ChangeSpec := { name := "linkSafe", fn := fun _ => fun
  | [d1, d2, d3] => { results := [.lit (.bool false)], args := [d1, d2, d3] }
  | _ => none }
def LinkSafeWrongFalsely : Prop := linkSafeRow.holds Try.pinned (OpenSpec.ofChange linkSafeWrong)

/-- 'forebaylaw17.LinkStale': WHATEVER THE INPUT: true; the input reads as it did. -/
def linkStaleSpec : ChangeSpec := { name := "linkStale", fn := fun _ => fun
  | [d1, d2] => { results := [.lit (.bool true)], args := [d1, d2] }
  | _ => none }
def linkStaleRow : OpenClaim := { program := "ytecpgkcoehnpbaa", sum := "7b1e10f865b6a94d3f6167b63d3db0e341795f70416ce0a9e8ae9bf39dbbccc5", func := "forebay/forebaylaw17.LinkStale", spec := "linkStale", inPlace := ["slices.overlaps[forebay/wire.Packet]"], plainKeys := false, apart := false }
def LinkStaleSaid : Prop := linkStaleRow.holds Try.pinned (OpenSpec.ofChange linkStaleSpec)

/-- ITS FALSE NEIGHBOUR: 'it returns false'. Refute it at one input. -/
def linkStaleWrong : ChangeSpec := { name := "linkStale", fn := fun _ => fun
  | [d1, d2] => { results := [.lit (.bool false)], args := [d1, d2] }
  | _ => none }
def LinkStaleWrongFalsely : Prop := linkStaleRow.holds Try.pinned (OpenSpec.ofChange linkStaleWrong)

/-- 'forebaylaw17.LinkAll': WHATEVER THE INPUT: true; the input reads as it did. -/
def linkAllSpec : ChangeSpec := { name := "linkAll", fn := fun _ => fun
  | [d1, d2] => { results := [.lit (.bool true)], args := [d1, d2] }
  | _ => none }
def linkAllRow : OpenClaim := { program := "ytecpgkcoehnpbaa", sum := "7b1e10f865b6a94d3f6167b63d3db0e341795f70416ce0a9e8ae9bf39dbbccc5", func := "forebay/forebaylaw17.LinkAll", spec := "linkAll", inPlace := ["slices.overlaps[forebay/wire.Packet]"], plainKeys := false, apart := false }
def LinkAllSaid : Prop := linkAllRow.holds Try.pinned (OpenSpec.ofChange linkAllSpec)

/-- ITS FALSE NEIGHBOUR: 'it returns false'. Refute it at one input. -/
def linkAllWrong : ChangeSpec := { name := "linkAll", fn := fun _ => fun
  | [d1, d2] => { results := [.lit (.bool false)], args := [d1, d2] }
  | _ => none }
def LinkAllWrongFalsely : Prop := linkAllRow.holds Try.pinned (OpenSpec.ofChange linkAllWrong)

/- THE SECOND FORM. 'bulk': how many values and letters a reading holds, each counted each time it is reached (what is shared counts as often as it is met; a slice's spare places count too). A statement '..UptoSaid' is the law's where the arguments, and the package variables that the reading takes, are together of bulk at most 1048576: NARROWER than '..Said'. Prove '..Said' where nothing that the law and all that it calls make is longer than what came in: it says more and counts as full. Else prove '..UptoSaid'. A law counts once. -/
mutual
def uptoBulk {H : Type} : DataW H → Nat
  | .lit (.string bytes) => bytes.length + 1
  | .lit _ => 1
  | .nil => 1
  | .ptr d => uptoBulk d + 1
  | .slice elems spare => uptoBulkAll elems + uptoBulkAll spare + 1
  | .agg parts => uptoBulkAll parts + 1
  | .iface _ d => uptoBulk d + 1
  | .map entries => uptoBulkEntries entries + 1
  | .held _ => 1
def uptoBulkAll {H : Type} : List (DataW H) → Nat
  | [] => 0
  | d :: r => uptoBulk d + uptoBulkAll r
def uptoBulkEntries {H : Type} : List (Lit × DataW H) → Nat
  | [] => 0
  | x :: r => uptoBulkEntry x + uptoBulkEntries r
def uptoBulkEntry {H : Type} : Lit × DataW H → Nat
  | (.string bytes, d) => bytes.length + uptoBulk d + 1
  | (_, d) => uptoBulk d + 1
 end
def uptoSmall : (H : Type) → List (DataW H) → Bool := fun _ ds => decide (uptoBulkAll ds ≤ 1048576)
def OpenSpec.upto (s : _root_.Go.ChangeSpec) : _root_.Go.OpenSpec := { _root_.Go.OpenSpec.ofChange s with cond := some uptoSmall }

/-- 'forebaylaw17.LinkNone', WHERE WHAT IT READS IS OF BULK AT MOST 1048576: true; the input reads as it did. -/
def linkNoneUptoRow : OpenClaim := { program := "ytecpgkcoehnpbaa", sum := "7b1e10f865b6a94d3f6167b63d3db0e341795f70416ce0a9e8ae9bf39dbbccc5", func := "forebay/forebaylaw17.LinkNone", spec := "linkNone", plainKeys := false, apart := false, narrowed := true }
def LinkNoneUptoSaid : Prop := linkNoneUptoRow.holds Try.pinned (OpenSpec.upto linkNoneSpec)

/-- 'forebaylaw16.WireKeeps', WHERE WHAT IT READS IS OF BULK AT MOST 1048576: true; the input reads as it did. -/
def wireKeepsUptoRow : OpenClaim := { program := "ytecpgkcoehnpbaa", sum := "7b1e10f865b6a94d3f6167b63d3db0e341795f70416ce0a9e8ae9bf39dbbccc5", func := "forebay/forebaylaw16.WireKeeps", spec := "wireKeeps", inPlace := ["slices.overlaps[forebay/wire.Packet]"], plainKeys := false, apart := false, narrowed := true }
def WireKeepsUptoSaid : Prop := wireKeepsUptoRow.holds Try.pinned (OpenSpec.upto wireKeepsSpec)

/-- 'forebaylaw16.WireOrder', WHERE WHAT IT READS IS OF BULK AT MOST 1048576: true; the input reads as it did. -/
def wireOrderUptoRow : OpenClaim := { program := "ytecpgkcoehnpbaa", sum := "7b1e10f865b6a94d3f6167b63d3db0e341795f70416ce0a9e8ae9bf39dbbccc5", func := "forebay/forebaylaw16.WireOrder", spec := "wireOrder", inPlace := ["slices.overlaps[forebay/wire.Packet]"], plainKeys := false, apart := false, narrowed := true }
def WireOrderUptoSaid : Prop := wireOrderUptoRow.holds Try.pinned (OpenSpec.upto wireOrderSpec)

/-- 'forebaylaw16.WirePlays', WHERE WHAT IT READS IS OF BULK AT MOST 1048576: true; the input reads as it did. -/
def wirePlaysUptoRow : OpenClaim := { program := "ytecpgkcoehnpbaa", sum := "7b1e10f865b6a94d3f6167b63d3db0e341795f70416ce0a9e8ae9bf39dbbccc5", func := "forebay/forebaylaw16.WirePlays", spec := "wirePlays", inPlace := ["slices.overlaps[forebay/wire.Packet]"], plainKeys := false, apart := false, narrowed := true }
def WirePlaysUptoSaid : Prop := wirePlaysUptoRow.holds Try.pinned (OpenSpec.upto wirePlaysSpec)

/-- 'forebaylaw16.WireNone', WHERE WHAT IT READS IS OF BULK AT MOST 1048576: true; the input reads as it did. -/
def wireNoneUptoRow : OpenClaim := { program := "ytecpgkcoehnpbaa", sum := "7b1e10f865b6a94d3f6167b63d3db0e341795f70416ce0a9e8ae9bf39dbbccc5", func := "forebay/forebaylaw16.WireNone", spec := "wireNone", inPlace := ["slices.overlaps[forebay/wire.Packet]"], plainKeys := false, apart := false, narrowed := true }
def WireNoneUptoSaid : Prop := wireNoneUptoRow.holds Try.pinned (OpenSpec.upto wireNoneSpec)

/-- 'forebaylaw17.LinkSafe', WHERE WHAT IT READS IS OF BULK AT MOST 1048576: true; the input reads as it did. -/
def linkSafeUptoRow : OpenClaim := { program := "ytecpgkcoehnpbaa", sum := "7b1e10f865b6a94d3f6167b63d3db0e341795f70416ce0a9e8ae9bf39dbbccc5", func := "forebay/forebaylaw17.LinkSafe", spec := "linkSafe", inPlace := ["slices.overlaps[forebay/wire.Packet]"], plainKeys := false, apart := false, narrowed := true }
def LinkSafeUptoSaid : Prop := linkSafeUptoRow.holds Try.pinned (OpenSpec.upto linkSafeSpec)

/-- 'forebaylaw17.LinkStale', WHERE WHAT IT READS IS OF BULK AT MOST 1048576: true; the input reads as it did. -/
def linkStaleUptoRow : OpenClaim := { program := "ytecpgkcoehnpbaa", sum := "7b1e10f865b6a94d3f6167b63d3db0e341795f70416ce0a9e8ae9bf39dbbccc5", func := "forebay/forebaylaw17.LinkStale", spec := "linkStale", inPlace := ["slices.overlaps[forebay/wire.Packet]"], plainKeys := false, apart := false, narrowed := true }
def LinkStaleUptoSaid : Prop := linkStaleUptoRow.holds Try.pinned (OpenSpec.upto linkStaleSpec)

/-- 'forebaylaw17.LinkAll', WHERE WHAT IT READS IS OF BULK AT MOST 1048576: true; the input reads as it did. -/
def linkAllUptoRow : OpenClaim := { program := "ytecpgkcoehnpbaa", sum := "7b1e10f865b6a94d3f6167b63d3db0e341795f70416ce0a9e8ae9bf39dbbccc5", func := "forebay/forebaylaw17.LinkAll", spec := "linkAll", inPlace := ["slices.overlaps[forebay/wire.Packet]"], plainKeys := false, apart := false, narrowed := true }
def LinkAllUptoSaid : Prop := linkAllUptoRow.holds Try.pinned (OpenSpec.upto linkAllSpec)

end Rows
end Go.Proofs.Ytecpgkcoehnpbaa
