/- A part of the proof of TopGrows. No conditions. -/
import Derived.Test.YtinijkiakbbokaaGreatF1
import Derived.BigQuiet
import Derived.BigRegion
import Derived.Deep.AppendSrc
import Derived.Deep.CutBlock
import Derived.Deep.MidRow
import Derived.Deep.QuietTactic
import Derived.Deep.RegionHeld3
import Derived.Deep.RegionLaw
import Derived.Deep.RegionWith
import Derived.Deep.Slices
import Derived.DeepKeys4
import Derived.Ground.Names2Prog
import Derived.Ground.NamesProg
import Derived.Ground.SlgfProg
import Derived.Ground.SlgnProg
import Derived.Ground.SlsfProg
import Derived.IntWalk
import Derived.JoinedOf
import Derived.KernelRfl
import Derived.Laws.ComplexArith
import Derived.Laws.Concat
import Derived.Laws.CopyRow
import Derived.Laws.IdiomCopy
import Derived.Laws.IdiomRangeMap
import Derived.Laws.IdiomStrings
import Derived.Lib.Hide
import Derived.Lib.Overlaps
import Derived.Lib.QuietBelow
import Derived.Lib.SliceRun
import Derived.OpenShut
import Derived.OrdersHeld
import Derived.ProofKit
import Derived.ScopeJumps
import Derived.Shelf.Bits.Mul64
import Derived.Shelf.RegionOpenPlain
import Derived.Shelf.SlGeneric
import Derived.Shelf.SlLaysF0
import Derived.Shelf.SlSortCmp.InsertionK
import Derived.Shelf.SlSortCmp.NoneTotal
import Derived.Shelf.SlSortCmp.WholeK
import Derived.Shelf.Slices.Clone
import Derived.Shelf.Slices.CompactI
import Derived.Shelf.Slices.Empties2
import Derived.Shelf.Slices.In.SortNone
import Derived.Shelf.Slices.Turned
import Derived.Shelf.SlicesE.Clone
import Derived.Shelf.SlicesE.IndexFunc
import Derived.Shelf.SlicesQ.Equal
import Derived.Shelf.SlicesQ.IndexFunc
import Derived.Shelf.Sort.Plain
import Derived.Shelf.Strings.Builder1
import Derived.Shelf.Strings.Builder2
import Derived.Shelf.Strings.BuilderF
import Derived.Shelf.Strings.OnBuilder
import Derived.Shelf.Strings.Prefix
import Derived.Shelf.Strings.Repeat
import Derived.SizedLaws
import Derived.Sort.LotA
import Derived.StillTailTactics
import Derived.Test.YtinijkiakbbokaaGreatProg
import Derived.Test.YtinijkiakbbokaaGreatRows
import Derived.WalkKit
import Derived.WalkLawsBesides
import Derived.WalkMore
import Derived.WalkSpells
import Derived.WideKeyEntry
set_option linter.all false
set_option maxRecDepth 1000000
set_option maxHeartbeats 16000000
namespace Go.Proofs.YtinijkiakbbokaaGreat
def Go.Sort.Ins.Q:=@Go.Sort.Ins.rest
def Go.Src.O:=@Go.Src.one
def Go.Aside.U:=@Go.Aside.out
def Go.Lib.BuilderAtF.E:=@Go.Lib.BuilderAtF.shape
def Go.Lib.OthersKept.Y:=@Go.Lib.OthersKept.refl
def Go.World.mapTurned.J:=@Go.World.mapTurned.trans
def Go.Lib.BuilderAt.E:=@Go.Lib.BuilderAt.shape
def Go.Lib.OthersKept.J:=@Go.Lib.OthersKept.trans
def Go.World.grownBy.J:=@Go.World.grownBy.trans
end Go.Proofs.YtinijkiakbbokaaGreat
namespace Go.Proofs
open Go.Proofs.YtinijkiakbbokaaGreat
section
open Go.Shelf
def Tryz.asW:Go.Shelf.Ren:=⟨λ|6=>91|n=>n,λ|22=>22|23=>41|25=>164|3=>3|0=>0|4=>4|n=>n,λ|n=>n⟩
theorem Tryz.agP:Go.Proofs.SlLaysH0.n6 Tryz.prog Tryz.asW:={mixed:=kk,f6:=⟨Tryz.f91.name,dd,Tryz.func91.trans (congrArg _ kk)⟩,t0:=Tryz.underlying0,a0:=Tryz.isAgg0,z0:=Tryz.sizeOf0,v0:=Tryz.zeroValue0,t3:=Tryz.underlying3,a3:=Tryz.isAgg3,z3:=Tryz.sizeOf3,v3:=Tryz.zeroValue3,t4:=Tryz.underlying4,a4:=Tryz.isAgg4,z4:=Tryz.sizeOf4,v4:=Tryz.zeroValue4,t22:=Tryz.underlying22,a22:=Tryz.isAgg22,z22:=Tryz.sizeOf22,v22:=Tryz.zeroValue22,t25:=Tryz.underlying164,a25:=Tryz.isAgg164,z25:=Tryz.sizeOf164,v25:=Tryz.zeroValue164}
def Tryz.asX:Go.Shelf.Ren:=⟨λ|8=>249|6=>317|n=>n,λ|22=>57|23=>143|25=>349|4=>4|3=>3|0=>0|n=>n,λ|n=>n⟩
theorem Tryz.agQ:Go.Proofs.SlLaysH0.n8 Tryz.prog Tryz.asX:={mixed:=kk,f6:=⟨Tryz.f317.name,dd,Tryz.func317.trans (congrArg _ kk)⟩,f8:=⟨Tryz.f249.name,dd,Tryz.func249.trans (congrArg _ kk)⟩,t0:=Tryz.underlying0,a0:=Tryz.isAgg0,z0:=Tryz.sizeOf0,v0:=Tryz.zeroValue0,t3:=Tryz.underlying3,a3:=Tryz.isAgg3,z3:=Tryz.sizeOf3,v3:=Tryz.zeroValue3,t4:=Tryz.underlying4,a4:=Tryz.isAgg4,z4:=Tryz.sizeOf4,v4:=Tryz.zeroValue4,t22:=Tryz.underlying57,a22:=Tryz.isAgg57,z22:=Tryz.sizeOf57,v22:=Tryz.zeroValue57,t25:=Tryz.underlying349,a25:=Tryz.isAgg349,z25:=Tryz.sizeOf349,v25:=Tryz.zeroValue349}
def Tryz.asY:Go.Shelf.Ren:=⟨λ|8=>321|6=>360|n=>n,λ|22=>245|23=>305|25=>433|4=>4|3=>3|0=>0|n=>n,λ|n=>n⟩
theorem Tryz.asZ:Go.Proofs.SlLaysH0.n8 Tryz.prog Tryz.asY:={mixed:=kk,f6:=⟨Tryz.f360.name,dd,Tryz.func360.trans (congrArg _ kk)⟩,f8:=⟨Tryz.f321.name,dd,Tryz.func321.trans (congrArg _ kk)⟩,t0:=Tryz.underlying0,a0:=Tryz.isAgg0,z0:=Tryz.sizeOf0,v0:=Tryz.zeroValue0,t3:=Tryz.underlying3,a3:=Tryz.isAgg3,z3:=Tryz.sizeOf3,v3:=Tryz.zeroValue3,t4:=Tryz.underlying4,a4:=Tryz.isAgg4,z4:=Tryz.sizeOf4,v4:=Tryz.zeroValue4,t22:=Tryz.underlying245,a22:=Tryz.isAgg245,z22:=Tryz.sizeOf245,v22:=Tryz.zeroValue245,t25:=Tryz.underlying433,a25:=Tryz.isAgg433,z25:=Tryz.sizeOf433,v25:=Tryz.zeroValue433}
def Tryz.as0:Go.Shelf.Ren:=⟨λ|8=>337|6=>368|n=>n,λ|22=>38|23=>158|25=>273|4=>4|3=>3|0=>0|n=>n,λ|n=>n⟩
theorem Tryz.as1:Go.Proofs.SlLaysH0.n8 Tryz.prog Tryz.as0:={mixed:=kk,f6:=⟨Tryz.f368.name,dd,Tryz.func368.trans (congrArg _ kk)⟩,f8:=⟨Tryz.f337.name,dd,Tryz.func337.trans (congrArg _ kk)⟩,t0:=Tryz.underlying0,a0:=Tryz.isAgg0,z0:=Tryz.sizeOf0,v0:=Tryz.zeroValue0,t3:=Tryz.underlying3,a3:=Tryz.isAgg3,z3:=Tryz.sizeOf3,v3:=Tryz.zeroValue3,t4:=Tryz.underlying4,a4:=Tryz.isAgg4,z4:=Tryz.sizeOf4,v4:=Tryz.zeroValue4,t22:=Tryz.underlying38,a22:=Tryz.isAgg38,z22:=Tryz.sizeOf38,v22:=Tryz.zeroValue38,t25:=Tryz.underlying273,a25:=Tryz.isAgg273,z25:=Tryz.sizeOf273,v25:=Tryz.zeroValue273}
def Tryz.as2:Go.Shelf.Ren:=⟨λ|8=>357|6=>374|n=>n,λ|22=>56|23=>149|25=>464|4=>4|3=>3|0=>0|n=>n,λ|n=>n⟩
theorem Tryz.as3:Go.Proofs.SlLaysH0.n8 Tryz.prog Tryz.as2:={mixed:=kk,f6:=⟨Tryz.f374.name,dd,Tryz.func374.trans (congrArg _ kk)⟩,f8:=⟨Tryz.f357.name,dd,Tryz.func357.trans (congrArg _ kk)⟩,t0:=Tryz.underlying0,a0:=Tryz.isAgg0,z0:=Tryz.sizeOf0,v0:=Tryz.zeroValue0,t3:=Tryz.underlying3,a3:=Tryz.isAgg3,z3:=Tryz.sizeOf3,v3:=Tryz.zeroValue3,t4:=Tryz.underlying4,a4:=Tryz.isAgg4,z4:=Tryz.sizeOf4,v4:=Tryz.zeroValue4,t22:=Tryz.underlying56,a22:=Tryz.isAgg56,z22:=Tryz.sizeOf56,v22:=Tryz.zeroValue56,t25:=Tryz.underlying464,a25:=Tryz.isAgg464,z25:=Tryz.sizeOf464,v25:=Tryz.zeroValue464}
def Tryz.as4:Go.Shelf.Ren:=⟨λ|8=>378|6=>391|n=>n,λ|22=>263|23=>128|25=>256|4=>4|3=>3|0=>0|n=>n,λ|n=>n⟩
theorem Tryz.as5:Go.Proofs.SlLaysH0.n8 Tryz.prog Tryz.as4:={mixed:=kk,f6:=⟨Tryz.f391.name,dd,Tryz.func391.trans (congrArg _ kk)⟩,f8:=⟨Tryz.f378.name,dd,Tryz.func378.trans (congrArg _ kk)⟩,t0:=Tryz.underlying0,a0:=Tryz.isAgg0,z0:=Tryz.sizeOf0,v0:=Tryz.zeroValue0,t3:=Tryz.underlying3,a3:=Tryz.isAgg3,z3:=Tryz.sizeOf3,v3:=Tryz.zeroValue3,t4:=Tryz.underlying4,a4:=Tryz.isAgg4,z4:=Tryz.sizeOf4,v4:=Tryz.zeroValue4,t22:=Tryz.underlying263,a22:=Tryz.isAgg263,z22:=Tryz.sizeOf263,v22:=Tryz.zeroValue263,t25:=Tryz.underlying256,a25:=Tryz.isAgg256,z25:=Tryz.sizeOf256,v25:=Tryz.zeroValue256}
def Tryz.as6:Go.Shelf.Ren:=⟨λ|8=>163|6=>234|n=>n,λ|22=>37|23=>3|25=>112|4=>4|3=>3|0=>0|n=>n,λ|n=>n⟩
theorem Tryz.QV:Go.Proofs.SlLaysH.n8 Tryz.prog Tryz.as6:={mixed:=kk,f6:=⟨Tryz.f234.name,dd,Tryz.func234.trans (congrArg _ kk)⟩,f8:=⟨Tryz.f163.name,dd,Tryz.func163.trans (congrArg _ kk)⟩,t0:=Tryz.underlying0,a0:=Tryz.isAgg0,z0:=Tryz.sizeOf0,v0:=Tryz.zeroValue0,t3:=Tryz.underlying3,a3:=Tryz.isAgg3,z3:=Tryz.sizeOf3,v3:=Tryz.zeroValue3,t4:=Tryz.underlying4,a4:=Tryz.isAgg4,z4:=Tryz.sizeOf4,v4:=Tryz.zeroValue4,t22:=Tryz.underlying37,a22:=Tryz.isAgg37,z22:=Tryz.sizeOf37,v22:=Tryz.zeroValue37,a23:=Tryz.isAgg3,z23:=Tryz.sizeOf3,t25:=Tryz.underlying112,a25:=Tryz.isAgg112,z25:=Tryz.sizeOf112,v25:=Tryz.zeroValue112}
def Tryz.aLo:Go.Shelf.Ren:=⟨λ|41=>142|n=>n,λ|22=>23|23=>137|4=>4|n=>n,λ|n=>n⟩
def Tryz.as7:Go.Shelf.Ren:=⟨λ|41=>164|n=>n,λ|22=>37|23=>3|4=>4|n=>n,λ|n=>n⟩
theorem Tryz.as8:Go.Proofs.SlLaysE0.n41 Tryz.prog Tryz.as7:={mixed:=kk,f41:=⟨Tryz.f164.name,dd,Tryz.func164.trans (congrArg _ kk)⟩,t4:=Tryz.underlying4,a4:=Tryz.isAgg4,z4:=Tryz.sizeOf4,v4:=Tryz.zeroValue4,t22:=Tryz.underlying37,a22:=Tryz.isAgg37,z22:=Tryz.sizeOf37,v22:=Tryz.zeroValue37}
def Tryz.as9:Go.Shelf.Ren:=⟨λ|41=>170|n=>n,λ|22=>38|23=>158|4=>4|n=>n,λ|n=>n⟩
theorem Tryz.ata:Go.Proofs.SlLaysE0.n41 Tryz.prog Tryz.as9:={mixed:=kk,f41:=⟨Tryz.f170.name,dd,Tryz.func170.trans (congrArg _ kk)⟩,t4:=Tryz.underlying4,a4:=Tryz.isAgg4,z4:=Tryz.sizeOf4,v4:=Tryz.zeroValue4,t22:=Tryz.underlying38,a22:=Tryz.isAgg38,z22:=Tryz.sizeOf38,v22:=Tryz.zeroValue38}
def Tryz.atb:Go.Shelf.Ren:=⟨λ|41=>221|n=>n,λ|22=>57|23=>143|4=>4|n=>n,λ|n=>n⟩
theorem Tryz.agR:Go.Proofs.SlLaysE0.n41 Tryz.prog Tryz.atb:={mixed:=kk,f41:=⟨Tryz.f221.name,dd,Tryz.func221.trans (congrArg _ kk)⟩,t4:=Tryz.underlying4,a4:=Tryz.isAgg4,z4:=Tryz.sizeOf4,v4:=Tryz.zeroValue4,t22:=Tryz.underlying57,a22:=Tryz.isAgg57,z22:=Tryz.sizeOf57,v22:=Tryz.zeroValue57}
def Tryz.atc:Go.Shelf.Ren:=⟨λ|41=>282|n=>n,λ|22=>184|23=>28|4=>4|n=>n,λ|n=>n⟩
theorem Tryz.atd:Go.Proofs.SlLaysE0.n41 Tryz.prog Tryz.atc:={mixed:=kk,f41:=⟨Tryz.f282.name,dd,Tryz.func282.trans (congrArg _ kk)⟩,t4:=Tryz.underlying4,a4:=Tryz.isAgg4,z4:=Tryz.sizeOf4,v4:=Tryz.zeroValue4,t22:=Tryz.underlying184,a22:=Tryz.isAgg184,z22:=Tryz.sizeOf184,v22:=Tryz.zeroValue184}
def Tryz.ate:Go.Shelf.Ren:=⟨λ|8=>314|n=>n,λ|22=>56|24=>149|4=>4|3=>3|0=>0|n=>n,λ|n=>n⟩
theorem Tryz.atf:Go.Proofs.SlLaysQ.n8 Tryz.prog Tryz.ate:={mixed:=kk,f8:=⟨Tryz.f314.name,dd,Tryz.func314.trans (congrArg _ kk)⟩,t0:=Tryz.underlying0,a0:=Tryz.isAgg0,z0:=Tryz.sizeOf0,v0:=Tryz.zeroValue0,t3:=Tryz.underlying3,a3:=Tryz.isAgg3,z3:=Tryz.sizeOf3,v3:=Tryz.zeroValue3,t4:=Tryz.underlying4,a4:=Tryz.isAgg4,z4:=Tryz.sizeOf4,v4:=Tryz.zeroValue4,t22:=Tryz.underlying56,a22:=Tryz.isAgg56,z22:=Tryz.sizeOf56,v22:=Tryz.zeroValue56}
def Tryz.atg:Go.Shelf.Ren:=⟨λ|8=>338|n=>n,λ|22=>38|24=>158|4=>4|3=>3|0=>0|n=>n,λ|n=>n⟩
theorem Tryz.ath:Go.Proofs.SlLaysQ.n8 Tryz.prog Tryz.atg:={mixed:=kk,f8:=⟨Tryz.f338.name,dd,Tryz.func338.trans (congrArg _ kk)⟩,t0:=Tryz.underlying0,a0:=Tryz.isAgg0,z0:=Tryz.sizeOf0,v0:=Tryz.zeroValue0,t3:=Tryz.underlying3,a3:=Tryz.isAgg3,z3:=Tryz.sizeOf3,v3:=Tryz.zeroValue3,t4:=Tryz.underlying4,a4:=Tryz.isAgg4,z4:=Tryz.sizeOf4,v4:=Tryz.zeroValue4,t22:=Tryz.underlying38,a22:=Tryz.isAgg38,z22:=Tryz.sizeOf38,v22:=Tryz.zeroValue38}
def Tryz.ati:Go.Shelf.Ren:=⟨λ|33=>135|n=>n,λ|22=>37|23=>3|4=>4|3=>3|0=>0|n=>n,λ|n=>n⟩
theorem Tryz.atj:Go.Proofs.SlLaysE.n33 Tryz.prog Tryz.ati:={mixed:=kk,f33:=⟨Tryz.f135.name,dd,Tryz.func135.trans (congrArg _ kk)⟩,t0:=Tryz.underlying0,a0:=Tryz.isAgg0,z0:=Tryz.sizeOf0,v0:=Tryz.zeroValue0,t3:=Tryz.underlying3,a3:=Tryz.isAgg3,z3:=Tryz.sizeOf3,v3:=Tryz.zeroValue3,t4:=Tryz.underlying4,a4:=Tryz.isAgg4,z4:=Tryz.sizeOf4,v4:=Tryz.zeroValue4,t22:=Tryz.underlying37,a22:=Tryz.isAgg37,z22:=Tryz.sizeOf37,v22:=Tryz.zeroValue37,a23:=Tryz.isAgg3,z23:=Tryz.sizeOf3}
end
section
open Go.Shelf
def Tryz.avp:Go.Shelf.Ren:=⟨λ|107=>89|108=>167|n=>n,λ|28=>37|3=>3|4=>4|0=>0|n=>n,λ|n=>n⟩
theorem Tryz.ah8:Go.Proofs.Lays.n107 Tryz.prog Tryz.avp:={mixed:=kk,f107:=Tryz.func89.trans (congrArg _ kk),f108:=Tryz.func167.trans (congrArg _ kk),t0:=Tryz.underlying0,a0:=Tryz.isAgg0,z0:=Tryz.sizeOf0,v0:=Tryz.zeroValue0,t3:=Tryz.underlying3,a3:=Tryz.isAgg3,z3:=Tryz.sizeOf3,v3:=Tryz.zeroValue3,t4:=Tryz.underlying4,a4:=Tryz.isAgg4,z4:=Tryz.sizeOf4,v4:=Tryz.zeroValue4,t28:=Tryz.underlying37,a28:=Tryz.isAgg37,z28:=Tryz.sizeOf37,v28:=Tryz.zeroValue37}
def Tryz.avq:Go.Shelf.Ren:=⟨λ|189=>165|125=>236|257=>235|128=>308|129=>309|294=>299|295=>300|296=>301|297=>302|298=>303|299=>304|216=>305|300=>306|301=>307|328=>349|329=>350|330=>351|331=>352|332=>353|215=>354|343=>371|n=>n,λ|28=>37|3=>3|46=>316|0=>0|51=>315|53=>405|4=>4|183=>415|182=>414|131=>251|5=>5|9=>9|218=>455|222=>459|228=>483|229=>484|n=>n,λ|n=>n⟩
theorem Tryz.ah9:Go.Proofs.Lays.n189 Tryz.prog Tryz.avq:={mixed:=kk,f125:=Tryz.func236.trans (congrArg _ kk),f128:=Tryz.func308.trans (congrArg _ kk),f129:=Tryz.func309.trans (congrArg _ kk),f189:=Tryz.func165.trans (congrArg _ kk),f215:=Tryz.func354.trans (congrArg _ kk),f216:=Tryz.func305.trans (congrArg _ kk),f257:=Tryz.func235.trans (congrArg _ kk),f294:=Tryz.func299.trans (congrArg _ kk),f295:=Tryz.func300.trans (congrArg _ kk),f296:=Tryz.func301.trans (congrArg _ kk),f297:=Tryz.func302.trans (congrArg _ kk),f298:=Tryz.func303.trans (congrArg _ kk),f299:=Tryz.func304.trans (congrArg _ kk),f300:=Tryz.func306.trans (congrArg _ kk),f301:=Tryz.func307.trans (congrArg _ kk),f328:=Tryz.func349.trans (congrArg _ kk),f329:=Tryz.func350.trans (congrArg _ kk),f330:=Tryz.func351.trans (congrArg _ kk),f331:=Tryz.func352.trans (congrArg _ kk),f332:=Tryz.func353.trans (congrArg _ kk),f343:=Tryz.func371.trans (congrArg _ kk),t0:=Tryz.underlying0,a0:=Tryz.isAgg0,z0:=Tryz.sizeOf0,v0:=Tryz.zeroValue0,t3:=Tryz.underlying3,a3:=Tryz.isAgg3,z3:=Tryz.sizeOf3,v3:=Tryz.zeroValue3,t4:=Tryz.underlying4,a4:=Tryz.isAgg4,z4:=Tryz.sizeOf4,v4:=Tryz.zeroValue4,t5:=Tryz.underlying5,a5:=Tryz.isAgg5,z5:=Tryz.sizeOf5,v5:=Tryz.zeroValue5,t9:=Tryz.underlying9,a9:=Tryz.isAgg9,z9:=Tryz.sizeOf9,v9:=Tryz.zeroValue9,t28:=Tryz.underlying37,a28:=Tryz.isAgg37,z28:=Tryz.sizeOf37,v28:=Tryz.zeroValue37,t46:=Tryz.underlying316,a46:=Tryz.isAgg316,z46:=Tryz.sizeOf316,v46:=Tryz.zeroValue316,t51:=Tryz.underlying315,a51:=Tryz.isAgg315,z51:=Tryz.sizeOf315,v51:=Tryz.zeroValue315,t53:=Tryz.underlying405,a53:=Tryz.isAgg405,z53:=Tryz.sizeOf405,v53:=Tryz.zeroValue405,t131:=Tryz.underlying251,a131:=Tryz.isAgg251,z131:=Tryz.sizeOf251,v131:=Tryz.zeroValue251,t182:=Tryz.underlying414,a182:=Tryz.isAgg414,z182:=Tryz.sizeOf414,v182:=Tryz.zeroValue414,t183:=Tryz.underlying415,a183:=Tryz.isAgg415,z183:=Tryz.sizeOf415,v183:=Tryz.zeroValue415,t218:=Tryz.underlying455,a218:=Tryz.isAgg455,z218:=Tryz.sizeOf455,v218:=Tryz.zeroValue455,t222:=Tryz.underlying459,a222:=Tryz.isAgg459,z222:=Tryz.sizeOf459,v222:=Tryz.zeroValue459,t228:=Tryz.underlying483,a228:=Tryz.isAgg483,z228:=Tryz.sizeOf483,v228:=Tryz.zeroValue483,t229:=Tryz.underlying484,a229:=Tryz.isAgg484,z229:=Tryz.sizeOf484,v229:=Tryz.zeroValue484}
def Tryz.avr:Go.Shelf.Ren:=⟨λ|20=>166|n=>n,λ|22=>37|3=>3|4=>4|0=>0|n=>n,λ|n=>n⟩
theorem Tryz.aia:Go.Proofs.Lays2.n20 Tryz.prog Tryz.avr:={mixed:=kk,f20:=Tryz.func166.trans (congrArg _ (by kernel_rfl)),t0:=Tryz.underlying0,a0:=Tryz.isAgg0,z0:=Tryz.sizeOf0,v0:=Tryz.zeroValue0,t3:=Tryz.underlying3,a3:=Tryz.isAgg3,z3:=Tryz.sizeOf3,v3:=Tryz.zeroValue3,t4:=Tryz.underlying4,a4:=Tryz.isAgg4,z4:=Tryz.sizeOf4,v4:=Tryz.zeroValue4,t22:=Tryz.underlying37,a22:=Tryz.isAgg37,z22:=Tryz.sizeOf37,v22:=Tryz.zeroValue37,i3:=kk}
end
section
open Go.Shelf
def Tryz.ava:Go.Shelf.Ren:=⟨λ|20=>255|n=>n,λ|24=>41|22=>22|3=>3|25=>196|4=>4|0=>0|n=>n,λ|n=>n⟩
theorem Tryz.avb:Go.Proofs.SlLaysF0.n20 Tryz.prog Tryz.ava:={mixed:=kk,f20:=⟨Tryz.f255.name,dd,Tryz.func255.trans (congrArg some kk)⟩,t0:=Tryz.underlying0,a0:=Tryz.isAgg0,z0:=Tryz.sizeOf0,v0:=Tryz.zeroValue0,t3:=Tryz.underlying3,a3:=Tryz.isAgg3,z3:=Tryz.sizeOf3,v3:=Tryz.zeroValue3,t4:=Tryz.underlying4,a4:=Tryz.isAgg4,z4:=Tryz.sizeOf4,v4:=Tryz.zeroValue4,t22:=Tryz.underlying22,a22:=Tryz.isAgg22,z22:=Tryz.sizeOf22,v22:=Tryz.zeroValue22,t25:=Tryz.underlying196,a25:=Tryz.isAgg196,z25:=Tryz.sizeOf196,v25:=Tryz.zeroValue196}
end
section
open Go.Shelf
def Tryz.aoe:Go.Shelf.Ren:=⟨λ|156=>310|165=>228|166=>229|169=>231|240=>296|241=>297|276=>343|277=>344|n=>n,λ|31=>172|9=>9|3=>3|4=>4|0=>0|20=>20|72=>339|76=>342|70=>337|37=>221|75=>341|127=>408|164=>445|5=>5|80=>228|n=>n,λ|n=>n⟩
theorem Tryz.aog:Go.Proofs.Lays.n156 Tryz.prog Tryz.aoe:={mixed:=kk,f156:=Tryz.func310.trans (congrArg some kk),f165:=Tryz.func228.trans (congrArg some kk),f166:=Tryz.func229.trans (congrArg some kk),f169:=Tryz.func231.trans (congrArg some kk),f240:=Tryz.func296.trans (congrArg some kk),f241:=Tryz.func297.trans (congrArg some kk),f276:=Tryz.func343.trans (congrArg some kk),f277:=Tryz.func344.trans (congrArg some kk),t0:=Tryz.underlying0,a0:=Tryz.isAgg0,z0:=Tryz.sizeOf0,v0:=Tryz.zeroValue0,t3:=Tryz.underlying3,a3:=Tryz.isAgg3,z3:=Tryz.sizeOf3,v3:=Tryz.zeroValue3,t4:=Tryz.underlying4,a4:=Tryz.isAgg4,z4:=Tryz.sizeOf4,v4:=Tryz.zeroValue4,t9:=Tryz.underlying9,a9:=Tryz.isAgg9,z9:=Tryz.sizeOf9,v9:=Tryz.zeroValue9,t20:=Tryz.underlying20,a20:=Tryz.isAgg20,z20:=Tryz.sizeOf20,v20:=Tryz.zeroValue20,t31:=Tryz.underlying172,a31:=Tryz.isAgg172,z31:=Tryz.sizeOf172,v31:=Tryz.zeroValue172,t37:=Tryz.underlying221,a37:=Tryz.isAgg221,z37:=Tryz.sizeOf221,v37:=Tryz.zeroValue221,t70:=Tryz.underlying337,a70:=Tryz.isAgg337,z70:=Tryz.sizeOf337,v70:=Tryz.zeroValue337,t72:=Tryz.underlying339,a72:=Tryz.isAgg339,z72:=Tryz.sizeOf339,v72:=Tryz.zeroValue339,t75:=Tryz.underlying341,a75:=Tryz.isAgg341,z75:=Tryz.sizeOf341,v75:=Tryz.zeroValue341,t76:=Tryz.underlying342,a76:=Tryz.isAgg342,z76:=Tryz.sizeOf342,v76:=Tryz.zeroValue342,t127:=Tryz.underlying408,a127:=Tryz.isAgg408,z127:=Tryz.sizeOf408,v127:=Tryz.zeroValue408,t164:=Tryz.underlying445,a164:=Tryz.isAgg445,z164:=Tryz.sizeOf445,v164:=Tryz.zeroValue445}
theorem Tryz.aoh:Builder.Extra Tryz.prog Tryz.aoe:={sizeBuilder:=kk,liesBuilder:=kk,t5:=Tryz.underlying5,a5:=Tryz.isAgg5,z5:=Tryz.sizeOf5,v5:=Tryz.zeroValue5,infoByte:=kk,cellsByte:=kk,sizeByte:=kk,neB5:=dd}
open Go.RowKit in
theorem Tryz.strings_Join_none(a c b w):Calls Tryz.prog 310 #[.slice a 0 c,.string b] w λ e d=>e= .returned (.string ⟨#[]⟩)/\d=w:=Any.strings_Join_none Tryz.aog Tryz.aoh a c b w
open Go.RowKit in
theorem Tryz.strings_Join(b o c)(a:List ByteArray)(d w)(f:∀(j:Nat)x,a[j]?=some x->w.cell? ⟨b,o+j,none⟩=some (.string x))(g:b<w.heap.size)(h:a.length<=140737488355328)(i:a.length<=c)(k:(Lib.join (a.map (·.data.toList)) d.data.toList).length<=140737488355328):Calls Tryz.prog 310 #[.slice (some ⟨b,o,none⟩) a.length c,.string d] w λ e x=>e= .returned (.string ⟨(Lib.join (a.map (·.data.toList)) d.data.toList).toArray⟩)/\Below w.heap.size w x:=Any.strings_Join Tryz.aog Tryz.aoh b o c a d w f g h i k
def Tryz.aoi:Go.Shelf.Ren:=⟨λ|105=>155|212=>226|99=>227|165=>228|166=>229|170=>230|169=>231|263=>293|264=>294|206=>295|240=>296|241=>297|276=>343|277=>344|n=>n,λ|9=>9|3=>3|4=>4|20=>20|0=>0|46=>316|109=>334|5=>5|72=>339|76=>342|51=>315|146=>403|53=>405|148=>406|70=>337|37=>221|75=>341|127=>408|164=>445|80=>228|n=>n,λ|n=>n⟩
theorem Tryz.aEw:Go.Proofs.Lays.n105 Tryz.prog Tryz.aoi:={mixed:=kk,f99:=Tryz.func227.trans (congrArg some kk),f105:=Tryz.func155.trans (congrArg some kk),f165:=Tryz.func228.trans (congrArg some kk),f166:=Tryz.func229.trans (congrArg some kk),f169:=Tryz.func231.trans (congrArg some kk),f170:=Tryz.func230.trans (congrArg some kk),f206:=Tryz.func295.trans (congrArg some kk),f212:=Tryz.func226.trans (congrArg some kk),f240:=Tryz.func296.trans (congrArg some kk),f241:=Tryz.func297.trans (congrArg some kk),f263:=Tryz.func293.trans (congrArg some kk),f264:=Tryz.func294.trans (congrArg some kk),f276:=Tryz.func343.trans (congrArg some kk),f277:=Tryz.func344.trans (congrArg some kk),t0:=Tryz.underlying0,a0:=Tryz.isAgg0,z0:=Tryz.sizeOf0,v0:=Tryz.zeroValue0,t3:=Tryz.underlying3,a3:=Tryz.isAgg3,z3:=Tryz.sizeOf3,v3:=Tryz.zeroValue3,t4:=Tryz.underlying4,a4:=Tryz.isAgg4,z4:=Tryz.sizeOf4,v4:=Tryz.zeroValue4,t5:=Tryz.underlying5,a5:=Tryz.isAgg5,z5:=Tryz.sizeOf5,v5:=Tryz.zeroValue5,t9:=Tryz.underlying9,a9:=Tryz.isAgg9,z9:=Tryz.sizeOf9,v9:=Tryz.zeroValue9,t20:=Tryz.underlying20,a20:=Tryz.isAgg20,z20:=Tryz.sizeOf20,v20:=Tryz.zeroValue20,t37:=Tryz.underlying221,a37:=Tryz.isAgg221,z37:=Tryz.sizeOf221,v37:=Tryz.zeroValue221,t46:=Tryz.underlying316,a46:=Tryz.isAgg316,z46:=Tryz.sizeOf316,v46:=Tryz.zeroValue316,t51:=Tryz.underlying315,a51:=Tryz.isAgg315,z51:=Tryz.sizeOf315,v51:=Tryz.zeroValue315,t53:=Tryz.underlying405,a53:=Tryz.isAgg405,z53:=Tryz.sizeOf405,v53:=Tryz.zeroValue405,t70:=Tryz.underlying337,a70:=Tryz.isAgg337,z70:=Tryz.sizeOf337,v70:=Tryz.zeroValue337,t72:=Tryz.underlying339,a72:=Tryz.isAgg339,z72:=Tryz.sizeOf339,v72:=Tryz.zeroValue339,t75:=Tryz.underlying341,a75:=Tryz.isAgg341,z75:=Tryz.sizeOf341,v75:=Tryz.zeroValue341,t76:=Tryz.underlying342,a76:=Tryz.isAgg342,z76:=Tryz.sizeOf342,v76:=Tryz.zeroValue342,t109:=Tryz.underlying334,a109:=Tryz.isAgg334,z109:=Tryz.sizeOf334,v109:=Tryz.zeroValue334,t127:=Tryz.underlying408,a127:=Tryz.isAgg408,z127:=Tryz.sizeOf408,v127:=Tryz.zeroValue408,t146:=Tryz.underlying403,a146:=Tryz.isAgg403,z146:=Tryz.sizeOf403,v146:=Tryz.zeroValue403,t148:=Tryz.underlying406,a148:=Tryz.isAgg406,z148:=Tryz.sizeOf406,v148:=Tryz.zeroValue406,t164:=Tryz.underlying445,a164:=Tryz.isAgg445,z164:=Tryz.sizeOf445,v164:=Tryz.zeroValue445}
theorem Tryz.aEx:Builder.Extra Tryz.prog Tryz.aoi:={sizeBuilder:=kk,liesBuilder:=kk,t5:=Tryz.underlying5,a5:=Tryz.isAgg5,z5:=Tryz.sizeOf5,v5:=Tryz.zeroValue5,infoByte:=kk,cellsByte:=kk,sizeByte:=kk,neB5:=dd}
open Go.RowKit Go.Lib in
open Go.RowKit Go.Lib in
open Go.RowKit Go.Lib in
open Go.RowKit Go.Lib in
open Go.RowKit Go.Lib in
theorem Tryz.strings_Repeat(s:ByteArray)(c:Nat)(w:World)(a:c<=9223372036854775807)(b:s.size*c<=140737488355328):Calls Tryz.prog 155 #[.string s,.int .i64 c] w λ e d=>e= .returned (.string ⟨(Lib.repeatL s.data.toList c).toArray⟩)/\Below w.heap.size w d:=Any.strings_Repeat Tryz.aEw Tryz.aEx s c w a b
def Tryz.aEy:Go.Shelf.Ren:=⟨λ|16=>180|n=>n,λ|24=>172|9=>9|4=>4|n=>n,λ|n=>n⟩
theorem Tryz.adU:Go.Proofs.Lays2.n16 Tryz.prog Tryz.aEy:={mixed:=kk,f16:=Tryz.func180.trans (congrArg some (by kernel_rfl)),t4:=Tryz.underlying4,a4:=Tryz.isAgg4,z4:=Tryz.sizeOf4,v4:=Tryz.zeroValue4,t9:=Tryz.underlying9,a9:=Tryz.isAgg9,z9:=Tryz.sizeOf9,v9:=Tryz.zeroValue9,t24:=Tryz.underlying172,a24:=Tryz.isAgg172,z24:=Tryz.sizeOf172,v24:=Tryz.zeroValue172,i9:=kk}
open Go.RowKit Go.Lib in
theorem Tryz.slices_Clone_string(b off n c)(a:List ByteArray)(w)(f:n<=a.length)(g:n*16<=140737488355328)(h:∀j,j<a.length->w.cell? ⟨b,off+j,none⟩=some (.string (a.getD j ByteArray.empty))):Calls Tryz.prog 180 #[.slice (some ⟨b,off,none⟩) n c] w λ e d=>∃j,e= .returned j/\d.ownsRow w.heap.size 9 1 j n ((a.take n).map (Value.string))/\j≠.slice none 0 0/\Below w.heap.size w d:=Any.slices_Clone_string Tryz.adU b off n c a w f g h
open Go.RowKit Go.Lib in
theorem Tryz.slices_Clone_string_nil(n c w):Calls Tryz.prog 180 #[.slice none n c] w λ e a=>e= .returned (.slice none 0 0)/\a=w:=Any.slices_Clone_string_nil Tryz.adU n c w
open Go.RowKit Go.Lib in
theorem Tryz.slices_Clone_string_zero(a c w):Calls Tryz.prog 180 #[.slice (some a) 0 c] w λ e d=>∃b,e= .returned b/\d.ownsRow w.heap.size 9 1 b 0 []/\b≠.slice none 0 0/\Below w.heap.size w d:=Any.slices_Clone_string_zero Tryz.adU a c w
end
section
open Go.Shelf
def Tryz.awV:Go.Shelf.Ren:=⟨λ|212=>226|263=>293|264=>294|n=>n,λ|46=>316|51=>315|146=>403|53=>405|148=>406|n=>n,λ|n=>n⟩
theorem Tryz.awW:Go.Proofs.Lays.n212 Tryz.prog Tryz.awV:={mixed:=kk,f212:=Tryz.func226.trans (congrArg some kk),f263:=Tryz.func293.trans (congrArg some kk),f264:=Tryz.func294.trans (congrArg some kk),t46:=Tryz.underlying316,a46:=Tryz.isAgg316,z46:=Tryz.sizeOf316,v46:=Tryz.zeroValue316,t51:=Tryz.underlying315,a51:=Tryz.isAgg315,z51:=Tryz.sizeOf315,v51:=Tryz.zeroValue315,t53:=Tryz.underlying405,a53:=Tryz.isAgg405,z53:=Tryz.sizeOf405,v53:=Tryz.zeroValue405,t146:=Tryz.underlying403,a146:=Tryz.isAgg403,z146:=Tryz.sizeOf403,v146:=Tryz.zeroValue403,t148:=Tryz.underlying406,a148:=Tryz.isAgg406,z148:=Tryz.sizeOf406,v148:=Tryz.zeroValue406}
end
section
open Go.Shelf
def Tryz.awx:Go.Shelf.Ren:=⟨λ|6=>372|15=>236|14=>377|28=>308|29=>309|20=>383|21=>384|22=>385|23=>386|24=>387|25=>388|26=>389|27=>390|46=>398|47=>350|48=>351|49=>399|50=>400|57=>409|n=>n,λ|22=>56|24=>149|25=>487|3=>3|39=>316|0=>0|53=>315|55=>405|4=>4|46=>415|45=>414|50=>251|5=>5|9=>9|66=>455|70=>459|76=>483|77=>484|n=>n,λ|n=>n⟩
theorem Tryz.ai4:Go.Proofs.SlLaysF0.n6 Tryz.prog Tryz.awx:={mixed:=kk,f6:=⟨Tryz.f372.name,dd,Tryz.func372.trans (congrArg _ kk)⟩,f14:=⟨Tryz.f377.name,dd,Tryz.func377.trans (congrArg _ (by kernel_rfl))⟩,f15:=Tryz.func236.trans (congrArg _ (by kernel_rfl)),f20:=⟨Tryz.f383.name,by decide,Tryz.func383.trans (congrArg _ (by kernel_rfl))⟩,f21:=⟨Tryz.f384.name,by decide,Tryz.func384.trans (congrArg _ (by kernel_rfl))⟩,f22:=⟨Tryz.f385.name,by decide,Tryz.func385.trans (congrArg _ (by kernel_rfl))⟩,f23:=⟨Tryz.f386.name,by decide,Tryz.func386.trans (congrArg _ (by kernel_rfl))⟩,f24:=⟨Tryz.f387.name,by decide,Tryz.func387.trans (congrArg _ (by kernel_rfl))⟩,f25:=⟨Tryz.f388.name,dd,Tryz.func388.trans (congrArg _ kk)⟩,f26:=⟨Tryz.f389.name,dd,Tryz.func389.trans (congrArg _ kk)⟩,f27:=⟨Tryz.f390.name,dd,Tryz.func390.trans (congrArg _ kk)⟩,f28:=Tryz.func308.trans (congrArg _ kk),f29:=Tryz.func309.trans (congrArg _ kk),f46:=⟨Tryz.f398.name,dd,Tryz.func398.trans (congrArg _ kk)⟩,f47:=Tryz.func350.trans (congrArg _ kk),f48:=Tryz.func351.trans (congrArg _ kk),f49:=⟨Tryz.f399.name,dd,Tryz.func399.trans (congrArg _ kk)⟩,f50:=⟨Tryz.f400.name,dd,Tryz.func400.trans (congrArg _ kk)⟩,f57:=⟨Tryz.f409.name,dd,Tryz.func409.trans (congrArg _ kk)⟩,t0:=Tryz.underlying0,a0:=Tryz.isAgg0,z0:=Tryz.sizeOf0,v0:=Tryz.zeroValue0,t3:=Tryz.underlying3,a3:=Tryz.isAgg3,z3:=Tryz.sizeOf3,v3:=Tryz.zeroValue3,t4:=Tryz.underlying4,a4:=Tryz.isAgg4,z4:=Tryz.sizeOf4,v4:=Tryz.zeroValue4,t5:=Tryz.underlying5,a5:=Tryz.isAgg5,z5:=Tryz.sizeOf5,v5:=Tryz.zeroValue5,t9:=Tryz.underlying9,a9:=Tryz.isAgg9,z9:=Tryz.sizeOf9,v9:=Tryz.zeroValue9,t22:=Tryz.underlying56,a22:=Tryz.isAgg56,z22:=Tryz.sizeOf56,v22:=Tryz.zeroValue56,t25:=Tryz.underlying487,a25:=Tryz.isAgg487,z25:=Tryz.sizeOf487,v25:=Tryz.zeroValue487,t39:=Tryz.underlying316,a39:=Tryz.isAgg316,z39:=Tryz.sizeOf316,v39:=Tryz.zeroValue316,t45:=Tryz.underlying414,a45:=Tryz.isAgg414,z45:=Tryz.sizeOf414,v45:=Tryz.zeroValue414,t46:=Tryz.underlying415,a46:=Tryz.isAgg415,z46:=Tryz.sizeOf415,v46:=Tryz.zeroValue415,t50:=Tryz.underlying251,a50:=Tryz.isAgg251,z50:=Tryz.sizeOf251,v50:=Tryz.zeroValue251,t53:=Tryz.underlying315,a53:=Tryz.isAgg315,z53:=Tryz.sizeOf315,v53:=Tryz.zeroValue315,t55:=Tryz.underlying405,a55:=Tryz.isAgg405,z55:=Tryz.sizeOf405,v55:=Tryz.zeroValue405,t66:=Tryz.underlying455,a66:=Tryz.isAgg455,z66:=Tryz.sizeOf455,v66:=Tryz.zeroValue455,t70:=Tryz.underlying459,a70:=Tryz.isAgg459,z70:=Tryz.sizeOf459,v70:=Tryz.zeroValue459,t76:=Tryz.underlying483,a76:=Tryz.isAgg483,z76:=Tryz.sizeOf483,v76:=Tryz.zeroValue483,t77:=Tryz.underlying484,a77:=Tryz.isAgg484,z77:=Tryz.sizeOf484,v77:=Tryz.zeroValue484}
end
end Go.Proofs
