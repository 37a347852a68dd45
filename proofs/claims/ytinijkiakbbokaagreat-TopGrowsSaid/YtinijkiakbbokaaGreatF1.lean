/- A part of the proof of TopGrows. No conditions. -/
import Derived.BigQuiet
import Derived.BigRegion
import Derived.Deep.QuietTactic
import Derived.Deep.RegionHeld3
import Derived.Deep.RegionLaw
import Derived.Deep.RegionWith
import Derived.KernelRfl
import Derived.Lib.Hide
import Derived.Lib.Overlaps
import Derived.Lib.QuietBelow
import Derived.Lib.SliceRun
import Derived.OrdersHeld
import Derived.Shelf.RegionOpenPlain
import Derived.StillTailTactics
import Derived.Test.YtinijkiakbbokaaGreatProg
import Derived.Test.YtinijkiakbbokaaGreatRows
import Derived.WalkKit
import Derived.WalkLawsBesides
import Derived.WalkSpells
set_option linter.all false
set_option maxRecDepth 1000000
set_option maxHeartbeats 16000000
namespace Go.Proofs.YtinijkiakbbokaaGreat
def oo{P:Prop}(h:P:=by omega):P:=h
def kk{P:Prop}(h:P:=by kernel_rfl):P:=h
def dd{P:Prop}(h:P:=by decide):P:=h
def ch{P:Prop}(x:P:=by cases h):P:=x
def zz{P Q:Prop}(q:Q)(h:(Unit→Q)→P:=by intro q;(conv=>whnf);(repeat'(refine hC _ _ _ _ ?_;(conv=>whnf)));exact q ()):P:=h fun _=>q
def zx{P Q:Prop}(q:Q)(h:(Unit→Q)→P:=by intro q;(conv=>whnf);(repeat'(first|(refine hC _ _ _ _ ?_;(conv=>whnf))|(refine⟨⟨by omega,by omega⟩,?_⟩;(conv=>whnf))|fail));exact q ()):P:=h fun _=>q
def bb:(∀(p:Prop)[Decidable p],(decide p=true)=p)∧(∀(p:Prop)[Decidable p],(decide p=false)=¬p)∧((!true)=false)∧((!false)=true)∧(∀{α:Type}[BEq α][LawfulBEq α]{a b:α},(a==b)=true↔a=b)∧(∀{α:Type}[BEq α][LawfulBEq α]{a b:α},(a != b)=true↔a≠b)∧(∀{α:Type}(a b:α),(a≠b)=¬(a=b))∧(∀{α:Type}[BEq α][LawfulBEq α]{a b:α},(a != b)=false↔a=b)∧(∀{α:Type}[BEq α][LawfulBEq α]{a b:α},(a==b)=false↔a≠b)∧(∀b:Bool,(¬(b=true))=(b=false)):=⟨fun _ _=>decide_eq_true_eq,fun _ _=>propext decide_eq_false_iff_not,rfl,rfl,beq_iff_eq,bne_iff_ne,ne_eq,bne_eq_false_iff_eq,beq_eq_false_iff_ne,Bool.not_eq_true⟩
def z{P Q:Prop}(q:Q)(h:(Unit→Q)→P:=by intro q;(conv=>whnf);(repeat'(refine C _ _ _ _ ?_;(conv=>whnf)));exact q ()):P:=h fun _=>q
def x{P Q:Prop}(q:Q)(h:(Unit→Q)→P:=by intro q;(conv=>whnf);(repeat'(first|(refine C _ _ _ _ ?_;(conv=>whnf))|(refine⟨⟨by omega,by omega⟩,?_⟩;(conv=>whnf))|fail));exact q ()):P:=h fun _=>q
def oJ{P:Prop}(h:P:=by assumption):P:=h
def oK{P:Prop}(h:P:=by repeat' (first|assumption|exact trivial|rfl|omega|refine⟨?_,?_⟩)):P:=h
def oP{P:Prop}(h:P:=by simp_all):P:=h
def oV{P:Prop}(h:P:=by grind):P:=h
def szz:Nat→Nat→Nat→List (Nat×Nat)|0,_,_=>[]|f+1,i,n=>cond (Nat.beq n 1) [] ((i,n%10)::szz f (i+1) (n/10))
def sy(n:Nat):List (Nat×Nat):=szz 99 0 n
inductive zs{α:Sort _}(a:α):Type|m
instance{p:Prop}:CoeSort (zs p) Prop:=⟨λ _=>p⟩
instance{α:Sort _}{a:α}{x:zs a}:CoeT (zs a) x α:=⟨a⟩
def Go.RowKit.Below.M:=@Go.RowKit.Below.mono
def Go.RowKit.Below.J:=@Go.RowKit.Below.trans
def Go.RowKit.Below.Y:=@Go.RowKit.Below.refl
def Lib.H:=@Go.Lib.hid
def Eq.J:=@Eq.trans
def Eq.S:=@Eq.symm
def Ne.S:=@Ne.symm
def Iff.J:=@Iff.trans
def Iff.S:=@Iff.symm
def And.S:=@And.symm
def Or.S:=@Or.symm
def Or.F:=@Or.elim
def Or.I:=@Or.inr
def Or.N:=@Or.inl
def False.F:=@False.elim
def Nat.le.Y:=@Nat.le.refl
def Go.World.keptBut.Z:=@Go.World.keptBut.cell
def Go.World.Extends.J:=@Go.World.Extends.trans
def Go.World.grownBy.Y:=@Go.World.grownBy.refl
def Go.StepsIn.O:=@Go.StepsIn.one
def Go.StepsIn.M:=@Go.StepsIn.mono
def Go.World.Extends.Y:=@Go.World.Extends.refl
def Go.World.grownBy.Z:=@Go.World.grownBy.cell
def Go.Calls.M:=@Go.Calls.mono
def Go.WideElems.Fit.y:=@Go.WideElems.Fit.stay
def Go.Brisk.M:=@Go.Brisk.mono
def Go.RowKit.Hid.U:=@Go.RowKit.Hid.out
def Go.Steps.Y:=@Go.Steps.refl
def Go.RowKit.Below.Z:=@Go.RowKit.Below.cell
def Go.Rows.M:=@Go.Rows.mono
def Go.CallsIn.M:=@Go.CallsIn.mono
def Go.World.keptBut.E:=@Go.World.keptBut.shape
def Go.Shut.U:=@Go.Shut.out
def Go.StepsIn.J:=@Go.StepsIn.trans
def Go.World.Extends.Z:=@Go.World.Extends.cell
def Go.CallsD.M:=@Go.CallsD.mono
def Go.Steps.J:=@Go.Steps.trans
def Go.Steps.O:=@Go.Steps.one
def Go.RowKit.Grown.Y:=@Go.RowKit.Grown.refl
def List.Perm.Y:=@List.Perm.refl
def List.Perm.J:=@List.Perm.trans
def List.Perm.S:=@List.Perm.symm
def List.Subset.J:=@List.Subset.trans
def List.Sublist.em:=@List.Sublist.mem
theorem QD:True:=trivial
def QI:=@if_neg
def QJ:=@if_pos
def QR:=@of_decide_eq_true
def QU:=@absurd
def Rk:=@decide_eq_true
def Ru:=@congrArg
def Rv:=@if_false
def RA:=@decide_eq_false
def RB:=@of_decide_eq_false
def RC:=@if_true
end Go.Proofs.YtinijkiakbbokaaGreat
namespace Go.Proofs.YtinijkiakbbokaaGreat
open Go.Proofs.YtinijkiakbbokaaGreat _root_.Go.RowKit Go.Proofs.Tryz
open Go.Proofs.Tryz renaming prog->am
open _root_.Go.RowKit renaming Below->bi,Hid->HO
open _root_.Go renaming World->cJ,Calls->eE,Value->eQ,run_underlying->oZ,maxLen->pJ,heap_alloc_new->rC,info_parts->sB,cell_of_row->ta,block_lt_of_cell->uK,Program->xm,TypeId->zo,typeInfo->IS,mem_ready->Ow,sizeOf->Oy,setRow_heap->OB,setRow_other->PY
open _root_.List renaming length_append->da,setIfInBounds_toArray->mV,set_cons_succ->nn,length_cons->pn,append_assoc->pB,set_cons_zero->pP,length_take->pS,range->sD,mem_cons->us,flatMap_cons->vL,eq_nil_of_length_eq_zero->wI,mem_singleton->xd,nil_append->xe,not_mem_nil->xz,length_drop->DM,mem_flatMap->He,size_toArray->NP,take_append_drop->Qm,mem_of_mem_drop->Qw,drop_append_of_le_length->QC
open _root_.Nat renaming le_refl->kg,le_trans->lI,lt_of_lt_of_le->qk,zero_add->KW,add_zero->PI
open Go.Region renaming ready->nF,wanted->AT,binds->Pl
open Go.Value renaming int->nR,slice->tf,ownBlock->ON,string->OW
open _root_.ByteArray renaming empty->oR
open Go.Builtin renaming append_->pV
open Go.Sem renaming run_bind->rq,run_pure->ws,run->zw
open _root_.Array renaming getD_eq_getD_getElem?->xi,length_toList->yJ
open Go.Act renaming put->zO
open Option.some renaming inj->AI
open Option renaming map_eq_some_iff->Cf,map_some->OX
open Go.Addr renaming add_lit->Hq
open Go.IntKind renaming i64->IR
open _root_.Go.RowKit.Below renaming heap_alloc->Jm,heap_setCell->Ly
open Go.IntWalk renaming i64_in->Np
instance:Coe cJ Nat:=⟨λ w=>w.heap.size⟩
instance:Coe cJ (Nat->Prop):=⟨λ w k=>w.heap.size<=k⟩
instance:Coe Int eQ:=⟨nR .i64⟩
instance:Coe Nat eQ:=⟨λ g=>.pointer (some ⟨g,0,none⟩)⟩
instance{α}{x:List α}:CoeT (List α) x Nat:=⟨x.length⟩
instance{α}{x:List α}:CoeT (List α) x (Array α):=⟨x.toArray⟩
instance{x:eQ}:CoeT eQ x Ending:=⟨.returned x⟩
instance{x:Bool}:CoeT Bool x eQ:=⟨.bool x⟩
instance{x:Bool}:CoeT Bool x Ending:=⟨.returned (.bool x)⟩
instance{x:Int}:CoeT Int x Ending:=⟨.returned (.int .i64 x)⟩
instance{x:ByteArray}:CoeT ByteArray x eQ:=⟨.string x⟩
instance{x:List eQ}:CoeT (List eQ) x eQ:=⟨.agg x.toArray⟩
instance{x:List eQ}:CoeT (List eQ) x Ending:=⟨.returned (.agg x.toArray)⟩
instance{x:Unit}:CoeT Unit x eQ:=⟨.tuple #[]⟩
instance{x:Unit}:CoeT Unit x Ending:=⟨.returned (.tuple #[])⟩
instance{x:Nat}:CoeT Nat x (Option Addr):=⟨some ⟨x,0,none⟩⟩
def oy{P Q:Prop}(q:Q)(h:(Unit→Q)→P:=by intro q;(conv=>whnf);(repeat'(first|(refine C _ _ _ _ ?_;(conv=>whnf))|(refine⟨λ h=>by cases h,λ _=>?_⟩;(conv=>whnf))|(refine⟨λ _=>?_,λ h=>by cases h⟩;(conv=>whnf))|(refine⟨⟨by omega,by omega⟩,?_⟩;(conv=>whnf))|(refine⟨_,_,rfl,⟨by omega,by omega⟩,?_⟩;(conv=>whnf))|(refine⟨_,⟨by assumption,oK⟩,?_⟩;(conv=>whnf))|(refine⟨_,rfl,oK,?_⟩;(conv=>whnf))|fail));exact q ()):P:=h fun _=>q
def oc{P A B:Prop}(a:A)(b:B)(h:(Unit→A)→(Unit→B)→P:=by intro a b;refine⟨λ h=>?_,λ h=>?_⟩<;>simp only[bb]at h;revert h;exact a ();revert h;exact b ()):P:=h (fun _=>a) fun _=>b
def oz{P A B:Prop}(a:A)(b:B)(h:(Unit→A)→(Unit→B)→P:=by intro a b;(conv=>whnf);(repeat'(refine C _ _ _ _ ?_;(conv=>whnf)));refine⟨λ h=>?_,λ h=>?_⟩<;>simp only[bb]at h;revert h;exact a ();revert h;exact b ()):P:=h (fun _=>a) fun _=>b
def oY{A P Q:Prop}(f:A)(q:Q)(h:A→(Unit→Q)→P:=by intro f q;refine br aY aZ f rfl ?_;intro c C;(conv=>whnf);(repeat'(refine C _ _ _ _ ?_;(conv=>whnf)));revert c C;exact q ()):P:=h f fun _=>q
def bo{S:Sort _}{c:Prop}(b:S)(d:let b:=b;c:=by intro b;exact b.I (by exact b.a)):c:=d
def ax{a:Prop}(b:a:=by exact ⟨_,rfl⟩):a:=b
def az{S:Sort _}{b:Prop}(a:S)(c:let a:=a;b:=by intro a;simpa using a):b:=c
def aC{c:Prop}(d:c:=by intro a b;simp[Value.cells]at b;subst b;rfl):c:=d
def aF{S T:Sort _}{c:Prop}(a:S)(b:T)(d:let a:=a;let b:=b;c:=by intro a b;exact⟨.I a,.I b,trivial⟩):c:=d
def aH{b:Prop}(c:b:=by exact λ _ _ _ a=>a):b:=c
def bn{S T U:Sort _}{d:Prop}(a:S)(b:T)(c:U)(e:let a:=a;let b:=b;let c:=c;d:=by intro a b c;exact⟨.I a,.I b,.I c,trivial⟩):d:=e
def eb{S:Sort _}{b:Prop}(a:S)(c:let a:=a;b:=by intro a;exact ⟨a,trivial⟩):b:=c
def ei{a:Prop}(b:a:=by exact ⟨rfl,trivial,trivial⟩):a:=b
def et{a:Prop}(b:a:=by unfold maxLen;omega):a:=b
def eB{S:Sort _}{b:Prop}(a:S)(c:let a:=a;b:=by intro a;exact ⟨_,List.getElem?_eq_getElem a⟩):b:=c
def eF{S T:Sort _}{e:Prop}(a:S)(b:T)(f:let a:=a;let b:=b;e:=by intro a b;exact aB.dE (Below.refl _ w) (Nat.le_refl _) trivial (λ c _ d=>a c d) b):e:=f
def eL{a:Prop}(b:a:=by exact ⟨trivial,rfl⟩):a:=b
def fq{S:Sort _}{k:Prop}(a:S)(l:let a:=a;k:=by intro a;exact λ b c ⟨d,e,f,g,h,i,j⟩=>⟨_,_,e,_,f,d,⟨rfl,rfl,rfl,g.J a⟩,h.r,h.t,i,j⟩):k:=l
def ft{S:Sort _}{b:Prop}(a:S)(c:let a:=a;b:=by intro a;exact List.getElem?_eq_some_iff.1 a):b:=c
def fW{S:Sort _}{d:Prop}(a:S)(e:let a:=a;d:=by intro a;exact λ b _ c=>a.block b c):d:=e
def gT{S:Sort _}{b:Prop}(a:S)(c:let a:=a;b:=by intro a;exact⟨.I a,trivial⟩):b:=c
def gW{S T U:Sort _}{d:Prop}(a:S)(b:T)(c:U)(e:let a:=a;let b:=b;let c:=c;d:=by intro a b c;exact a.Q b c (by simp)):d:=e
def hP{d:Prop}(e:d:=by exact λ a b c=>⟨c,b⟩):d:=e
def ik{a:Prop}(b:a:=by simp;omega):a:=b
def jj{S:Sort _}{b:Prop}(a:S)(c:let a:=a;b:=by intro a;exact ⟨_,_,rfl,oo,a⟩):b:=c
def jt{S T:Sort _}{c:Prop}(a:S)(b:T)(d:let a:=a;let b:=b;c:=by intro a b;exact ⟨_,rfl,a,b⟩):c:=d
def kp{a:Prop}(b:a:=by simp only;omega):a:=b
def kB{S T U:Sort _}{d:Prop}(a:S)(b:T)(c:U)(e:let a:=a;let b:=b;let c:=c;d:=by intro a b c;exact a.J (b.B c (by exact oK))):d:=e
def kG{S T U:Sort _}{d:Prop}(a:S)(b:T)(c:U)(e:let a:=a;let b:=b;let c:=c;d:=by intro a b c;exact a.J (b.B c trivial)):d:=e
def kM{S:Sort _}{b:Prop}(a:S)(c:let a:=a;b:=by intro a;have:=a.size;omega):b:=c
def kN{a:Prop}(b:a:=by exact ⟨by omega,by omega⟩):a:=b
def kO{a:Prop}(b:a:=by exact bS.nil _ _ _ _):a:=b
def kS{c:Prop}(d:c:=by exact λ a b=>⟨show 3<=a by omega,show a≠19 by omega⟩):c:=d
def kW{S:Sort _}{b:Prop}(a:S)(c:let a:=a;b:=by intro a;exact a.B (Nat.le_refl _) trivial):b:=c
def kY{S T U V:Sort _}{e:Prop}(a:S)(b:T)(c:U)(d:V)(f:let a:=a;let b:=b;let c:=c;let d:=d;e:=by intro a b c d;exact⟨.I a,.I b,.I c,.I d,trivial⟩):e:=f
def lg{a:Prop}(b:a:=by exact Sl.nil _ _ _ _):a:=b
def li{c:Prop}(d:c:=by exact λ a b=>⟨show 3<=a by unfold tB at b;omega,show a≠19 by unfold tB at b;omega⟩):c:=d
def lm{a:Prop}(b:a:=by exact .N (.N rfl)):a:=b
def lz{a:Prop}(b:a:=by exact (Below.refl _ _).alloc (Nat.le_refl _) _):a:=b
def lD{S T:Sort _}{e:Prop}(a:S)(b:T)(f:let a:=a;let b:=b;e:=by intro a b;exact λ c d=>a.U c (by rw[<-b];exact d)):e:=f
def lG{S:Sort _}{b:Prop}(a:S)(c:let a:=a;b:=by intro a;exact List.mem_append.1 a):b:=c
def lT{j:Prop}(k:j:=by exact λ a b ⟨c,d,e,f,g,h,i⟩=>⟨_,_,d,_,e,c,oK,g.r,g.t,h,i⟩):j:=k
def lW{S:Sort _}{b:Prop}(a:S)(c:let a:=a;b:=by intro a;exact aA.bR a _ oo):b:=c
def mg{S:Sort _}{b:Prop}(a:S)(c:let a:=a;b:=by intro a;have:=a.2;omega):b:=c
def mj{a:Prop}(b:a:=by exact ⟨_,List.getElem?_eq_getElem oo⟩):a:=b
def ml{S:Sort _}{b:Prop}(a:S)(c:let a:=a;b:=by intro a;exact ⟨a.r,a.t⟩):b:=c
def mm{S T U:Sort _}{d:Prop}(a:S)(b:T)(c:U)(e:let a:=a;let b:=b;let c:=c;d:=by intro a b c;rw[<-a,<-b];exact heap_alloc_new c _):d:=e
def mo{c:Prop}(d:c:=by exact λ a _ b=>b):c:=d
def mw{a:Prop}(b:a:=by exact .I (.N rfl)):a:=b
def mD{a:Prop}(b:a:=by exact ⟨rfl,trivial⟩):a:=b
def mH{a:Prop}(b:a:=by exact ⟨rfl,rfl⟩):a:=b
def mP{S:Sort _}{e:Prop}(a:S)(f:let a:=a;e:=by intro a;exact λ b c d=>a.Q b d oV):e:=f
def mR{S T:Sort _}{c:Prop}(a:S)(b:T)(d:let a:=a;let b:=b;c:=by intro a b;exact⟨a,b,trivial⟩):c:=d
def mZ{a:Prop}(b:a:=by go_wp2_with fail;go_ret;exact oK):a:=b
def m8{j:Prop}(k:j:=by exact λ a b ⟨c,d,e,f,g,h,i⟩=>⟨_,_,d,_,e,c,oV,g.r,g.t,h,i⟩):j:=k
def nl{c:Prop}(d:c:=by exact λ a b _=>Below.heap_setCell _ _ _ _ b.2):c:=d
def nw{c:Prop}(d:c:=by exact λ a _ b=>b.1):c:=d
def nG{a:Prop}(b:a:=by exact bQ (by omega) (by omega)):a:=b
def nJ{S T:Sort _}{d:Prop}(a:S)(b:T)(e:let a:=a;let b:=b;d:=by intro a b;exact ⟨λ _ c=>a.J c,b⟩):d:=e
def nN{S T U:Sort _}{d:Prop}(a:S)(b:T)(c:U)(e:let a:=a;let b:=b;let c:=c;d:=by intro a b c;exact a b (List.mem_of_getElem? c)):d:=e
def nT{c:Prop}(d:c:=by exact λ a b=>dF b):c:=d
def nV{S:Sort _}{e:Prop}(a:S)(f:let a:=a;e:=by intro a;exact λ b c d=>a.Q b d (aX oo).em):e:=f
def nX{S:Sort _}{b:Prop}(a:S)(c:let a:=a;b:=by intro a;have:=a.1;omega):b:=c
def nZ{b:Prop}(c:b:=by exact λ _ _ a=>a.F):b:=c
def oG{S:Sort _}{b:Prop}(a:S)(c:let a:=a;b:=by intro a;simp at a;omega):b:=c
def o7{a:Prop}(b:a:=by exact ⟨rfl,trivial,rfl,trivial,trivial⟩):a:=b
def pe{f:Prop}(g:f:=by exact λ a b ⟨c,d,e⟩=>by grind):f:=g
def pj{c:Prop}(d:c:=by intro a b;simp at b;subst b;rfl):c:=d
def pm{b:Prop}(c:b:=by exact λ _ _ a=>a):b:=c
def pu{S:Sort _}{i:Prop}(a:S)(j:let a:=a;i:=by intro a;exact ⟨λ{b c d}e f=>by obtain⟨c,g,b,d⟩:=e;exact⟨c,g,(f a c (aQ b)).J b,d.V λ h d b=>f h d.1 b⟩,λ e f=>e.M f⟩):i:=j
def pz{S:Sort _}{e:Prop}(a:S)(f:let a:=a;e:=by intro a;exact λ b c d=>a.block b d):e:=f
def pG{S:Sort _}{b:Prop}(a:S)(c:let a:=a;b:=by intro a;rw[a];omega):b:=c
def pH{S T:Sort _}{c:Prop}(a:S)(b:T)(d:let a:=a;let b:=b;c:=by intro a b;show a≠b;omega):c:=d
def pI{S:Sort _}{b:Prop}(a:S)(c:let a:=a;b:=by intro a;rw[a];decide):b:=c
def pR{a:Prop}(b:a:=by exact dU oo oo oo):a:=b
def qe{S:Sort _}{b:Prop}(a:S)(c:let a:=a;b:=by intro a;exact (Below.refl _ a).alloc (Nat.le_refl _) _):b:=c
def qg{S:Sort _}{b:Prop}(a:S)(c:let a:=a;b:=by intro a;simp[a]):b:=c
def qj{a:Prop}(b:a:=by exact ⟨_,List.getElem?_eq_getElem (by omega)⟩):a:=b
def qm{e:Prop}(f:e:=by exact λ a b ⟨c,d⟩=>⟨c,d▸Below.refl _ _⟩):e:=f
def qs{S:Sort _}{b:Prop}(a:S)(c:let a:=a;b:=by intro a;exact ⟨rfl,a⟩):b:=c
def rh{c:Prop}(d:c:=by exact λ a _ b=> .N b):c:=d
def rk{a:Prop}(b:a:=by simp only[List.length_append,List.length_singleton];omega):a:=b
def rl{S:Sort _}{b:Prop}(a:S)(c:let a:=a;b:=by intro a;exact a.B (Nat.le_refl _) (by exact oK)):b:=c
def ro{a:Prop}(b:a:=by exact ⟨_,_,rfl⟩):a:=b
def rt{c:Prop}(d:c:=by exact λ a b=>⟨b.1,show a≠19 by have:=b.2;omega⟩):c:=d
def rx{a:Prop}(b:a:=by go_wp2_with fail;go_ret2;exact oK):a:=b
def ry{c:Prop}(d:c:=by exact λ a _ b=>b.F):c:=d
def rA{S T:Sort _}{c:Prop}(a:S)(b:T)(d:let a:=a;let b:=b;c:=by intro a b;rw[a];exact b):c:=d
def rD{b:Prop}(c:b:=by exact λ a=>by subst a;omega):b:=c
def rK{l:Prop}(m:l:=by exact λ a b ⟨c,d,e,f,g,h,i,j,k⟩=>⟨_,_,f,_,g,c,oP,i.r,i.t,j,k⟩):l:=m
def rU{S T:Sort _}{c:Prop}(a:S)(b:T)(d:let a:=a;let b:=b;c:=by intro a b;exact (a.Z (block_lt_of_cell b)).J b):c:=d
def rX{S T:Sort _}{c:Prop}(a:S)(b:T)(d:let a:=a;let b:=b;c:=by intro a b;exact a.U.J (b.M a.U.size)):c:=d
def rZ{S T:Sort _}{c:Prop}(a:S)(b:T)(d:let a:=a;let b:=b;c:=by intro a b;rw[a];exact b.c1):c:=d
def sf{S T:Sort _}{c:Prop}(a:S)(b:T)(d:let a:=a;let b:=b;c:=by intro a b;rw[a];exact b.c0):c:=d
def sg{S:Sort _}{e:Prop}(a:S)(f:let a:=a;e:=by intro a;exact λ b c d=>a.Q b d (bQ (by omega) (Ne.S c.2)).em):e:=f
def sj{S:Sort _}{b:Prop}(a:S)(c:let a:=a;b:=by intro a;exact List.mem_map.1 a):b:=c
def ss{c:Prop}(d:c:=by exact ⟨λ a b=>a.V b,λ a b=>a.M b⟩):c:=d
def sO{S:Sort _}{d:Prop}(a:S)(e:let a:=a;d:=by intro a;exact λ b _ c=>a b c):d:=e
def sW{j:Prop}(k:j:=by exact λ a b ⟨c,d,e,f,g,h,i⟩=>⟨_,_,d,_,e,c,oP,g.r,g.t,h,i⟩):j:=k
def th{S:Sort _}{b:Prop}(a:S)(c:let a:=a;b:=by intro a;have:=a.bJ 0 rfl;omega):b:=c
def tx{S:Sort _}{b:Prop}(a:S)(c:let a:=a;b:=by intro a;exact Av (by simpa[rf]using a) rfl):b:=c
def tA{S:Sort _}{b:Prop}(a:S)(c:let a:=a;b:=by intro a;go_enter Tryz.func239,Tryz.ntmps239;go_wp2_with fail;go_quiet((go_at_call 311;exact YV (YP _ (by first|(simp;omega)|omega) (by unfold maxLen;first|(simp;omega)|omega) _)));go_wp2_with fail;go_ret3;exact⟨by rw[Jj a];rfl,YU _ _ _⟩):b:=c
def tK{S:Sort _}{d:Prop}(a:S)(e:let a:=a;d:=by intro a;exact λ b _ c=>⟨c.1.1,(a b c.2).J c.1.2⟩):d:=e
def tP{S:Sort _}{b:Prop}(a:S)(c:let a:=a;b:=by intro a;exact bX.em (by exact a)):b:=c
def tW{S T:Sort _}{c:Prop}(a:S)(b:T)(d:let a:=a;let b:=b;c:=by intro a b;exact Nat.lt_of_lt_of_le a b.size):c:=d
def tY{S:Sort _}{d:Prop}(a:S)(e:let a:=a;d:=by intro a;exact λ b c=>(dF (by omega)).J (a b c)):d:=e
def uf{a:Prop}(b:a:=by simp[Value.oneCell']):a:=b
def uh{S T:Sort _}{c:Prop}(a:S)(b:T)(d:let a:=a;let b:=b;c:=by intro a b;exact a.vB b (Nat.le_refl _)):c:=d
def uj{d:Prop}(e:d:=by exact λ a b c=>by omega):d:=e
def ul{S T U V:Sort _}{f:Prop}(a:S)(b:T)(c:U)(d:V)(g:let a:=a;let b:=b;let c:=c;let d:=d;f:=by intro a b c d;exact aB.gen (Below.refl _ a) (Nat.le_refl _) (by exact oK) (λ e _ _ _=>D4 b c e) d):f:=g
def um{S:Sort _}{d:Prop}(a:S)(e:let a:=a;d:=by intro a;rintro b c ⟨rfl,rfl⟩;go_wp2_with fail;go_ret;exact⟨rfl,a.U,aA.Y _ _⟩):d:=e
def ut{S:Sort _}{b:Prop}(a:S)(c:let a:=a;b:=by intro a;exact ⟨[],sy 130000000,by kernel_rfl,a⟩):b:=c
def uu{f:Prop}(g:f:=by exact λ a b ⟨⟨c,d⟩,e⟩=>⟨⟨_,d⟩,e.M oo⟩):f:=g
def uH{a:Prop}(b:a:=by exact⟨oV,trivial⟩):a:=b
def uJ{a:Prop}(b:a:=by exact⟨id,id,trivial⟩):a:=b
def u7{S:Sort _}{b:Prop}(a:S)(c:let a:=a;b:=by intro a;exact⟨.N a.1,.N a.2.1,.N a.2.2,trivial⟩):b:=c
def u9{g:Prop}(h:g:=by exact λ a b ⟨c,d,e⟩=>by simp only[List.mem_cons,List.not_mem_nil,or_false]at d;have f:=b.2;rcases d with rfl|rfl|rfl|rfl|rfl;exact f.1 e;exact f.2.1 e;exact f.2.2.1 e;exact f.2.2.2.1 e;exact f.2.2.2.2.1 e):g:=h
def vj{S:Sort _}{d:Prop}(a:S)(e:let a:=a;d:=by intro a;exact λ b c _ _=>a b c):d:=e
def vA{f:Prop}(g:f:=by exact λ a b ⟨c,d,e⟩=>bX.em (by exact b.2) c d e):f:=g
def vI{S T:Sort _}{c:Prop}(a:S)(b:T)(d:let a:=a;let b:=b;c:=by intro a b;exact a _ _ _ _ _ rfl b):c:=d
def vJ{c:Prop}(d:c:=by exact λ a b=>b.2.1):c:=d
def vY{S T:Sort _}{e:Prop}(a:S)(b:T)(f:let a:=a;let b:=b;e:=by intro a b;exact ⟨rfl,rfl,rfl,by simp,λ c _ d=>setRow_other a b c _ d⟩):e:=f
def wn{S:Sort _}{b:Prop}(a:S)(c:let a:=a;b:=by intro a;rw[<-List.drop_eq_getElem_cons a,List.take_append_drop]):b:=c
def ww{a:Prop}(b:a:=by exact⟨id,trivial⟩):a:=b
def wK{S:Sort _}{f:Prop}(a:S)(g:let a:=a;f:=by intro a;exact λ b=>by rcases b with⟨c,d,e⟩|b;have:=a;simp only[List.mem_cons,List.not_mem_nil,or_false]at d;rcases d with rfl|rfl|rfl|rfl;exact this.1 e;exact this.2.1 e;exact this.2.2.1 e;exact this.2.2.2.1 e;omega):f:=g
def wV{S:Sort _}{d:Prop}(a:S)(e:let a:=a;d:=by intro a;exact λ b _ c=>by rcases c with rfl|rfl;exact .N ⟨_,List.mem_of_getElem? a,rfl⟩;exact .I rfl):d:=e
def xK{b:Prop}(c:b:=by exact λ a=>absurd (show(1:Fin 3)=2 from a) dd):b:=c
def xL{S T U:Sort _}{d:Prop}(a:S)(b:T)(c:U)(e:let a:=a;let b:=b;let c:=c;d:=by intro a b c;exact⟨a,b,c,trivial⟩):d:=e
def xM{S:Sort _}{d:Prop}(a:S)(e:let a:=a;d:=by intro a;exact Calls.mono a λ _ _⟨b,c⟩=>⟨b,0,c⟩):d:=e
def xU{a:Prop}(b:a:=by exact ⟨oo,oo⟩):a:=b
def xZ{c:Prop}(d:c:=by exact λ a b=>qU b):c:=d
def x5{S:Sort _}{b:Prop}(a:S)(c:let a:=a;b:=by intro a;have:=a.2.1;omega):b:=c
def yo{S:Sort _}{b:Prop}(a:S)(c:let a:=a;b:=by intro a;unfold lx Ff;rw[a];rfl):b:=c
def yq{S T:Sort _}{c:Prop}(a:S)(b:T)(d:let a:=a;let b:=b;c:=by intro a b;exact Aw rfl rfl rfl rfl a.U b):c:=d
def yy{S:Sort _}{c:Prop}(a:S)(d:let a:=a;c:=by intro a;exact ⟨_,rfl,b,a⟩):c:=d
def yK{S:Sort _}{b:Prop}(a:S)(c:let a:=a;b:=by intro a;exact ⟨a.1.2,a.2⟩):b:=c
def yM{S:Sort _}{b:Prop}(a:S)(c:let a:=a;b:=by intro a;exact a.M (Nat.le_succ m) (Nat.le_refl k)):b:=c
def y0{S T:Sort _}{c:Prop}(a:S)(b:T)(d:let a:=a;let b:=b;c:=by intro a b;exact a _ _ _ _ b):c:=d
def y1{S:Sort _}{b:Prop}(a:S)(c:let a:=a;b:=by intro a;exact Ne.S a):b:=c
def y2{c:Prop}(d:c:=by exact λ a b=>jM b):c:=d
def y3{S:Sort _}{b:Prop}(a:S)(c:let a:=a;b:=by intro a;exact List.mem_flatMap.1 a):b:=c
def y5{b:Prop}(c:b:=by exact fun a=>(by cases a)):b:=c
def zk{S:Sort _}{f:Prop}(a:S)(g:let a:=a;f:=by intro a;exact λ b c d e=>a b c d.t):f:=g
def zt{S:Sort _}{b:Prop}(a:S)(c:let a:=a;b:=by intro a;exact Lib.H a):b:=c
def zF{S:Sort _}{b:Prop}(a:S)(c:let a:=a;b:=by intro a;have:=a.bJ 1 rfl;omega):b:=c
def zK{S T U:Sort _}{d:Prop}(a:S)(b:T)(c:U)(e:let a:=a;let b:=b;let c:=c;d:=by intro a b c;exact a.eo (b.eo c (aX oo)) (aX oo)):d:=e
def zL{S T:Sort _}{f:Prop}(a:S)(b:T)(g:let a:=a;let b:=b;f:=by intro a b;exact λ c d e=>(⟨e,d⟩:a.heap.size<=c/\c<b.heap.size)):f:=g
def zP{f:Prop}(g:f:=by exact λ a b ⟨c,d,e⟩=>by simp only[List.mem_cons,List.not_mem_nil,or_false]at d;rcases d with rfl|rfl|rfl<;>simp only at e<;>simp[tp,<-e]):f:=g
def zR{a:Prop}(b:a:=by exact oh (enc:=iC) (λ _=>rfl) _):a:=b
def An{a:Prop}(b:a:=by exact Option.map_eq_some_iff.1 Tryz.Fy):a:=b
def AB{S:Sort _}{b:Prop}(a:S)(c:let a:=a;b:=by intro a;exact a.M (Nat.le_succ k) (Nat.le_refl ka)):b:=c
def AR{S T:Sort _}{c:Prop}(a:S)(b:T)(d:let a:=a;let b:=b;c:=by intro a b;exact ⟨a,b,trivial⟩):c:=d
def AS{a:Prop}(b:a:=by exact ⟨⟨rfl,rfl,trivial⟩,rfl⟩):a:=b
def Bp{a:Prop}(b:a:=by exact ⟨rfl,rfl,rfl,trivial⟩):a:=b
def Bq{S:Sort _}{b:Prop}(a:S)(c:let a:=a;b:=by intro a;exact (dF oo).J a):b:=c
def Bu{S:Sort _}{b:Prop}(a:S)(c:let a:=a;b:=by intro a;exact ⟨by have:=(a).1;omega,by have:=(a).2;omega⟩):b:=c
def Bz{f:Prop}(g:f:=by exact λ a b ⟨c,d,e⟩=>by simp only[List.mem_cons,List.not_mem_nil,or_false]at d;rcases d with rfl|rfl;exact e.S;simp only at e;omega):f:=g
def BC{d:Prop}(e:d:=by exact λ a b c=>⟨c.1,(dF c.2.1).J c.2.2.1⟩):d:=e
def BD{b:Prop}(c:b:=by exact a.F (λ a=>(qU a.2).J a.1) λ a=>Ua a):b:=c
def BE{a:Prop}(b:a:=by simp only at this;omega):a:=b
def BH{S T U:Sort _}{d:Prop}(a:S)(b:T)(c:U)(e:let a:=a;let b:=b;let c:=c;d:=by intro a b c;exact (aA.Y a b).setCell (λ _=>c) _):d:=e
def BZ{f:Prop}(g:f:=by exact λ a b ⟨c,d,e⟩=>b.2.em c d e):f:=g
def Cj{S:Sort _}{b:Prop}(a:S)(c:let a:=a;b:=by intro a;have:=congrArg List.length a.e;simpa using this):b:=c
def Cu{S T U:Sort _}{d:Prop}(a:S)(b:T)(c:U)(e:let a:=a;let b:=b;let c:=c;d:=by intro a b c;exact a.U b (by rw[c];decide)):d:=e
def Cw{S:Sort _}{e:Prop}(a:S)(f:let a:=a;e:=by intro a;exact λ b c d _=>by have:=Nw d;rw[a]at this;exact this):e:=f
def Cz{b:Prop}(c:b:=by exact λ a=>(by cases a)):b:=c
def CB{S:Sort _}{c:Prop}(a:S)(d:let a:=a;c:=by intro a;exact λ b=>a b.S):c:=d
def CE{S:Sort _}{b:Prop}(a:S)(c:let a:=a;b:=by intro a;rw[a];simp):b:=c
def CJ{c:Prop}(d:c:=by exact λ a b=>if_pos b):c:=d
def CL{S:Sort _}{b:Prop}(a:S)(c:let a:=a;b:=by intro a;rw[a];rfl):b:=c
def CV{a:Prop}(b:a:=by exact ⟨rfl,rfl,rfl⟩):a:=b
def C0{S T:Sort _}{c:Prop}(a:S)(b:T)(d:let a:=a;let b:=b;c:=by intro a b;exact a b (by omega)):c:=d
def Do{S:Sort _}{b:Prop}(a:S)(c:let a:=a;b:=by intro a;have:=a.bJ 2 rfl;omega):b:=c
def DK{S:Sort _}{b:Prop}(a:S)(c:let a:=a;b:=by intro a;exact ⟨_,rfl,oK,a⟩):b:=c
def Eq{S T:Sort _}{c:Prop}(a:S)(b:T)(d:let a:=a;let b:=b;c:=by intro a b;exact Nat.lt_of_lt_of_le (Nat.mul_lt_mul_of_pos_right (K9 a) (Nat.two_pow_pos _)) b):c:=d
def Er{a:Prop}(b:a:=by exact IntWalk.i64_in _ (by omega)):a:=b
def EG{S:Sort _}{b:Prop}(a:S)(d:let a:=a;b:=by intro a;have:=a.c.size;omega):b:=d
def EU{c:Prop}(d:c:=by intro a b;simp at b;rcases b with rfl|rfl|rfl<;>rfl):c:=d
def Fm{a:Prop}(b:a:=by exact ⟨by simp,by simp⟩):a:=b
def Fq{a:Prop}(b:a:=by go_wp2_with fail;go_end0;exact oK):a:=b
def Fr{a:Prop}(b:a:=by go_enter Tryz.func197,Tryz.ntmps197;go_wp2;go_ret;exact oK):a:=b
def Fs{a:Prop}(b:a:=by exact ⟨by decide,by decide⟩):a:=b
def Fv{k:Prop}(l:k:=by exact λ a b ⟨c,d,e,f,g,h,i,j⟩=>⟨_,h,⟨c,d,e,f,g,rfl,i⟩,j⟩):k:=l
def FI{S:Sort _}{b:Prop}(a:S)(c:let a:=a;b:=by intro a;unfold tB at a;omega):b:=c
def FK{S:Sort _}{b:Prop}(a:S)(c:let a:=a;b:=by intro a;exact a _ oo oo):b:=c
def FL{S:Sort _}{b:Prop}(a:S)(c:let a:=a;b:=by intro a;exact ⟨[],sy 13000000000000000,kk,a⟩):b:=c
def FM{S T:Sort _}{e:Prop}(a:S)(b:T)(f:let a:=a;let b:=b;e:=by intro a b;exact λ c d=>a.st c (by rw[b];simp[d])):e:=f
def FN{c:Prop}(d:c:=by intro a b;simp at b;rcases b with rfl|rfl<;>rfl):c:=d
def FP{S T:Sort _}{c:Prop}(a:S)(b:T)(d:let a:=a;let b:=b;c:=by intro a b;exact λ _=>⟨aO a rfl,aO b rfl,aO b rfl,aO b rfl,aO b rfl,aO b rfl,aO b rfl⟩):c:=d
def FQ{b:Prop}(c:b:=by exact λ a=>absurd (show(1:Fin 3)=0 from a) (by decide)):b:=c
def FU{S:Sort _}{e:Prop}(a:S)(f:let a:=a;e:=by intro a;exact λ b _ c=>c.F (λ d=>d▸a.fg) λ d=>d▸a.fb):e:=f
def Gf{a:Prop}(b:a:=by exact oD.nil _ _ _ _ _ _ _):a:=b
def Gl{S:Sort _}{b:Prop}(a:S)(c:let a:=a;b:=by intro a;exact⟨.N a.fg,trivial⟩):b:=c
def GE{S:Sort _}{b:Prop}(a:S)(c:let a:=a;b:=by intro a;exact ⟨_,oK,a⟩):b:=c
def GP{S:Sort _}{b:Prop}(a:S)(c:let a:=a;b:=by intro a;exact ⟨[],sy 100000000000000,by kernel_rfl,a⟩):b:=c
def GT{e:Prop}(f:e:=by exact λ a b c d=>by unfold tB at*;omega):e:=f
def G3{S T U:Sort _}{d:Prop}(a:S)(b:T)(c:U)(e:let a:=a;let b:=b;let c:=c;d:=by intro a b c;rw[<-a];simp[mW,b,c,lM]):d:=e
def Hs{S:Sort _}{b:Prop}(a:S)(c:let a:=a;b:=by intro a;rw[Nat.zero_add];exact aO a (by grind)):b:=c
def Hx{b:Prop}(c:b:=by exact λ a _=>a):b:=c
def HE{S T U:Sort _}{l:Prop}(a:S)(b:T)(c:U)(m:let a:=a;let b:=b;let c:=c;l:=by intro a b c;exact λ d e=>by obtain⟨f,g,h⟩:=(a.di (w':=d) λ i j k=>(e.Q i oo (EJ oo oo oo oo oo).em).J ((b.block i oo oo).J (c.block i k))).news oo;rw[g.flat]at h;exact h):l:=m
def HU{S:Sort _}{c:Prop}(b:S)(d:let b:=b;c:=by intro b;exact⟨b.a.1,oV,trivial⟩):c:=d
def H0{S:Sort _}{b:Prop}(a:S)(c:let a:=a;b:=by intro a;exact br aY aZ Tryz.func396 rfl a):b:=c
def Ic{S:Sort _}{b:Prop}(a:S)(c:let a:=a;b:=by intro a;exact ⟨[],[(0,0),(2,0),(1,2),(3,3),(4,1),(5,3),(6,3)],kk,a⟩):b:=c
def Id{c:Prop}(d:c:=by exact λ a b=>b.2.2):c:=d
def If{d:Prop}(e:d:=by exact fun a b c=>by omega):d:=e
def Ir{S:Sort _}{b:Prop}(a:S)(c:let a:=a;b:=by intro a;rw[List.drop_eq_getElem_cons a];grind):b:=c
def Iu{S:Sort _}{e:Prop}(a:S)(f:let a:=a;e:=by intro a;exact λ b c d=>a.Q b c (dU d.1 d.2.1 d.2.2).em):e:=f
def bs(a:Int):zs (.int .i64 a:eQ):=.m
def cm(a:cJ)(b:Nat):zs (a.heap[b]?):=.m
def ea(a:Ending)(b:eQ):zs (a= .returned b):=.m
def ey(a:List UInt8)(b:Nat)(c:UInt8):zs (a[b]?=some c):=.m
def fo(a:cJ)(b c:Nat->Nat):zs (∀d,d<a.heap.size->b d=c d):=.m
def f7(a:Option Addr)(b:List ByteArray)(c:Nat):zs (.slice a b c:eQ):=.m
def f9(a b c:Int):zs (a<=b/\b<=c):=.m
def gY(a:Nat->Nat)(b:Nat):zs (λ c=>a c=b):=.m
def g6(a b:Nat):zs (.pointer (some ⟨a,b,none⟩):eQ):=.m
def hJ(a:List eQ):zs (∀b∈a,b.oneCell'=true):=.m
def hK(a:cJ)(b c:Nat):zs (a.cell? ⟨b,c,none⟩):=.m
def it:zs (.slice none 0 0:eQ):=.m
def nx(a b c d:Nat):zs (.slice (some ⟨a,b,none⟩) c d:eQ):=.m
def oi(a b:Nat):zs (⟨a,b,none⟩:Addr):=.m
def om(a:List eQ)(b:Nat):zs (a.drop b):=.m
def oF(a:cJ)(b c:Nat->Prop):zs (∀d,d<a.heap.size->b d->c d):=.m
def sa(a:Sem Nat)(b:xm)(c:cJ)(d:Nat):zs (a.run b c= .ok d c):=.m
def so(a:Nat)(b:Nat->Nat)(c d:Nat):zs (λ e=>a<=e/\b e=c+d):=.m
def sA(a:Nat->Prop)(b:cJ):zs (∀c,a c->c<b):=.m
def s3(a:Nat)(b:cJ)(c d:Prop):zs (a<b.heap.size->c->d):=.m
def ti(a b:Nat):zs (.slice a b b:eQ):=.m
def xf(a:cJ)(b c:Nat):zs (.slice (some ⟨a,b,none⟩) c c:eQ):=.m
def xp(a:Nat)(b:Nat->Nat):zs (λ c=>a<=b c/\b c<a+200):=.m
def xv(a:xm)(b:zo)(c:TypeInfo):zs (a.info? b=some c):=.m
def zv(a:Nat->Prop)(b:Nat):zs (λ c=>a c/\c≠b):=.m
def Al(a b:Nat->Prop):zs (∀c,a c->¬b c):=.m
def Bv(a:Int):zs (.int .u8 a:eQ):=.m
def Bw(a:xm)(b c:zo):zs (a.underlying b=some (.slice c)):=.m
def C2(a)(b:Nat):zs (a*b<=140737488355328):=.m
def C3(a:TypeInfo)(b:eQ):zs (a.zero=some b):=.m
def E2(a:Nat->Prop)(b:cJ):zs (λ c=>(a c/\c<b)\/b<=c):=.m
def Hp(a:xm)(b:zo)(c:TypeDesc):zs (a.underlying b=some c):=.m
def IB(a:Act):zs (a.defers=[]):=.m
def IM(a:List (Int×Nat)):zs ((a.map (·.1)).Nodup):=.m
def IV(a:Nat):zs (a<=2900000000):=.m
def I3(a:xm):zs (a.follows .mixedOrders=true):=.m
def Jb(a:Int):zs (-2147483648<=a):=.m
def Jg(a:Int):zs (-2147483648<=a/\a<=2147483647):=.m
def JN(a:ByteArray):zs (a.data.toList):=.m
def Kf(a:List UInt8×List UInt8×Nat)(b:List (List UInt8)×List UInt8):zs ((a.1::b.1,b.2)):=.m
def Kw(a:FuncId):zs (.func (.func a) #[] #[]:eQ):=.m
def LA(a:List MapEntry)(b:MapEntry):zs (a.filter λ c=>c.born !=b.born):=.m
def LB(a:List ByteArray):zs (∀b∈a,b.size<=1048576):=.m
def LE(a:ByteArray):zs (.cells #[.string a] 9:Obj):=.m
def LW(a:Nat)(b:Array eQ):zs (.func (.func a) #[] b:eQ):=.m
def LY(a:Array Oper)(b c:Nat):zs (Region.waitsFor .any a b c):=.m
def Mm(a:Int):zs (-9223372036854775808<=a/\a<=9223372036854775807):=.m
def Mn(a:Exit->Act->cJ->Prop)(b:Oper)(c:eQ):zs (∀d e f,a (.panic d) (e.put b.dst c) f->a (.panic d) e f):=.m
def M5(a:Option Operand)(b c:Int)(d:Act):zs ((a=none/\b=c)\/∃e f,a=some e/\d.eval e= .int f c):=.m
def M7:zs (Nat×Int×Int×Int):=.m
def Qt{S T:Sort _}{c:Prop}(a:S)(b:T)(d:let a:=a;let b:=b;c:=by intro a b;exact ⟨_,(eb a),z b⟩):c:=d
def Rz{S:Sort _}{b:Prop}(a:S)(c:let a:=a;b:=by intro a;simp[eqGuard,binOp,Op.intArith,IntWalk.i64_in _ a.1]):b:=c
def RE{S:Sort _}{c:Prop}(a:S)(d:let a:=a;c:=by intro a;exact λ b=>(by rw[b]at a;cases a)):c:=d
def RZ{d:Prop}(e:d:=by simp only[qH,BJ,Es,Bool.and_eq_true,decide_eq_true_eq,Bool.not_eq_true',List.any_eq_false,Bool.or_eq_true,not_or]at this;obtain⟨⟨_,⟨a,b⟩,c⟩,_⟩:=this;simp only[wJ,Bool.and_eq_true,decide_eq_true_eq,List.all_eq_true];grind):d:=e
def Vk{S:Sort _}{b:Prop}(a:S)(c:let a:=a;b:=by intro a;exact mem_ready.1 a):b:=c
def VK{c:Prop}(d:c:=by intro a b;obtain⟨_,_,rfl⟩:=List.mem_map.1 b;rfl):c:=d
def We{S T U V:Sort _}{l:Prop}(a:S)(b:T)(c:U)(d:V)(m:let a:=a;let b:=b;let c:=c;let d:=d;l:=by intro a b c d;exact λ e f g=>by obtain⟨h,i,j⟩:=a.I e f g;exact⟨h,b.heap i λ k=>(c _ (d _ k).2 (d _ k).1).2.em f (List.mem_of_getElem? g) rfl,j⟩):l:=m
def Xu{S T V:Sort _}{f:Prop}(a:S)(b:T)(c:V)(g:let a:=a;let b:=b;let c:=c;f:=by intro a b c;show Sl _ _ _ _ _ _ _;rw[a.U];exact b.M λ d _ e=>Nat.le_trans c.U.size e):f:=g
def XX{S T:Sort _}{c:Prop}(a:S)(b:T)(d:let a:=a;let b:=b;c:=by intro a b;exact Array.toList_inj.1 (by simpa using N6 a b)):c:=d
def X0{S:Sort _}{b:Prop}(a:S)(c:let a:=a;b:=by intro a;exact Below.heap_alloc _ _ _ a):b:=c
def X9{a:Prop}(b:a:=by first|exact Nat.le_refl _|simp):a:=b
def Zr{S:Sort _}{h:Prop}(a:S)(i:let a:=a;h:=by intro a;have:=List.pairwise_mergeSort (le:=λ b c:Int=>decide (b<=c)) (by intro d e f;simp;omega) (by intro d e;simp;omega) a;exact this.imp λ g=>of_decide_eq_true g):h:=i
def ZS{S:Sort _}{b:Prop}(a:S)(c:let a:=a;b:=by intro a;rw[run_equalIn_array a _ 129 2 128 2 _ _ Tryz.underlying129 Tryz.sizeOf128,show List.range 2=[0,1]from rfl];simp only[LJ];go_simp;grind):b:=c
def aap{S:Sort _}{b:Prop}(a:S)(c:let a:=a;b:=by intro a;exact heap_alloc_new a _):b:=c
def aau{S:Sort _}{b:Prop}(a:S)(c:let a:=a;b:=by intro a;exact aA.bR a (λ _=>False) oo):b:=c
def aav{a:Prop}(b:a:=by exact ⟨rfl,rfl,rfl,.Y,λ _ _ _=>rfl,by simp,by simp⟩):a:=b
def aaw{a:Prop}(b:a:=by show(-1:Int)<= -1;omega):a:=b
def aay{b:Prop}(c:b:=by exact λ a=>by omega):b:=c
def aaG{S T:Sort _}{e:Prop}(a:S)(b:T)(f:let a:=a;let b:=b;e:=by intro a b;exact λ c d=>Nat.lt_of_lt_of_le (a c d) b.size):e:=f
def aaH{S:Sort _}{b:Prop}(a:S)(c:let a:=a;b:=by intro a;exact List.mem_cons.1 a):b:=c
def aaP{S:Sort _}{d:Prop}(a:S)(e:let a:=a;d:=by intro a;exact λ b c=>⟨by have:=(a b c).1;omega,by have:=(a b c).2;omega⟩):d:=e
def aaQ{a:Prop}(b:a:=by show(-1:Int)<=_;omega):a:=b
def aaR{S:Sort _}{b:Prop}(a:S)(c:let a:=a;b:=by intro a;have:=a.U;omega):b:=c
def aaS{a:Prop}(b:a:=by exact aX (by omega)):a:=b
def aaY{S:Sort _}{b:Prop}(a:S)(c:let a:=a;b:=by intro a;exact ⟨a,rfl⟩):b:=c
def aa1{S:Sort _}{b:Prop}(a:S)(c:let a:=a;b:=by intro a;exact .of_steps (.O step_scope) a):b:=c
def aa3{c:Prop}(d:c:=by exact λ a b=>(by cases b)):c:=d
def aa4{S:Sort _}{d:Prop}(a:S)(e:let a:=a;d:=by intro a;obtain⟨b,c⟩:=DX a.ne;rw[c];simp[Fg]):d:=e
def aa8{a:Prop}(b:a:=by simp[IntKind.wrap,IntKind.bits,IntKind.signed];omega):a:=b
def aa9{a:Prop}(b:a:=by rw[List.length_take];omega):a:=b
def aba{S:Sort _}{b:Prop}(a:S)(c:let a:=a;b:=by intro a;simp at a):b:=c
section
section
variable {P:xm} {ops:Array Oper} {Q:Exit→Act→cJ→Prop} {md:Region.Mode} {S:cJ→Prop} {m:Nat}
def fL(P:xm)(f:Region.Mode)(b:Array Oper)(Q:Exit->Act->cJ->Prop)(S:cJ->Prop)(m:Nat):Nat->Array Bool->Act->cJ->Prop|0,c,a,w=>nF f b c=[]/\Q .normal a w|n+1,c,a,w=>(nF f b c=[]->Q .normal a w)/\∀i,i∈nF f b c->wpOp P b Q i (λ e d=>(i≠m->S d)/\fL P f b Q S m n (c.setIfInBounds i true) e d) a w
def fL.any{n d a w}(h:fL P md ops Q S m n d a w):wpAny P md ops Q n d a w:=by induction n generalizing d a w with|zero=>exact h|succ n b=>exact⟨h.1,λ i c=>wpOp_mono (λ _ _ k=>b k.2) (h.2 i c)⟩
def fL.take{i o v n ls a w}(q:ops[i]?=some o)(K:Region.noSelect ops=true)(C:Region.waitsFor md ops m i=true)(D:Region.free md ops ls i=true)(E:(nF md ops ls).contains i=true)(L:Mn Q o v)(M:YieldsIf P ops S o v a)(N:S w)(h:fL P md ops Q S m n (ls.setIfInBounds i true) (a.put o.dst v) w):fL P md ops Q S m (n+1) ls a w:=by
 obtain⟨W,O,R,T,U,V⟩:=Region.waitsFor_spec C;have F:=Region.noSelect_spec K;have W:=λ j d A X t x=>Region.free_spec q D j d A X t x;have Y:i∈nF md ops ls:=by simpa using E
 clear D E C;have Z:∀(ls:Array _)j d,i∈nF md ops ls->j∈nF md ops ls->ops[j]?=some d->∀e∈d.after,Pl md e=true->e.on≠i:=by intro ls j d f g A e k r H;have u:=(Ow.1 f).1;obtain⟨f,G,y⟩:=(Ow.1 g).2;(obtain rfl:f=d:=by rw[A]at G;exact(AI G).S);have l:=y e k r;rw[H]at l;by_cases k:i<ls.size;(·rw[xi,Array.getElem?_eq_getElem k]at u l;simp at u l;rw[u]at l;cases l);·rw[xi,Array.getElem?_eq_none oo]at l;cases l
 have C:∀(n:Nat)(ls:Array _)(a:Act)(w:cJ),(∀j d,ops[j]?=some d->j≠i->ls.getD j true=false->(∀e∈d.after,Pl md e=true->e.on≠i)->o.apart ops d=true)->i∈nF md ops ls->YieldsIf P ops S o v a->S w->fL P md ops Q S m n (ls.setIfInBounds i true) (a.put o.dst v) w->fL P md ops Q S m (n+1) ls a w:=by intro n;induction n with|zero=>intro ls a w _ r y s H;refine⟨λ z=>(by rw[z]at r;cases r),λ j g=>?_⟩;by_cases f:j=i;subst f;exact y.wpOp q s ⟨λ _=>s,H⟩;·have k:=ready_mono g f;rw[H.1]at k;cases k|succ n E=>intro ls a w I r y s H;refine⟨λ z=>(by rw[z]at r;cases r),λ j g=>?_⟩;by_cases f:j=i;subst f;exact y.wpOp q s ⟨λ _=>s,H⟩;obtain⟨d,p,-⟩:=(Ow.1 g).2;have x:=Z ls j d r g p;(have Z:j≠m:=by rintro rfl;rw[O]at p;obtain rfl:=AI p;exact x R T U V);have V:=wpOp_putIf p (I j d p f (Ow.1 g).1 x) (λ B b=>F i o B b q) (λ B b=>F j d B b p) L y (H.2 j (ready_mono g f));refine wpOp_mono (λ q L k=>⟨k.2.1,E _ q L (λ q L o F t=>(I q L o F ?_)) (ready_mono r (Ne.S f)) k.1 (k.2.1 Z) ?_⟩) V;by_cases J:j=q;subst J;exact(Ow.1 g).1;rw[getD_set_ne _ J]at t;exact t;rw[Array.setIfInBounds_comm _ _ f];exact k.2.2
 exact C n ls a w W Y M N h
def fL.step{i o n d a w}(c:nF md ops d=[i])(e:ops[i]?=some o)(h:∀K:Act->cJ->Prop,Shut (∀b w',(i≠m->S w')->fL P md ops Q S m n (d.setIfInBounds i true) b w'->K b w')->if AT o (yielded ops a.tmps)=true then Oper.wp P o a w K Q else K (a.put o.dst undef) w):fL P md ops Q S m (n+1) d a w:=⟨λ z=>(by rw[z]at c;cases c),λ j d=>by rw[c]at d;obtain rfl:=xd.1 d;exact wpOp_step e λ K f=>h K λ b w' g k=>f b w' ⟨g,k⟩⟩
def fL.done{n c a w}(b:nF md ops c=[])(h:Q .normal a w):fL P md ops Q S m n c a w:=by cases n with|zero=>exact⟨b,h⟩|succ n=>exact⟨λ _=>h,λ i c=>by rw[b]at c;cases c⟩
def fL.region{b a w}(c:I3 P)(h:fL P .any ops Q S m ops.size (Array.replicate ops.size false) a w.drew):(Code.region b ops true).wp P Q a w:=wp_region_any c h.any
end
end
section
structure aA(w w':cJ)(S:Nat→Prop):Prop where
 os:w'.os=w.os
 tape:w'.tape=w.tape
 output:w'.output=w.output
 size:w≤w'.heap.size
 block:∀k,k<w.heap.size→¬S k→w'.heap[k]? =w.heap[k]?
def vn(a b:cJ)(c:Nat):zs (aA a b (λ d=>d=c)):=.m
def C1(a b:cJ)(c:Nat->Prop)(d:Nat->Nat):zs (aA a b λ e=>c (d e)):=.m
def aA.Y(w S):aA w w S:=⟨rfl,rfl,rfl,.Y,λ _ _ _=>rfl⟩
def aA.J{a b c S T}(h:aA a b S)(k:aA b c T)(e:oF a T S):aA a c S:=⟨k.os.J h.os,k.tape.J h.tape,k.output.J h.output,lI h.size k.size,λ i b d=>(k.block i (qk b h.size) (λ f=>d (e i b f))).J (h.block i b d)⟩
def aA.M{a b S T}(h:aA a b S)(c:oF a S T):aA a b T:=⟨h.os,h.tape,h.output,h.size,λ i b d=>h.block i b (λ h=>d (c i b h))⟩
def aA.alloc{a w S}(h:aA a w S)(o):aA a (w.alloc o) S:=⟨h.os,h.tape,h.output,lI h.size (by simp),λ i b c=>(Jm w o i (qk b h.size)).J (h.block i b c)⟩
def aA.drew{a w S}(h:aA a w S):aA a w.drew S:=⟨h.os,h.tape,h.output,h.size,h.block⟩
def aA.setCell{a w S}(h:aA a w S){p}(d:p.block<a.heap.size->S p.block)(u):aA a (w.setCell p u) S:=⟨h.os,h.tape,h.output,by simpa[World.setCell]using h.size,λ i b c=>(Ly w p u i (by rintro rfl;exact c (d b))).J (h.block i b c)⟩
def aA.bR{w w' B}(h:bi B w w')(S)(a:∀i,i<w.heap.size->B<=i->S i):aA w w' S:=⟨h.os,h.tape,h.output,h.size,λ i a b=>h.block i oV⟩
def aA.B{w w' S B}(h:aA w w' S)(b:B<=w.heap.size)(a:∀i,i<B->¬S i):bi B w w':=⟨h.os,h.tape,h.output,h.size,λ i B=>h.block i oo (a i B)⟩
def aA.heap{w w' S}(h:aA w w' S){g o}(a:w.heap[g]?=some o)(b:¬S g):w'.heap[g]?=some o:=(h.block g oV b).J a
def aA.Z{w w' S}(h:aA w w' S){p}(a:p.block<w.heap.size)(b:¬S p.block):w'.cell? p=w.cell? p:=cJ.cell?_of_block (h.block _ a b)
def aQ{w:cJ}{g o}(a:w.heap[g]?=some o):g<w.heap.size:=oV
def heap_setCell_same{w:cJ}{g i C t a}(b:w.heap[g]?=some (.cells C t a))(u):(w.setCell ⟨g,i,none⟩ u).heap[g]?=some (.cells (C.setIfInBounds i u) t a):=by simp[World.setCell,Array.getElem?_modify,b]
def heap_setCell_other{w:cJ}{g o}{p}(a:w.heap[g]?=some o)(b:g≠p.block)(u):(w.setCell p u).heap[g]?=some o:=by rw[Ly w p u g b];exact a
def qC{w:cJ}{g:Nat}{o:Obj}(a:w.heap[g]?=o)(b):(w.alloc b).heap[g]?=o:=by rw[Jm w b g (aQ a)];exact a
def aO{w:cJ}{g i C t a}(b:w.heap[g]?=some (.cells C t a)){v}(c:C[i]?=some v):w.cell? ⟨g,i,none⟩=some v:=by rw[ta w g i C t a b];exact c
def kZ{w:cJ}{g C t}(a:w.heap[g]?=some (.cells C t (0,0)))(i):w.frozen? (oi g i)=false:=by simp[World.frozen?,a]
def jn(w:cJ)(u:Nat)(x:eQ)(m:Nat)(news:List eQ):Prop:=news=m*u/\hJ news/\∃j c,x= .slice j m c/\(0<m->∃a,j=some a/\∀j u,news[j]?=some u->w.cell? (a.add j)=some u)
def Sl(w:cJ)(F:Nat->Prop)(e:zo)(b:Nat)(v:eQ)(n:Nat)(f:List eQ):Prop:=f=n*b/\((v= it/\n=0)\/∃g c a d,v= nx g c n a/\F g/\w.heap[g]?=some (.cells d e (0,0))/\n<=a/\a<=pJ/\c+a*b<=d.size/\(d.toList.drop c).take (n*b)=f)
section
variable {w w':cJ} {F G:Nat→Prop} {e:zo} {size n:Nat} {v:eQ} {xs:List eQ}
def Sl.nil(w F e a):Sl w F e a it 0 []:=⟨by simp,.N mH⟩
def Sl.V(h:Sl w F e size v n xs)(c:∀g,F g->g<w->cm w' g=w.heap[g]?):Sl w' F e size v n xs:=by refine⟨h.1,?_⟩;rcases h.2 with d|⟨g,f,i,j,k,a,b,r⟩;exact .N d;exact .I ⟨g,f,i,j,k,a,(c g a (aQ b)).J b,r⟩
def Sl.aG(h:Sl w F e size v n xs){S}(a:aA w w' S)(b:Al F S):Sl w' F e size v n xs:=h.V λ g h c=>a.block g c (b g h)
def Sl.M(h:Sl w F e size v n xs)(b:oF w F G):Sl w G e size v n xs:=by refine⟨h.1,?_⟩;rcases h.2 with c|⟨g,d,f,i,j,k,a,r⟩;exact .N c;exact .I ⟨g,d,f,i,j,b g (aQ a) k,a,r⟩
def Sl.E(h:Sl w F e size v n xs):∃b a,v= .slice b n a/\n<=a/\a<=pJ:=by rcases h.2 with⟨rfl,rfl⟩|⟨g,h,a,h,h,_,_,b,c,_⟩;grind;exact⟨_,a,h,b,c⟩
def Sl.at(h:Sl w F e size v n xs)(l:0<n):∃g a b,v= nx g a n b/\F g/\g<w/\n<=b/\b<=pJ/\∀j u,xs[j]?=some u->w.cell? ⟨g,a+j,none⟩=some u/\w.frozen? (oi g (a+j))=false:=by rcases h.2 with⟨_,m⟩|⟨g,a,b,o,d,f,c,i,k,p,q⟩;omega;refine⟨g,a,b,d,f,aQ c,i,k,λ j u r=>⟨aO c ?_,kZ c _⟩⟩;grind
def Sl.news(h:Sl w F e size v n xs)(b:hJ xs):jn w size v n xs:=by refine⟨h.1,b,?_⟩;by_cases c:0<n;obtain⟨g,i,a,rfl,_,_,_,_,d⟩:=h.at c;exact⟨_,a,rfl,λ _=>⟨_,rfl,λ j u f=>by rw[Hq];exact(d j u f).1⟩⟩;obtain⟨f,a,rfl,_,_⟩:=h.E;exact oK
def jn.laid{w size m c C t g a}(b:w.heap[g]?=some (.cells C t a))(d:C.size=m*size)(e:hJ C.toList):jn w size (nx g 0 m c) m C.toList:=by refine⟨by simpa using d,e,_,c,rfl,λ _=>⟨_,rfl,λ j u f=>?_⟩⟩;rw[Hq,KW];exact aO b (az f)
def rM(v:eQ)(k b:Nat):eQ:=match v with| .slice a c u=> .slice (if u=k then a else a.map (·.add (k*b))) (c-k) (u-k)|u=>u
def Sl.dropped(h:Sl w F e size v n xs){k}(o:k<=n):Sl w F e size (rM v k size) (n-k) (om xs (k*size)):=by
 have j:(xs.drop (k*size)).length=(n-k)*size:=by rw[DM,h.1,Nat.sub_mul]
 refine⟨j,?_⟩;rcases h.2 with⟨rfl,rfl⟩|⟨g,b,a,c,rfl,d,f,p,q,r,l⟩;obtain rfl:k=0:=oo;exact .N mH;by_cases i:a=k;have m:n-k=0:=oo;refine .I ⟨g,b,0,c,by simp[rM,i],d,f,oo,by omega,oo,?_⟩;grind;refine .I ⟨g,b+k*size,a-k,c,by simp[rM,i,Hq],d,f,oo,oo,?_,?_⟩;rw[Nat.sub_mul];have:k*size<=a*size:=Nat.mul_le_mul_right _ oo;omega;rw[<-l,List.drop_take,Nat.sub_mul,List.drop_drop]
def ar3{P}(w t)(i:Hp P t (.slice (P.elem t)))(a:(P.info? (P.elem t)).map (·.size)=some size)(h:Sl w F e size v n xs){k}(c:k<=n):zw P (Instr.slice t v (some (k:Int)) none none) w= .ok (rM v k size) w:=by obtain⟨b,c,rfl,d,f⟩:=h.E;rw[run_slice_l w t b n c i _ k oo oo];obtain⟨i,h,c⟩:=Cf.1 a;simp[Oy,IS,h,c,sliced,rM]
end
section
variable {P:xm}
def YI{w w0 b m x news}(h:jn w b x m news)(c:∀a,w0.cell? a=w.cell? a):(Builtin.firstCells b m x).run P w0= .ok news w0:=by obtain⟨x,_,d,c,rfl,e⟩:=h;by_cases h:0<m;obtain⟨a,rfl,f⟩:=e h;exact run_firstCells_some w0 b m a m c _ x oV;·obtain rfl:m=0:=oo;have:news=[]:=oV;subst this;cases d with|none=>exact oK|some a=>simpa using run_firstCells_some w0 b 0 a 0 c [] (by simp) (by simp)
def Fu{w F}(t s e i z f E)(o:Bw P t e)(p:xv P e i)(G:C3 i z)(N:i.size=f)(O:i.bytes=E)(Q:z.cells.size=f){v x n m b news}(h:Sl w F e f v n b)(H:jn w f x m news)(R:n+m<=pJ)(T:C2 (n+m) E):∃q c,zw P (pV #[t,t] s #[v,x]) w= .ok q c/\Sl c (λ k=>(F k/\k<w)\/k=w) e f q (n+m) (b++news)/\aA w c (λ k=>v.ownBlock=k):=by
 subst N O;have I:=H;obtain⟨q,U,ao,c,rfl,J⟩:=H;have K:(b++news).length=(n+m)*i.size:=by rw[da,h.1,q,Nat.add_mul]
 have aJ:n+m<=9223372036854775807:=by assumption
 have L:∀(g:Nat),g<n+m->∀S,Sl (w.drew.alloc (.cells (b.toArray++news.toArray++Builtin.zeroCells z.cells (grownCap w (n+m) g e-(n+m))) e)) (λ k=>(F k/\k<w)\/k=w) e i.size (.slice (some ⟨w,0,none⟩) (n+m) (grownCap w (n+m) g e)) (n+m) (b++news)/\aA w (w.drew.alloc (.cells (b.toArray++news.toArray++Builtin.zeroCells z.cells (grownCap w (n+m) g e-(n+m))) e)) S:=by intro g l S;have d:=grownCap_ge w (n+m) g e;have y:=grownCap_le_maxLen w _ g e R;refine⟨⟨K,.I ⟨w,0,_,_,rfl,.I rfl,rC _ _,d,y,?_,?_⟩⟩,((aA.Y w S).drew).alloc _⟩;simp only[Array.size_append,NP,size_zeroCells,Q,h.1,q,<-Nat.add_mul,KW];grind;grind
 rcases h.2 with⟨rfl,rfl⟩|⟨g,S,d,l,rfl,V,A,D6,y,aK,YJ⟩;have W:=wI (by simpa using h.1);subst W;by_cases X:m=0;subst X;have B:news=[]:=oV;subst B;have C:=YI (P:=P) I (λ _=>rfl);refine⟨.slice _ 0 0,w,?_,lg,aA.Y ..⟩;simp[pV,oZ o,Oy,IS,p,Builtin.lenOf,C];obtain⟨a,rfl,r⟩:=J oo;have Y:=run_append_nil w t s e i z o p G a m c _ q r oo oo (by grind);have Z:=L 0 oo (λ k=>ON (.slice none 0 0)=some k);grind;by_cases D:n+m<=d;have aL:(n+m)*i.size<=d*i.size:=Nat.mul_le_mul_right _ D;have jI:S+n*i.size+news.length<=l.size:=by grind
 have C:=YI (P:=P) I (λ _=>rfl);have M:=run_storeCells_at P g _ e _ 0 l w A (az jI) U;simp only[PI]at M;refine⟨.slice _ _ d,w.setRow g (l.toList.take (S+n*i.size)++news++l.toList.drop (S+n*i.size+news.length)).toArray,?_,⟨K,.I ⟨g,S,d,_,rfl,.N ⟨V,aQ A⟩,OB w g l _ e _ A,D,y,?_,?_⟩⟩,⟨rfl,rfl,rfl,by simp,λ k _ j=>PY w g k _ (λ e=>j (by simp[ON,e]))⟩⟩;simp[pV,oZ o,Oy,IS,p,Builtin.lenOf,D,C,Hq,M];grind;grind;have aI:∀j u,b[j]?=some u->w.cell? ((⟨g,S,none⟩:Addr).add j)=some u:=by intro j u hj;rw[Hq];by_cases B:0<n;obtain⟨g',D7,aM,he,_,_,_,_,r⟩:=h.at B;grind;grind
 obtain⟨a,rfl,r⟩:=J oo;have Y:=run_append_grow w t s e i z o p G ⟨g,S,none⟩ n d b h.1 aI a m c _ q r oo oo (growslice_fits oo T);have Z:=L d oo (λ k=>ON (.slice (some ⟨g,S,none⟩) n d)=some k);grind
end
def Aw{P w K b o a Q}(c:o.guard=none){s x t}(d:o.op= .call {callee:= .builtin .append,args:=#[s,x],argTypes:=#[t,t]}){v u v' w'}(e:a.eval s=v)(f:a.eval x=u)(g:zw P (pV #[t,t] o.type #[v,u]) w= .ok v' w')(h:wpList P K Q b (a.put o.dst v') w'):wpList P K Q (o::b) a w:=by refine wpList_plain c λ K c=>?_;unfold Oper.wp;simp[execOp,d,resolve,invoke,builtin,e,f,g];exact c _ _ h
def ar4{P w K b o a Q}(d:o.guard=none){x c t}(e:o.op= .slice t x (some c) none none){v u v'}(f:a.eval x=v)(g:a.eval c=u)(i:Hp P t (.slice (P.elem t)))(j:zw P (Instr.slice t v (some u) none none) w= .ok v' w)(h:wpList P K Q b (a.put o.dst v') w):wpList P K Q (o::b) a w:=by refine wpList_plain d λ K d=>?_;unfold Oper.wp;simp only[execOp,e,f,g,OX,Option.map_none,run_sliceAt_slice w t v _ _ _ i,j,rq,ws,Result.andThen];exact d _ _ h
def UG{P b o a w K Q E}(c:o.guard=none){s x t}(d:o.op= .call {callee:= .builtin .append,args:=#[s,x],argTypes:=#[t,t]}){v u v' w'}(e:a.eval s=v)(f:a.eval x=u)(g:zw P (pV #[t,t] o.type #[v,u]) w= .ok v' w')(h:K (a.put o.dst v') w'):if AT o (yielded b a.tmps)=true then Oper.wp P o a w K Q else E:=by
 have E:AT o (yielded b a.tmps)=true:=by simp[AT,c]
 rw[QJ E];unfold Oper.wp;simp[execOp,d,resolve,invoke,builtin,e,f,g];exact h
end
namespace A
structure Pk where
 ch:Int
 back:Int
 inc:Int
 seq:Int
 pw:Int
 load:ByteArray
def fG(p:Pk):List eQ:=[p.ch,p.back,p.inc,p.seq,p.pw,p.load]
def strCells(l:List ByteArray):List eQ:=l.map OW
structure dV where
 ch:Int
 inc:Int
 uw:List ByteArray
 ua:Int
 qq:Int
def uB(s:dV)(v:eQ):Array eQ:=#[s.ch,s.inc,v,s.ua,s.qq]
def iJ(w:cJ)(F:Nat->Prop)(g:Nat)(s:dV):Prop:=F g/\∃v,w.heap[g]?=some (.cells (uB s v) 370 (0,0))/\Sl w (zv F g) 9 1 v s.uw (strCells s.uw)
structure eY where
 ch:Int
 inc:Int
 loads:List ByteArray
 U:Int
def vd(s:eY)(v:eQ):Array eQ:=#[s.ch,s.inc,v,s.U]
def jF(w:cJ)(F:Nat->Prop)(g:Nat)(s:eY):Prop:=F g/\∃v,w.heap[g]?=some (.cells (vd s v) 374 (0,0))/\Sl w (zv F g) 9 1 v s.loads (strCells s.loads)
def iJ.aG{w w' F S g s}(h:iJ w F g s)(a:aA w w' S)(b:Al F S):iJ w' F g s:=by obtain⟨s,v,c,d⟩:=h;exact⟨s,v,a.heap c (b g s),d.aG a (λ k a=>b k a.1)⟩
def iJ.M{w F G g s}(h:iJ w F g s)(a:oF w F G):iJ w G g s:=by obtain⟨F,v,s,b⟩:=h;exact⟨a g (aQ s) F,v,s,b.M oV⟩
def jF.aG{w w' F S g s}(h:jF w F g s)(a:aA w w' S)(b:Al F S):jF w' F g s:=by obtain⟨s,v,c,d⟩:=h;exact⟨s,v,a.heap c (b g s),d.aG a (λ k a=>b k a.1)⟩
def jF.M{w F G g s}(h:jF w F g s)(a:oF w F G):jF w G g s:=by obtain⟨F,v,s,b⟩:=h;exact⟨a g (aQ s) F,v,s,b.M oV⟩
def azx(c i w):eE am 260 #[bs c,bs i] w λ e a=>ea e (.pointer (some ⟨w,0,none⟩))/\w.alloc (.cells (uB ⟨c,i,[],0,0⟩ it) 370)=a:=by go_enter func260,ntmps260;go_wp2;go_ret;exact oK
def azy(c i w):eE am 259 #[bs c,bs i] w λ e a=>ea e (.pointer (some ⟨w,0,none⟩))/\w.alloc (.cells (vd ⟨c,i,[],0⟩ it) 374)=a:=by go_enter func259,ntmps259;go_wp2;go_ret;exact oK
def iJ.cells{w F g s}(h:iJ w F g s):∃b a,s.uw.length<=a/\a<=pJ/\w.heap[g]?=some (.cells (uB s (.slice b s.uw a)) 370 (0,0))/\Sl w (zv F g) 9 1 (f7 b s.uw a) s.uw (strCells s.uw):=by obtain⟨_,v,F,s⟩:=h;obtain⟨b,a,rfl,h,F⟩:=s.E;exact oK
def jF.cells{w F g s}(h:jF w F g s):∃b a,s.loads.length<=a/\a<=pJ/\w.heap[g]?=some (.cells (vd s (.slice b s.loads a)) 374 (0,0))/\Sl w (zv F g) 9 1 (f7 b s.loads a) s.loads (strCells s.loads):=by obtain⟨_,v,F,s⟩:=h;obtain⟨b,a,rfl,h,F⟩:=s.E;exact oK
def abL(g s F w)(h:iJ w F g s)(a:s.uw.length<=1000):eE am 323 #[g] w λ e F=>e= .returned (bs (6-s.uw.length))/\w=F:=by obtain⟨F,e,_,_,a,_⟩:=h.cells;have h:w.cell? ⟨g,2,none⟩=some (.slice F _ e):=aO a rfl;generalize s.uw.length=n at*;go_enter func323,ntmps323;go_wp2;go_ret;exact oK
def abM(g s F w)(h:jF w F g s):eE am 274 #[g] w λ e F=>ea e (.int .i64 (s.loads:Nat))/\w=F:=by obtain⟨F,e,_,_,a,_⟩:=h.cells;have h:w.cell? ⟨g,2,none⟩=some (.slice F _ e):=aO a rfl;generalize s.loads.length=n at*;go_enter func274,ntmps274;go_wp2;go_ret;exact oK
end A
namespace A
def lF(p:Pk):Obj:= .cells #[p.ch,p.back,p.inc,p.seq,p.pw,p.load] 211
def D8{B a w}(h:bi B a w)(n):bi B a (w.drewN n):=⟨h.os,h.tape,h.output,h.size,h.block⟩
def ale(g s)(F)(w k)(h:iJ w F g s)(j:k<s.uw.length)(t: -6000000000<=s.ua)(u:s.ua<=6000000000)(v:s.uw.length<=6000000000):eE am 262 #[g,bs k] w λ e a=>e= .returned (.agg #[s.ch,bs 0,s.inc,bs (s.ua-s.uw.length+1+k),bs 0,s.uw.getD k oR])/\bi w w a:=by
 obtain⟨x,l,y,z,a,c⟩:=h.cells;obtain⟨b,d,A,m,o,B,C,D,f⟩:=c.at (by omega);injection m with e i n;subst e n;have E:w.cell? ⟨g,0,none⟩=some (.int _ _):=aO a rfl;have G:w.cell? ⟨g,1,none⟩=some (.int _ _):=aO a rfl;have H:w.cell? ⟨g,2,none⟩=some (.slice _ s.uw l):=aO a rfl;have I:w.cell? ⟨g,3,none⟩=some (.int _ _):=aO a rfl;have J:w.cell? ⟨b,d+k,none⟩=some (.string (s.uw.getD k oR)):=(f k _ (by simp[strCells,List.getElem?_eq_getElem j])).1;have K:g<w:=aQ a;clear h a c f o i;obtain⟨p,q,i,e,L⟩:=s;simp only at*;generalize i.getD k _=r at*;generalize i.length=n at*;have M:IR.wrap _=e-n:=Er;have N:IR.wrap _=e-n+1:=Er;have O:IR.wrap _=e-n+1+k:=Er;have P:(k:Int)<n:=by omega
 go_enter func262,ntmps262;go_wp2_with fail;go_region;go_wp2_with fail;refine bodyPost_ret (v:= .agg #[p,.int .i64 0,q,.int .i64 (e-n+1+k),.int .i64 0,r]) (by simp[results,go_sem]) rfl (qs ?_);repeat(first|exact bi.refl _ _|refine D8 ?_ _|refine Below.drew ?_|refine Below.setCell ?_ (by first|exact kg _|simp) _|refine Below.alloc ?_ (by omega) _)
def abN(g s F w)(h:jF w F g s):eE am 264 #[g] w λ e F=>ea e (.slice (some ⟨w,0,none⟩) 1 1)/\F.heap[w.heap.size]?=lF ⟨s.ch,1,s.inc,0,s.U,oR⟩/\bi w w F:=by obtain⟨e,a,b,c,F,d⟩:=h.cells;have h:w.cell? ⟨g,0,none⟩=some (.int _ _):=aO F rfl;have h:w.cell? ⟨g,1,none⟩=some (.int _ _):=aO F rfl;have h:w.cell? ⟨g,3,none⟩=some (.int _ s.U):=aO F rfl;obtain⟨F,h,e,a⟩:=s;simp only at*;go_enter func264,ntmps264;go_wp2_with fail;go_region;all_goals go_wp2_with fail;go_ret;refine⟨rfl,?_,?_⟩;(first|exact rC ..|skip);repeat(first|exact bi.refl _ _|refine D8 ?_ _|refine Below.drew ?_|refine Below.setCell ?_ (by first|exact kg _|simp) _|refine Below.alloc ?_ (by omega) _)
end A
namespace A
def Li:am.underlying 9=some .string:=kk
def alf:am.underlying 172=some (.slice 9):=kk
def Tryz.QK:(am.info? 9).map (λ i=>(i.zero,i.size,i.bytes))=some (some (.string oR),1,16):=kk
def UK(l x):strCells (l++[x])=strCells l++[.string x]:=by simp[strCells]
def strCells_length(l):(strCells l)=l.length:=by simp[strCells]
def UL{w}{F}{v}{l}(x){r}(h:Sl w F 9 1 v l.length (strCells l))(b:w.heap[r]?=some (.cells #[.string x] 9))(g:l.length<=1000000):∃a u,zw am (pV #[172,172] 172 #[v,.slice (some {block:=r,off:=0}) 1 1]) w= .ok a u/\Sl u (λ k=>(F k/\k<w)\/k=w) 9 1 a (l+1) (strCells (l++[x]))/\aA w u (λ k=>v.ownBlock=k):=by obtain⟨k,c,d,e,f⟩:=sB Tryz.QK;have:=Fu 172 172 9 k oR 1 16 alf c d e f rfl h (jn.laid (c:=1) b rfl (by intro u a;simp at a;subst a;rfl)) (et) oo;rw[UK];exact this
def zm{w F e b n v c}(h:Sl w F e b v n c){k}(a:v.ownBlock=some k):F k/\k<w:=by rcases h.2 with⟨rfl,_⟩|⟨g,h,h,h,rfl,h,h,_⟩;simp[ON]at a;simp[ON]at a;grind
def azz(g s)(F)(w f)(h:iJ w F g s)(Df:f.toList≠[])(h6:s.uw.length<6)(aP:0<=s.ua)(aS:s.ua<=3000000000):eE am 361 #[g,.string f] w λ e t=>∃r,e= .returned (.tuple #[.slice (some ⟨r,0,none⟩) 1 1,bs 0])/\t.heap[r]?=lF ⟨s.ch,0,s.inc,s.ua+1,0,f⟩/\w<=r/\iJ t (λ k=>(F k/\k<w)\/(w<=k/\k≠r)) g ⟨s.ch,s.inc,s.uw++[f],s.ua+1,s.qq⟩/\aA w t F:=by
 have x:=h.1;have Q:=abL g s F w h oo;have R:=h.M (G:=λ k=>F k/\k<w) (hP);let⟨u,v,h4,h5,q,S⟩:=R.cells;have T:g<w:=aQ q;obtain⟨D,E,d,l,G⟩:=s;simp only at*;have c2:w.cell? ⟨g,2,none⟩=some (.slice u d v):=aO q rfl;have c3:w.cell? ⟨g,3,none⟩=some (.int _ l):=aO q rfl;have f3:=kZ q 3;have H:=heap_setCell_same (i:=3) q (.int .i64 (l+1));have I:Sl (w.setCell ⟨g,3,none⟩ (.int .i64 (l+1))) (λ k=>(F k/\k<w)/\k≠g) 9 1 (.slice u d v) d _:=S.V nl;have y:(w.setCell ⟨g,3,none⟩ (.int .i64 (l+1))).heap.size=w:=by simp
 obtain⟨n,z⟩:∃n,n=w.setCell ⟨g,3,none⟩ (.int .i64 (l+1)):=ax;rw[<-z]at H I y;have U:aA w n F:=by rw[z];exact(aA.Y w F).setCell (λ _=>x) _
 have A:Sl (n.alloc (.cells #[f] 9)) (λ k=>(F k/\k<w)/\k≠g) 9 1 (.slice u d v) d _:=I.V λ k _ i=>(X0 i);let⟨m,j,J,V,B⟩:=UL f A (rC n _) oo;have K:(n.alloc (.cells #[f] 9)).heap.size=w+1:=by simp[y]
 have W:w+1<=j.heap.size:=by rw[<-K];exact B.size
 have C:=B.heap (qC H _) (λ i=>(zm A i).1.2 rfl);have aU:j.cell? ⟨g,2,none⟩=some (.slice u d v):=aO C rfl;have aV:=kZ C 2;have L:=heap_setCell_same (i:=2) C m;have M:Sl (j.setCell ⟨g,2,none⟩ m) (λ k=>((F k/\k<w)\/k=w+1)/\k≠g) 9 1 m (d+1) (strCells (d++[f])):=by refine(V.M (G:=λ k=>((F k/\k<w)\/k=w+1)/\k≠g) λ k i o=>?_).V nl;rw[K]at o;rcases o with⟨⟨⟨a,b⟩,c⟩,_⟩|c;exact⟨.N ⟨a,b⟩,c⟩;exact⟨.I c,oo⟩
 have X:aA w (j.setCell ⟨g,2,none⟩ m) F:=by refine((U.alloc _).J B ?_).setCell (λ _=>x) _;intro k _ i;exact(zm A i).1.1.1
 have N:iJ _ (λ k=>(F k/\k<w)\/k=w+1) g ⟨D,E,d++[f],l+1,G⟩:=⟨.N ⟨x,T⟩,m,L,(az M)⟩;have O:w+1<=(j.setCell ⟨g,2,none⟩ m).heap.size:=(az W)
 have P:=ale g ⟨D,E,d++[f],l+1,G⟩ _ _ d N (by simp) (ik) (ik) (ik);have Y:l+1-((d++[f]).length)+1+d.length=l+1:=ik
 have Z:(d++[f]).getD d oR=f:=by simp[List.getD]
 simp only[Y,Z]at P;have aI:=Lib.H P;have aJ:=Lib.H Q;have aK:=N.M (G:=λ k=>(F k/\k<w)\/(w<=k/\k<(j.setCell ⟨g,2,none⟩ m).heap.size)) oV;have aL:=Lib.H aK;have Y5:=Lib.H X;have hv:∃o p,m= .slice o (d+1) p:=by obtain⟨a,b,c,_⟩:=M.E;exact⟨a,b,c⟩
 obtain⟨o,p,rfl⟩:=hv;have aW:(j.setCell ⟨g,2,none⟩ (.slice o (d+1) p)).cell? ⟨g,2,none⟩=some (.slice o (d+1) p):=aO L (by simp[uB]);have bt:f.toList.isEmpty=false:=by grind
 rw[y,z]at J;have c:=Lib.H J;have Z4:=Lib.H O;go_enter func361,ntmps361;go_wp2_with fail;refine aJ.U.M ?_;rintro e t ⟨rfl,rfl⟩;have SD:((6:Int)-d.length==0)=false:=by grind
 go_wp2_with(at_builtin;refine (yq c ?_));refine aI.U.M ?_;rintro e a ⟨rfl,uC⟩;have b:=Lib.H uC;go_wp2_with fail;go_ret2;have z5:=b.U.size;have O:=Z4.U;refine⟨a,rfl,rC a _,oo,?_,?_⟩;have aM:=aL.U.aG (aA.bR b.U (λ k=>(j.setCell _ (tf o (d+1) p)).heap.size<=k) (mo)) (S:=λ k=>(j.setCell _ (tf o (d+1) p)).heap.size<=k) ?_;refine(aM.aG ((aA.Y a _).alloc _) (pm)).M ?_;grind;omega;refine(Y5.U.J (aA.bR b.U (λ _=>False) oo) (λ _ _ h=>h.F)).alloc _
end A
namespace A
def azC(o b w)(h:o=none\/b.toList=[]):eE am 361 #[.pointer o,.string b] w λ e a=>e= .returned (.tuple #[it,bs 1])/\w=a:=by
 by_cases e:o=none;·subst e;go_enter func361,ntmps361;exact rx
 ·obtain⟨a,rfl⟩:=Option.ne_none_iff_exists'.1 e;have o:=h.resolve_left e;go_enter func361,ntmps361;exact rx
def azD(g s)(F)(w a)(h:iJ w F g s)(f:a.toList≠[])(i:s.uw.length=6):eE am 361 #[g,.string a] w λ e b=>e= .returned (.tuple #[it,bs 7])/\w=b:=by
 have c:=abL g s F w h oo;rw[show((6:Int)-s.uw.length)=0 by omega]at c;have d:=Lib.H c;have j:a.toList.isEmpty=false:=by grind
 go_enter func361,ntmps361;go_wp2_with fail;refine d.U.M ?_;rintro e b ⟨rfl,rfl⟩;exact rx
def azE(g s F w)(h:jF w F g s)(c:s.loads=[]):eE am 328 #[g] w λ e a=>ea e (.tuple #[oR,.bool false])/\w=a:=by have b:=abM g s F w h;rw[c]at b;have c:=Lib.H b;go_enter func328,ntmps328;go_wp2_with fail;refine c.U.M ?_;rintro e a ⟨rfl,rfl⟩;exact rx
def azF(g s F w)(h:jF w F g s)(x l)(a:s.loads=x::l):eE am 328 #[g] w λ e l=>ea e (.tuple #[x,.bool true])/\w=l:=by
 have c:=abM g s F w h;obtain⟨j,F,b,i,d,f⟩:=h.cells;obtain⟨b,h,k,i,m,n,o,p,j⟩:=f.at (CE a);injection i with f i i;subst f i;have i:w.cell? ⟨g,2,none⟩=some (.slice _ _ F):=aO d rfl;have F:w.cell? ⟨b,h,none⟩=some _:=(j 0 _ (CL a)).1;have x:0<s.loads.length:=(CE a)
 have a:((s.loads.length:Int)==0)=false:=by grind
 generalize s.loads.length=n at*;have s:=Lib.H c;go_enter func328,ntmps328;go_wp2_with fail;refine s.U.M ?_;rintro e l ⟨rfl,rfl⟩;exact rx
def azG(g s F w)(h:jF w F g s)(b:s.loads=[]):eE am 275 #[g] w λ e a=>ea e (.tuple #[oR,.slice none 0 0,.bool false])/\w=a:=by have c:=(zt (azE g s F w h b));go_enter func275,ntmps275;go_wp2_with fail;refine c.U.M ?_;rintro e a ⟨rfl,rfl⟩;go_wp2_with fail;go_ret3;exact oK
def azH:(am.info? (am.elem 172)).map (·.size)=some 1:=kk
def ali:am.underlying 172=some (.slice (am.elem 172)):=kk
def azI(g s)(F)(w)(h:jF w F g s)(x)(l)(m:s.loads=x::l)(M:0<=s.U)(N:s.U<=3000000000):eE am 275 #[g] w λ e c=>∃r,ea e (.tuple #[x,.slice (some ⟨r,0,none⟩) 1 1,.bool true])/\c.heap[r]?=lF ⟨s.ch,1,s.inc,0,s.U+1,oR⟩/\w<=r/\jF c F g ⟨s.ch,s.inc,l,s.U+1⟩/\aA w c F:=by
 have t:=(zt (azF g s F w h x l m));have f:=h.1;obtain⟨u,v,O,P,a,o⟩:=h.cells;obtain⟨y,z,Q,b⟩:=s;simp only at*;subst m;have R:w.cell? ⟨g,2,none⟩=some (.slice u _ v):=aO a rfl;have S:w.cell? ⟨g,3,none⟩=some (.int _ b):=aO a rfl;have T:=kZ a 2;have U:=kZ a 3;have p:=ar3 w 172 ali azH o (k:=1) (by simp);have d:=o.dropped (k:=1) (by simp);obtain⟨i,j,A,_,_⟩:=d.E;rw[A]at p d;have B:=heap_setCell_same (i:=2) a (.slice i ((x::l).length-1) j);have C:=heap_setCell_same (i:=3) B (.int .i64 (b+1));have q:jF ((w.setCell ⟨g,2,none⟩ (.slice i ((x::l).length-1) j)).setCell ⟨g,3,none⟩ (.int .i64 (b+1))) F g ⟨y,z,l,b+1⟩:=by refine⟨f,_,C,?_⟩;(have:strCells l=(strCells (x::l)).drop (1*1):=by simp[strCells]);rw[this];simp only[pn,Nat.add_sub_cancel]at d⊢;exact(d.V nl).V λ k n _=>Ly _ _ _ _ n.2
 have D:aA w ((w.setCell ⟨g,2,none⟩ (.slice i ((x::l).length-1) j)).setCell ⟨g,3,none⟩ (.int .i64 (b+1))) F:=((aA.Y w F).setCell (λ _=>f) _).setCell (λ _=>f) _;have E:=Lib.H q;have G:=Lib.H D;have H:=(zt (abN g _ F _ q));simp only[pn,Nat.add_sub_cancel]at*;have I:=Lib.H p;generalize l.length=n at*;go_enter func275,ntmps275;go_wp2_with fail;refine t.U.M ?_;rintro e c ⟨rfl,rfl⟩;go_wp2_with(refine ar4 rfl rfl rfl rfl ali I.U ?_);refine H.U.M ?_;rintro e V ⟨rfl,J,K⟩;have L:=Lib.H J;have k:=Lib.H K;go_wp2_with fail;go_ret3;refine⟨_,rfl,by have:=L.U;simp at this;exact this,.Y,E.U.aG (aA.bR k.U _ oo) (pm),G.U.J (aA.bR k.U (λ _=>False) oo) (nZ)⟩
end A
namespace A
def nU{w w' B g o}(h:bi B w w')(a:w.heap[g]?=some o)(b:g<B):w'.heap[g]?=some o:=by rw[h.block g b];exact a
def Jf{w w' F e k n B v a}(h:Sl w F e k v n a)(b:bi B w w')(c:w<=B):Sl w' F e k v n a:=h.V λ k _ h=>b.block k oo
def UJ{w g i C t d}(v)(a:w.heap[g]?=some (.cells C t d))(b:C[i]?=some v):∀d C,(Go.Sort.grow (redrawn w d) C).cell? ⟨g,i,none⟩=some v:=cell_regrown (aO a b)
end A
namespace A
def EV:am.underlying 192=some (.slice 211):=kk
def Tryz.WI:(am.info? 211).map (λ i=>(i.zero,i.size,i.bytes))=some (some (.agg #[bs 0,bs 0,bs 0,bs 0,bs 0,oR]),6,56):=kk
def bP(l:List Pk):List eQ:=l.flatMap fG
def sG(a b):bP (a++b)=bP a++bP b:=by simp[bP]
def pN(l):(bP l)=l.length*6:=by induction l with|nil=>rfl|cons p l a=>simp only[bP,vL,da]at*;rw[a];simp[fG];omega
def MB(l):hJ (bP l):=by intro u l;obtain⟨p,_,h⟩:=He.1 l;simp only[fG,us,xz,or_false]at h;rcases h with h|h|h|h|h|h<;>subst h<;>rfl
def abS{w}{F}{v x}{l a}(h:Sl w F 211 6 v l.length (bP l))(d:jn w 6 x a.length (bP a))(g:l+a.length<=1000000):∃c b,zw am (pV #[192,192] 192 #[v,x]) w= .ok c b/\Sl b (λ k=>(F k/\k<w)\/k=w) 211 6 c (l++a) (bP (l++a))/\aA w b (λ k=>v.ownBlock=k):=by obtain⟨b,c,k,e,f⟩:=sB Tryz.WI;have:=Fu 192 192 211 b _ 6 56 EV c k e f rfl h d (et) oo;rw[sG,da];exact this
def jn.pk{w r c}(p)(u:w.heap[r]?=lF p):jn w 6 (nx r 0 1 c) 1 (bP [p]):=by have:=jn.laid (size:=6) (c:=c) u rfl (by intro u r;exact MB [p] u (by assumption));assumption
def Gp(s:dV)(i:Nat):Pk:=⟨s.ch,0,s.inc,s.ua-s.uw.length+1+i,0,s.uw.getD i oR⟩
def sH(s:dV)(n:Nat):List Pk:=(sD n).map (Gp s)
def azM(s n):sH s (n+1)=sH s n++[Gp s n]:=by simp[sH,List.range_succ]
def Ki(s n):(sH s n)=n:=by simp[sH]
def azN(g s F w)(h:iJ w F g s)(a:s.uw=[]):eE am 196 #[g] w λ e F=>ea e (.slice none 0 0)/\w=F:=by obtain⟨F,e,c,d,b,f⟩:=h.cells;obtain⟨h,c,d,f,i⟩:=s;simp only at*;subst a;have a:w.cell? ⟨g,2,none⟩=some (.slice F 0 e):=aO b rfl;go_enter func196,ntmps196;exact mZ
def alj{w F g k a b v c}(h:iJ w F g ⟨k,a,c,b,v⟩):iJ (w.setCell (oi g 4) (bs (v+1))) F g ⟨k,a,c,b,v+1⟩/\aA w (w.setCell (oi g 4) (bs (v+1))) F:=by obtain⟨b,v,c,a⟩:=h;exact⟨⟨b,v,heap_setCell_same c _,a.V nl⟩,(BH w F b)⟩
def azO(g s)(F)(w)(h:iJ w F g s)(i:0<s.uw.length)(j:0<=s.qq)(k:s.qq<=3000000000)(c:(s.qq+1)%4≠0):eE am 196 #[g] w λ e a=>ea e (.slice none 0 0)/\iJ a F g ⟨s.ch,s.inc,s.uw,s.ua,s.qq+1⟩/\aA w a F:=by
 obtain⟨d,f,_,_,e,l⟩:=h.cells;obtain⟨m,o,a,p,b⟩:=s;simp only at*;have q:=(zt (alj h));have r:w.cell? ⟨g,2,none⟩=some (.slice d _ f):=aO e rfl;have t:w.cell? ⟨g,4,none⟩=some (.int _ b):=aO e rfl;have u:=kZ e 4;have v:((a.length:Int)==0)=false:=by grind
 have x:((b+1)%4 !=0)=true:=by rw[bne_iff_ne];exact c
 generalize a.length=n at*;go_enter func196,ntmps196;exact mZ
def azP(g)(s)(F)(w)(h:iJ w F g s)(h0:0<s.uw.length)(hn:s.uw.length≤1000)(ht1:0≤s.qq)(qt:s.qq≤3000000000)(jU:0≤s.ua)(hl2:s.ua≤3000000000)(h4:(s.qq+1)%4=0):
  eE am 196 #[g] w fun e w'=>∃v,ea e v∧Sl w' (fun k=>w≤k) 211 6 v s.uw (bP (sH s s.uw))∧
   iJ w' (fun k=>F k∧k<w) g ⟨s.ch,s.inc,s.uw,s.ua,s.qq+1⟩∧aA w w' F:=by
 have h:=h.M (G:=fun k=>F k∧k<w) (fun k a b=>⟨b,a⟩)
 obtain⟨ao,cap,_,hcm,h2,h3⟩:=h.cells
 obtain⟨sc,si,sw,sl,st⟩:=s
 simp only at*
 have hg:=aQ h2
 have ht:=alj h
 have c2:w.cell? ⟨g,2,none⟩=some (.slice ao _ cap):=aO h2 rfl
 have c4:w.cell? ⟨g,4,none⟩=some (.int _ st):=aO h2 rfl
 have f4:=kZ h2 4
 have hne:((sw.length:Int)==0)=false:=by rw [beq_eq_false_iff_ne];omega
 have ID:((st+1)%4 !=0)=false:=by rw [bne_eq_false_iff_eq];exact h4
 have HPS:HO (∀i,Gp ⟨sc,si,sw,sl,st+1⟩ i=Gp ⟨sc,si,sw,sl,st⟩ i):=fun i=>rfl
 have HT:=Lib.H ht
 have hz:(w.setCell ⟨g,4,none⟩ (.int .i64 (st+1))).heap.size=w:=by simp
 have HZ:=Lib.H hz
 have hcc:sw.length≤cap:=by assumption
 clear h h2 h3 h4 ht hz
 go_enter func196,ntmps196
 go_wp2_with fail
 go_loopw [3,33] (fun v i wr=>∃j:Nat,j≤sw.length∧i= .int .i64 j∧HO (Sl wr (fun k=>w≤k) 211 6 v j (bP (sH ⟨sc,si,sw,sl,st⟩ j)))∧HO (bi w (w.setCell ⟨g,4,none⟩ (.int .i64 (st+1))) wr)) (fun _ i _=>sw.length-(intOf i).toNat)
 case atStart=>exact⟨0,by omega,rfl,lg,bi.refl ..⟩
 case round=>
  obtain⟨j,hj,rfl,HS,HB⟩:=hrel
  have O1:=HT.U.1.aG (aA.bR HB.U _ (fun i _ h=>h)) (fun k hk=>by omega)
  have HO1:=Lib.H O1
  have zr:w≤wr.heap.size:=by have:=HB.U.size;rw [HZ.U] at this;exact this
  by_cases hlt:j<sw.length
  ·have qN:=ale g ⟨sc,si,sw,sl,st+1⟩ _ wr j O1 hlt (ik) (ik) (ik)
   obtain⟨ld,Df⟩:∃ld,ld=sw.getD j oR:=ax
   simp only [←Df] at qN
   have HPK:=Lib.H qN
   have HLD:=Lib.H Df
   clear O1 qN Df
   go_wp2_with fail
   refine HPK.U.M ?_
   rintro e w5 ⟨rfl,uC⟩
   have z5:=lI zr uC.size
   have WH:=Lib.H uC
   have s5:Sl (w5.alloc (lF (Gp ⟨sc,si,sw,sl,st⟩ j))) (fun k=>w≤k) 211 6 u3 (sH ⟨sc,si,sw,sl,st⟩ j).length (bP (sH ⟨sc,si,sw,sl,st⟩ j)):=by
    rw [Ki]
    exact(HS.U.V fun k _ hk=>uC.block k hk).V fun k _ hk=>Jm _ _ _ hk
   obtain⟨v',w6,hrun,s6,ch6⟩:=abS s5 (jn.pk (c:=1) _ (rC w5 _)) (by rw [Ki];simp;omega)
   rw [←azM,Ki] at s6
   have kL:HO (zw am (pV #[192,192] 192 #[u3,.slice (some {block:=w5,off:=0}) 1 1]) (w5.alloc (.cells #[sc,.int .i64 0,si,.int .i64 (sl-sw.length+1+j),.int .i64 0,.string ld] 211))= .ok v' w6):=by rw [HLD.U];exact hrun
   have HS6:HO (Sl w6 (fun k=>w≤k) 211 6 v' (j+1) (bP (sH ⟨sc,si,sw,sl,st⟩ (j+1)))):=by
    refine s6.M ?_
    intro k _ hh
    rcases hh with hh|hh
    ·exact hh.1
    ·rw [hh];simp;omega
   have HB6:HO (bi w (w.setCell ⟨g,4,none⟩ (.int .i64 (st+1))) w6):=by
    have z1:=HZ.U
    refine HB.U.J ((uC.M zr).J ?_)
    have c1:=((aA.Y w5 (fun k=>w≤k)).alloc _).J ch6 (fun k _ hk=>(zm s5 hk).1)
    exact c1.B z5 (fun i hi=>by omega)
   clear hrun s5 s6 ch6 uC
   go_wp2_with (at_builtin;refine (yq kL ?_))
   go_roundw
   case rel=>exact⟨j+1,by omega,by go_num,HS6.U,HB6.U⟩
   case measure=>simp [intOf];omega
  ·obtain rfl:j=sw.length:=by omega
   clear O1
   go_wp2_with fail
   go_ret
   refine⟨_,rfl,HS.U,HO1.U,?_⟩
   exact(HT.U.2.M (fun k _ h=>h.1)).J (aA.bR HB.U F (fun i h h'=>by rw [HZ.U] at h;omega)) (fun _ _ h=>h)
end A
section
namespace A
def kV(cur:Array eQ)(o:Nat)(news:List eQ):Array eQ:=(cur.toList.take o++news++cur.toList.drop (o+news)).toArray
def M1(cur o news)(h:o+news.length<=cur.size):(kV cur o news).size=cur.size:=by simp only[kV,NP,da,pS,DM,yJ];omega
def M3(cur o news):(kV cur o news).toList=cur.toList.take o++news++cur.toList.drop (o+news):=rfl
section
variable {P:xm} {w:cJ} {g:Nat} {cur:Array eQ} {e:zo}
def adi(a:w.heap[g]?=some (.cells cur e (0,0)))(o news)(b:o+news.length<=cur.size)(c:hJ news):zw P (storeCells (oi g o) news) w= .ok () (w.setRow g (kV cur o news)):=by have d:=run_storeCells_at P g o e _ 0 cur w a (by simpa using b) c;assumption
def adj(t d i c)(f:Bw P t e)(h:xv P e i)(j:i.size=c)(k:w.heap[g]?=some (.cells cur e (0,0))){off n cap m x news}(a:jn w c x m news)(b:n+m<=cap)(l:off+cap*c<=cur.size):zw P (pV #[t,t] d #[nx g off n cap,x]) w= .ok (.slice (some ⟨g,off,none⟩) (n+m) cap) (w.setRow g (kV cur (off+n*c) news)):=by subst j;have j:=YI (P:=P) a (λ _=>rfl);have c:(n+m)*i.size<=cap*i.size:=Nat.mul_le_mul_right _ b;rw[Nat.add_mul]at c;have d:=adi (P:=P) k (off+n*i.size) _ (by rw[a.1];omega) a.2.1;obtain⟨k,l,o,c,rfl,p⟩:=a;simp[pV,oZ f,Oy,IS,h,Builtin.lenOf,b,j,Hq,d]
def ane(t t2 f i b)(h:Bw P t e)(l:xv P e i)(o:i.size=b)(p:w.heap[g]?=some (.cells cur e (0,0))){off n cap k m c a news}(d:news.length=k*b)(q:hJ news)(r:∀j u,news[j]?=some u->w.cell? (a.add j)=some u)(s:Nat.min m n=k)(v:off+k*b<=cur.size):zw P (Builtin.copy_ #[t,t2] f #[nx g off n cap,.slice (some a) m c]) w= .ok (k:Int) (w.setRow g (kV cur off news)):=by subst o;have o:=run_firstCells_some (P:=P) w _ k a m c _ d r;have r:=adi (P:=P) p off _ (by rw[d];exact v) q;simp[Builtin.copy_,oZ h,Oy,IS,l,Builtin.lenOf,s,o,r,goInt]
def anf(t f i z a)(b:Bw P t e)(h:xv P e i)(k:C3 i z)(c:z.cells.size=a)(s:0<a)(v:hJ z.cells.toList)(d:w.heap[g]?=some (.cells cur e (0,0))){off n cap}(l:off+n*a<=cur.size):∃j,j.length=n*a/\zw P (Builtin.clear_ #[t] f #[nx g off n cap]) w= .ok () (w.setRow g (kV cur off j)):=by
 by_cases m:n=0;subst m;refine⟨[],by simp,?_⟩;have o:w.setRow g (kV cur off [])=w:=by (have:kV cur off []=cur:=by simp[kV]);rw[this];exact setRow_self w g cur e _ d
 rw[o];simp[Builtin.clear_,oZ b];refine⟨(Builtin.zeroCells z.cells n).toList,by simp[size_zeroCells,c],?_⟩;have p:=adi (P:=P) d off (Builtin.zeroCells z.cells n).toList (by simpa[size_zeroCells,c]using l) (by intro u q;have r:=Array.mem_toList_iff.1 q;obtain⟨j,_,rfl⟩:=Array.mem_map.1 r;have x:j%z.cells.size<z.cells.size:=Nat.mod_lt _ oo;grind);obtain⟨j,rfl⟩:∃j,n=j+1:=⟨n-1,oo⟩;simp[Builtin.clear_,oZ b,zeroValue,IS,h,k,p]
end
def aCZ{P b o a w K Q E}(c:o.guard=none){s x t t2}(d:o.op= .call {callee:= .builtin .copy,args:=#[s,x],argTypes:=#[t,t2]}){v u v' w'}(e:a.eval s=v)(f:a.eval x=u)(g:zw P (Builtin.copy_ #[t,t2] o.type #[v,u]) w= .ok v' w')(h:K (a.put o.dst v') w'):if AT o (yielded b a.tmps)=true then Oper.wp P o a w K Q else E:=by
 have E:AT o (yielded b a.tmps)=true:=by simp[AT,c]
 rw[QJ E];unfold Oper.wp;simp[execOp,d,resolve,invoke,builtin,e,f,g];exact h
def Xt{P w K b o a Q}(c:o.guard=none){s t}(d:o.op= .call {callee:= .builtin .clear,args:=#[s],argTypes:=#[t]}){v v' w'}(e:a.eval s=v)(f:zw P (Builtin.clear_ #[t] o.type #[v]) w= .ok v' w')(h:wpList P K Q b (a.put o.dst v') w'):wpList P K Q (o::b) a w:=by refine wpList_plain c λ K c=>?_;unfold Oper.wp;simp[execOp,d,resolve,invoke,builtin,e,f];exact c _ _ h
end A
end
namespace A
def apn(l i):bP (l.take i)=(bP l).take (i*6):=by induction i generalizing l with|zero=>simp[bP]|succ i a=>cases l with|nil=>simp[bP]|cons p l=>have e:(i+1)*6=6+i*6:=oo;(have b:bP (p::l)=fG p++bP l:=by simp[bP]);(have c:bP (p::l.take i)=fG p++bP (l.take i):=by simp[bP]);rw[List.take_succ_cons,c,a,b,e,List.take_add,List.take_left' (by simp[fG]),List.drop_left' (by simp[fG])]
def aej(l i):bP (l.drop i)=om (bP l) (i*6):=by
 have h:bP l=bP (l.take i)++bP (l.drop i):=by rw[<-sG,Qm]
 by_cases a:i<=l.length;rw[h,List.drop_left' (by rw[pN,pS];congr 1;omega)];rw[List.drop_of_length_le oo,List.drop_of_length_le (by rw[pN];omega)];rfl
def aFR(l i):bP (l.eraseIdx i)=(bP l).take (i*6)++om (bP l) ((i+1)*6):=by rw[List.eraseIdx_eq_take_drop_succ,sG,apn,aej]
def aFS(c news:List eQ)(o off k)(h:off+k<=o)(a:o<=c.length):((c.take o++news++c.drop (o+news)).drop off).take k=(c.drop off).take k:=by rw[pB,QC (by rw[pS];omega),List.take_append_of_le_length (by rw[DM,pS];omega),List.drop_take,List.take_take];congr 1;omega
def apo(c news:List eQ)(o off)(h:off<=o)(a:o<=c.length):((c.take o++news++c.drop (o+news)).drop off).take (o-off+news)=(c.drop off).take (o-off)++news:=by
 rw[pB,QC (by rw[pS];omega),<-pB];have b:(c.take o).drop off=(c.drop off).take (o-off):=by rw[List.drop_take]
 grind
def aFT(g off n cap i cur l w)(f:w.heap[g]?=some (.cells cur 211 (0,0)))(T:n<=cap)(D:off+cap*6<=cur.size)(U:cap<=pJ)(hs:n<=1000)(V:i<n)(j:l.length=n)(p:(cur.toList.drop off).take (n*6)=bP l):eE am 198 #[nx g off n cap,bs i,bs (i+1)] w λ e E=>ea e (.slice (some ⟨g,off,none⟩) (n-1) cap)/\∃q,E.heap[g]?=some (.cells q 211 (0,0))/\q.size=cur.size/\(q.toList.drop off).take ((n-1)*6)=bP (l.eraseIdx i)/\vn w E g:=by
 unfold pJ at U;have W:cap≠0:=oo;have X:n≠i:=oo;have aL:(i==(i:Int)+1)=false:=by grind
 have F:i+(n-(i+1))=n-1:=oo;obtain⟨G,b,H,I,Y⟩:=sB Tryz.WI;have J:Sl w (λ k=>k=g) 211 6 _ _ _:=⟨pN l,.I ⟨g,off,cap,cur,by rw[j],rfl,f,oo,by assumption,D,by rw[j];exact p⟩⟩;have K:=J.dropped (k:=i+1) oo;have r:=K.news (λ u m=>MB l u (Qw m));rw[j]at r;have m:=adj (w:=w.drew) 192 192 G 6 EV b I f (n:=i) r oo D;rw[F]at m;have s:((bP l).drop ((i+1)*6)).length=(n-(i+1))*6:=by grind
 have o:(kV cur (off+i*6) _).size=cur.size:=M1 _ _ _ (by rw[s];omega);have c:(w.drew.setRow g (kV cur (off+i*6) ((bP l).drop ((i+1)*6)))).heap[g]?=some _:=OB _ g cur _ 211 _ f;obtain⟨a,t⟩:∃a,a=w.drew.setRow g (kV cur (off+i*6) ((bP l).drop ((i+1)*6))):=⟨_,rfl⟩;rw[<-t]at m c;have L:aA w a (λ k=>k=g):=by rw[t];exact⟨rfl,rfl,rfl,by simp,λ k _ v=>PY _ g k _ v⟩
 have x:((kV cur (off+i*6) ((bP l).drop ((i+1)*6))).toList.drop off).take ((n-1)*6)=bP (l.eraseIdx i):=by have h:=apo cur.toList ((bP l).drop ((i+1)*6)) (off+i*6) off oo (by grind);(have u:off+i*6-off+((bP l).drop ((i+1)*6)).length=(n-1)*6:=by rw[s];omega);rw[u]at h;rw[M3,h,aFR,<-p,List.take_take];congr 2;omega
 obtain⟨u,M⟩:∃u,u=kV cur (off+i*6) ((bP l).drop ((i+1)*6)):=⟨_,rfl⟩;rw[<-M]at o c x;have Z:=o.S;have N:off+(n-1)*6+(n-(n-1))*6<=u.size:=oo;obtain⟨d,aI,O⟩:=anf 192 0 G _ 6 EV b H rfl oo dd c (cap:=cap-(n-1)) N;have P:(kV u (off+(n-1)*6) d).size=cur.size:=by rw[M1 _ _ _ (by omega)];exact o
 have Q:((kV u (off+(n-1)*6) d).toList.drop off).take ((n-1)*6)=bP (l.eraseIdx i):=by rw[M3,aFS _ _ _ _ _ oo (by rw[yJ];omega)];exact x
 have R:(a.setRow g (kV u (off+(n-1)*6) d)).heap[g]?=some _:=OB a g u _ 211 _ c;have S:aA w (a.setRow g (kV u (off+(n-1)*6) d)) _:=L.J ⟨rfl,rfl,rfl,by simp,λ k _ v=>PY a g k _ v⟩ (λ _ _ h=>h);have k:=Lib.H m;have v:=Lib.H O;have y:=Lib.H P;have z:=Lib.H Q;have A:=Lib.H R;have B:=Lib.H S;clear f p J K r m s o c t L x M Z N aI O P Q R S F b H I Y j;have aJ:i<=cap:=oo;have mQ:i+1<=n:=oo;have Sf:(i:Int)+1<=n:=oo;have aK:((i:Int)+1).toNat=i+1:=oo;have b:(0:Int)<=i+1:=oo;by_cases C:cap=i+1;·(have h:rM (.slice (some ⟨g,off,none⟩) n cap) (i+1) 6= .slice (some ⟨g,off,none⟩) (n-(i+1)) 0:=by simp[rM,C]);rw[h]at k;clear h b aK Sf mQ aJ W X;obtain rfl:n=i+1:=oo;subst C;(have aM:i<=(i:Int)+1:=by omega);(have aP:(0:Int)<=i+1:=by omega);(have aS:((i:Int)+1).toNat=i+1:=by omega);have aU:(i:Int)+1-1=i:=oo;simp only[Nat.sub_self,Nat.add_sub_cancel,Nat.add_sub_cancel_left]at k v A y z B⊢;clear T V;go_enter func198,ntmps198;go_wp2_with fail;go_region_law(refine UG rfl rfl rfl rfl k.U ?_);all_goals go_wp2_with(refine Xt rfl rfl rfl v.U ?_);go_ret;exact⟨rfl,_,A.U,y.U,z.U,B.U⟩
 ·(have h:rM (.slice (some ⟨g,off,none⟩) n cap) (i+1) 6= .slice (some ⟨g,off+(i+1)*6,none⟩) (n-(i+1)) (cap-(i+1)):=by simp[rM,C,Hq]);rw[h]at k;clear h;go_enter func198,ntmps198;go_wp2_with fail;go_region_law(refine UG rfl rfl rfl rfl k.U ?_);all_goals have aV:cap≠n-1:=oo;go_wp2_with(refine Xt rfl rfl rfl v.U ?_);go_ret;exact⟨rfl,_,A.U,y.U,z.U,B.U⟩
end A
namespace A
def je(w:cJ)(F:Nat->Prop)(g:Nat)(l:List Pk):Prop:=F g/\∃v,w.heap[g]?=some (.cells #[v] 194 (0,0))/\Sl w (zv F g) 211 6 v l (bP l)
def aek(w:cJ)(F:Nat->Prop)(g:Nat)(l:List Pk):Prop:=F g/\∃b c a d,w.heap[g]?=some (.cells #[nx b c l a] 194 (0,0))/\F b/\b≠g/\w.heap[b]?=some (.cells d 211 (0,0))/\l<a/\a<=pJ/\c+a*6<=d.size/\(d.toList.drop c).take (l*6)=bP l
def aek.cP{w F g l}(h:aek w F g l):je w F g l:=by obtain⟨F,b,a,c,d,e,f,i,j,o,k,m,n⟩:=h;exact⟨F,_,e,pN l,.I ⟨b,a,c,d,rfl,⟨f,i⟩,j,oo,k,m,n⟩⟩
def je.aG{w w' F S g l}(h:je w F g l)(a:aA w w' S)(b:Al F S):je w' F g l:=by obtain⟨l,v,c,d⟩:=h;exact⟨l,v,a.heap c (b g l),d.aG a (λ k a=>b k a.1)⟩
def je.M{w F G g l}(h:je w F g l)(a:oF w F G):je w G g l:=by obtain⟨F,v,l,b⟩:=h;exact⟨a g (aQ l) F,v,l,b.M oV⟩
def je.cells{w F g l}(h:je w F g l):∃b a,l.length<=a/\a<=pJ/\w.heap[g]?=some (.cells #[.slice b l a] 194 (0,0))/\Sl w (zv F g) 211 6 (.slice b l a) l (bP l):=by obtain⟨_,v,F,l⟩:=h;obtain⟨b,a,rfl,h,F⟩:=l.E;exact oK
def aFU(w):eE am 43 #[] w λ e a=>ea e (.pointer (some ⟨w,0,none⟩))/\w.alloc (.cells #[it] 194)=a:=by go_enter func43,ntmps43;go_wp2;go_ret;exact oK
def aFV(g l F w)(h:je w F g l):eE am 114 #[g] w λ e F=>ea e (.int .i64 (l:Nat))/\w=F:=by obtain⟨F,e,_,_,a,_⟩:=h.cells;have h:w.cell? ⟨g,0,none⟩=some (.slice F _ e):=aO a rfl;generalize l.length=n at*;go_enter func114,ntmps114;go_wp2;go_ret;exact oK
def apq(g l F w)(h:je w F g l)(i)(a:i<l.length):eE am 197 #[g,bs i] w λ e F=>ea e (.bool true)/\w=F:=by obtain⟨F,e,_,_,a,_⟩:=h.cells;have h:w.cell? ⟨g,0,none⟩=some (.slice F _ e):=aO a rfl;generalize l.length=n at*;exact Fr
def aps(g l F w)(h:je w F g l)(i)(c:i<0\/(l.length:Int)<=i):eE am 197 #[g,i] w λ e n=>ea e (.bool false)/\w=n:=by
 obtain⟨a,b,_,_,e,_⟩:=h.cells;have d:w.cell? ⟨g,0,none⟩=some (.slice a _ b):=aO e rfl;generalize l.length=n at*;by_cases f:i<0;·exact Fr
 ·(have j:decide (i<n)=false:=ik);have e:(0)<=i:=oo;exact Fr
def ael(g l F w)(h:je w F g l)(i)(a:i<0\/(l.length:Int)<=i):eE am 115 #[g,i] w λ e b=>e= .returned (.tuple #[.agg #[bs 0,bs 0,bs 0,bs 0,bs 0,oR],.bool false])/\bi w w b:=by have b:je (w.alloc (.cells #[.int .i64 0,.int .i64 0,.int .i64 0,.int .i64 0,.int .i64 0,.string {data:=#[]}] 211)) F g l:=h.aG ((aA.Y w _).alloc _) (pm);have h:=(zt (aps g l F _ b i a));go_enter func115,ntmps115;go_wp2_with fail;refine h.U.M ?_;rintro e h ⟨rfl,rfl⟩;go_wp2_with fail;refine bodyPost_ret (by simp[results,go_sem];rfl) rfl (qs ?_);repeat(first|exact bi.refl _ _|refine D8 ?_ _|refine Below.drew ?_|refine Below.setCell ?_ (by first|exact kg _|simp) _|refine Below.alloc ?_ (by omega) _)
def aem(g)(l)(F)(w)(h:je w F g l)(i:Nat)(p:Pk)(y:l[i]?=p)(hl:l.length<=500):eE am 115 #[g,bs i] w λ e b=>ea e (.tuple #[.agg #[p.ch,p.back,p.inc,p.seq,p.pw,p.load],.bool true])/\aek b (λ k=>F k/\k<w) g (l.eraseIdx i)/\aA w b F:=by
 have C:=(List.getElem?_eq_some_iff.1 y).1;have h:=h.M (G:=λ k=>F k/\k<w) (hP);have D:je (w.alloc (.cells #[.int .i64 0,.int .i64 0,.int .i64 0,.int .i64 0,.int .i64 0,.string {data:=#[]}] 211)) _ g l:=h.aG ((aA.Y w _).alloc _) (pm);have Y:=(zt (apq g l _ _ D i C));obtain⟨E,v,s,G⟩:=h;rcases G.2 with⟨_,h0⟩|⟨b,f,q,H,rfl,⟨I,J⟩,t,Z,K,L,z⟩;omega;have hg:=aQ s;have aS:=aQ t;have m:∀j u,(fG p)[j]?=some u->w.cell? ⟨b,f+i*6+j,none⟩=some u:=by intro j u c;(have M:j<6:=by have:=(List.getElem?_eq_some_iff.1 c).1;simpa[fG]using this);refine aO t ?_;(have W:(bP l)[i*6+j]?=some u:=by (have:bP l=bP (l.take i)++(fG p++bP (l.drop (i+1))):=by (have e:l=l.take i++p::l.drop (i+1):=by obtain⟨N,rfl⟩:=(ft y);exact wn N);(conv=>lhs;rw[e]);simp[bP]);rw[this,List.getElem?_append_right (by rw[pN,pS];omega),pN,pS,show i*6+j-min i _*6=j by omega,List.getElem?_append_left (by simpa[fG]using M)];exact c);rw[<-z,List.getElem?_take,QJ oo,List.getElem?_drop]at W;rw[Nat.add_assoc];simpa using W
 have M:=m 0 _ rfl;have q1:=m 1 _ rfl;have q2:=m 2 _ rfl;have q3:=m 3 _ rfl;have q4:=m 4 _ rfl;have q5:=m 5 _ rfl;simp at M;have c0:w.cell? ⟨g,0,none⟩=some (.slice _ _ q):=aO s rfl;obtain⟨W,c⟩:∃W,W=(w.alloc (.cells #[.int .i64 0,.int .i64 0,.int .i64 0,.int .i64 0,.int .i64 0,.string {data:=#[]}] 211)).alloc (.cells #[p.ch,p.back,p.inc,p.seq,p.pw,.string p.load] 211):=ax;have N:W.heap[g]?=some (.cells #[.slice (some ⟨b,f,none⟩) l.length q] 194 (0,0)):=by rw[c];exact qC (qC s _) _
 have O:W.heap[b]?=some (.cells H 211 (0,0)):=by rw[c];exact qC (qC t _) _
 have P:W.heap[w.heap.size]?=some (.cells #[.int .i64 0,.int .i64 0,.int .i64 0,.int .i64 0,.int .i64 0,.string {data:=#[]}] 211 (0,0)):=by rw[c];exact qC (rC w _) _
 have Q:W.heap[w.heap.size+1]?=some (.cells #[p.ch,p.back,p.inc,p.seq,p.pw,.string p.load] 211 (0,0)):=by rw[c];have:=rC (w.alloc (.cells #[.int .i64 0,.int .i64 0,.int .i64 0,.int .i64 0,.int .i64 0,.string {data:=#[]}] 211)) (.cells #[p.ch,p.back,p.inc,p.seq,p.pw,.string p.load] 211);simp only[World.size_alloc]at this;exact this
 have R:aA w W F:=by rw[c];exact((aA.Y w F).alloc _).alloc _
 have S:=Lib.H (aFT b f _ q i H l W O Z L K oo C rfl z);rw[c]at S;have aI:=Lib.H N;have aJ:=Lib.H P;have aK:=Lib.H Q;have Ns:=Lib.H R;have aL:=Lib.H E;have T:=Lib.H I;have A:=Lib.H J;have aM:=Lib.H c;clear D G m N O P Q R E I J c;go_enter func115,ntmps115;go_wp2_with fail;refine Y.U.M ?_;rintro e w1 ⟨rfl,rfl⟩;have Px:i<(l.length:Int):=oo;have fv:IR.wrap _=i+1:=Np _ oo;clear y z s t;go_wp2_with fail;refine S.U.M λ e a hD=>?_;obtain⟨rfl,aP,U,V,X,r⟩:=hD;rw[<-aM.U]at r;have x:=r.heap aI.U (λ B=>A.U B.S);have d:=r.heap aJ.U (show¬w=b by omega);have n:=r.heap aK.U (show¬w+1=b by omega);have c0:a.cell? ⟨g,0,none⟩=some (.slice _ _ q):=aO x rfl;have f0:=kZ x 0;have r0:a.cell? ⟨w,0,none⟩=some (.int _ 0):=aO d rfl;have r1:a.cell? ⟨w,1,none⟩=some (.int _ 0):=aO d rfl;have r2:a.cell? ⟨w,2,none⟩=some (.int _ 0):=aO d rfl;have r3:a.cell? ⟨w,3,none⟩=some (.int _ 0):=aO d rfl;have r4:a.cell? ⟨w,4,none⟩=some (.int _ 0):=aO d rfl;have r5:a.cell? ⟨w,5,none⟩=some (.string _):=aO d rfl;have k0:a.cell? ⟨w+1,0,none⟩=some (.int _ _):=aO n rfl;have k1:a.cell? ⟨w+1,1,none⟩=some (.int _ _):=aO n rfl;have k2:a.cell? ⟨w+1,2,none⟩=some (.int _ _):=aO n rfl;have k3:a.cell? ⟨w+1,3,none⟩=some (.int _ _):=aO n rfl;have k4:a.cell? ⟨w+1,4,none⟩=some (.int _ _):=aO n rfl;have k5:a.cell? ⟨w+1,5,none⟩=some (.string _):=aO n rfl;have o:=kZ d;have aU:=o 0;have aV:=o 1;have aW:=o 2;have bt:=o 3;have bB:=o 4;have bD:=o 5;have D1:=Lib.H U;have D2:=Lib.H V;have D3:=Lib.H X;have rQ:HO _:=Ns.U.J r (λ k _ B=>by rw[B];exact T.U.1);have B:=Lib.H x;clear M q1 q2 q3 q4 q5 U V X r o x d n;go_wp2_with fail;refine bodyPost_ret (by simp[results,go_sem, *]) rfl ⟨rfl,?_,?_⟩;·have k:(l.eraseIdx i).length=l.length-1:=oV;refine⟨oJ,b,f,q,aP,?_,T.U,A.U,?_,(pG k),K,by rw[D2.U];exact L,by rw[k];exact D3.U⟩;(·rw[k];have e0:=heap_setCell_same (i:=0) B.U (.slice (some ⟨b,f,none⟩) (l.length-1) q);(iterate 6 refine heap_setCell_other ?_ (show g≠w by omega) _);exact e0);·(iterate 6 refine heap_setCell_other ?_ (show b≠w by omega) _);exact heap_setCell_other D1.U A.U _
 ·(iterate 6 refine aA.setCell ?_ oV _);exact rQ.U.setCell (λ _=>aL.U.1) _
end A
namespace A
def aF0(g l F w)(h:je w F g l)(i)(a:i<0\/(l.length:Int)<=i):eE am 149 #[g,i] w λ e b=>ea e (.bool false)/\bi w w b:=by have b:=(zt (ael g l F w h i a));go_enter func149,ntmps149;go_wp2_with fail;refine b.U.M ?_;rintro e a ⟨rfl,h⟩;have a:=h.size;have F:=Lib.H h;go_wp2_with fail;refine bodyPost_ret (by simp[results,go_sem]) rfl ⟨rfl,?_⟩;repeat(first|exact F.U|refine D8 ?_ _|refine Below.drew ?_|refine Below.setCell ?_ (by first|exact a|(simp;omega)) _|refine Below.alloc ?_ (by assumption) _)
def aF1(g)(l)(F)(w)(h:je w F g l)(i:Nat)(p:Pk)(c:l[i]?=p)(d:l.length<=500):eE am 149 #[g,bs i] w λ e a=>ea e (.bool true)/\je a (λ k=>F k/\k<w) g (l.eraseIdx i)/\aA w a F:=by
 have f:=(zt (aem g l F w h i p c d));go_enter func149,ntmps149;go_wp2_with fail;refine f.U.M ?_;rintro e a ⟨rfl,j,b⟩;have o:=b.size;have m:=Lib.H j.cP;have n:=Lib.H b;go_wp2_with fail;refine bodyPost_ret (by simp[results,go_sem]) rfl ⟨rfl,m.U.aG (S:=a) (aA.bR ?_ _ (mo)) oo,?_⟩;repeat(first|exact bi.refl _ _|refine D8 ?_ _|refine Below.drew ?_|refine Below.setCell ?_ (by simp) _|refine Below.alloc ?_ (by simp) _)
 refine n.U.J (aA.bR (B:=a) ?_ _ oo) (λ _ _ h=>QU h id);repeat(first|exact bi.refl _ _|refine D8 ?_ _|refine Below.drew ?_|refine Below.setCell ?_ (by simp) _|refine Below.alloc ?_ (by simp) _)
def apw(w a n c):zw am (binOp .eql 192 (.slice a n c) it) w= .ok a.isNone w:=Lib.run_eql_slice_nil w 192 211 a n c 0 0 EV
def aF2{w:cJ}{a}{u}(h:w.cell? a=some u)(o):(w.alloc o).cell? a=u:=by have o:=uK h;rw[cJ.cell?_of_block (Jm _ _ _ o)];exact h
def aoI(b)(c)(l)(w)(f:jn w 6 (.slice b l.length c) l.length (bP l))(x:l.length<=10000):eE am 195 #[.slice b l c] w λ e d=>∃v,ea e v/\Sl d w 211 6 v l (bP l)/\aA w d (λ _=>False):=by cases b with|none=>(have a:l.length=0:=by obtain⟨_,_,b,c,e,h⟩:=f;grind);obtain rfl:l=[]:=oV;have v:=λ w=>apw w none 0 c;go_enter func195,ntmps195;go_wp2_with fail;go_ret;exact⟨_,rfl,lg,aA.Y ..⟩|some a=>have g:Sl _ (λ k=>k=w) 211 6 (.slice _ 0 0) ([]:List Pk).length (bP []):=⟨rfl,.I ⟨w,0,0,#[],rfl,rfl,rC w _,by simp,by omega,by simp,by simp[bP]⟩⟩;(have i:jn (w.alloc (.cells #[] 211)) 6 (.slice (some a) l.length c) l.length (bP l):=by obtain⟨n,m,b,o,e,h⟩:=f;refine⟨n,m,b,o,e,λ p=>?_⟩;obtain⟨q,r,s⟩:=h p;exact⟨q,r,λ j u t=>aF2 (s j u t) _⟩);obtain⟨m,d,o,p,q⟩:=abS g i (ik);have r:=Lib.H o;(have s:HO (Sl d w 211 6 m l.length (bP l)):=by have h:=p.M (G:=w) (λ k _ e=>by rcases e with e|e<;>simp at e<;>omega);rw[xe]at h;exact h);have j:HO _:=((aA.Y w (λ _=>False)).alloc _).J q (λ k e h=>by simp[ON]at h;omega);generalize l.length=n at*;have v:=λ w=>apw w (some a) n c;go_enter func195,ntmps195;go_wp2_with(at_builtin;refine (yq r ?_));go_ret;exact oK
def mK(l:List Pk):List Pk:=l.drop (l-64)
def apx(l):(mK l)=min l.length 64:=by simp[mK];omega
def apy(g)(l d)(F)(w)(h:je w F g l)(x)(N:jn w 6 x d.length (bP d))(hl:l+d.length<=10000):eE am 112 #[g,x] w λ e p=>e=()/\je p (λ k=>(F k/\k<w)\/w<=k) g (mK (l++d))/\aA w p F:=by
 obtain⟨p,q,h4,h5,s,y⟩:=h.cells;have t:=h.1;have z:=aQ s;have c0:w.cell? ⟨g,0,none⟩=some (.slice p _ q):=aO s rfl;obtain⟨v',r,O,A,B⟩:=abS y N oo;have C:∀k,(tf p _ q).ownBlock=some k->F k/\k≠g:=λ k f=>(zm y f).1;have u:=B.heap s (λ f=>(C g f).2 rfl);have P:=B.M (λ k _ f=>(C k f).1);obtain⟨j,i,rfl,aI,aJ⟩:=A.E;obtain⟨W,o⟩:∃W,W=r.setCell ⟨g,0,none⟩ (.slice j (l++d).length i):=ax;have D:W.heap[g]?=some (.cells #[.slice j (l++d).length i] 194 (0,0)):=by rw[o];exact heap_setCell_same u _
 have E:Sl W (λ k=>((F k/\k<w)\/w<=k)/\k≠g) 211 6 (.slice j (l++d).length i) (l++d).length (bP (l++d)):=by rw[o];refine(A.M ?_).V ?_;intro k _ f;rcases f with⟨⟨a,b⟩,c⟩|f;exact⟨.N ⟨a,c⟩,b⟩;exact⟨.I oo,oo⟩;intro k f _;exact Ly _ _ _ _ f.2
 have a:aA w W F:=by rw[o];exact P.setCell (λ _=>t) _
 have c1:r.cell? ⟨g,0,none⟩=some (.slice p _ q):=aO u rfl;have f1:=kZ u 0;have G:=Lib.H O;have zW:=a.size;by_cases hc:(l++d).length<=64;·(have b:mK (l++d)=l++d:=by simp only[mK];rw[show(l++d).length-64=0 by omega];rfl);(have c:HO (je W (λ k=>(F k/\k<w)\/w<=k) g (mK (l++d))):=by rw[b];exact⟨.N ⟨t,z⟩,_,D,E⟩);have H:=Lib.H a;generalize(l++d).length=n at*;generalize l.length=m at*;have Q:IR.wrap _=n-64:=Np _ oo;go_enter func112,ntmps112;go_wp2_with(at_builtin;refine (yq G ?_));rw[<-o];exact Fq
 ·(have Zz:(l++d).length<=10000:=by grind);(have b:(mK (l++d)).length=64:=by rw[apx];omega);have f:(l++d).length-64<=(l++d).length:=oo;have I:(l++d).length-((l++d).length-64)=64:=oo;have c:=E.dropped f;(have R:rM (.slice j (l++d).length i) ((l++d).length-64) 6= .slice (j.map (λ x=>x.add (((l++d).length-64)*6))) 64 (i-((l++d).length-64)):=by simp only[rM,I];rw[QI oo]);rw[I,<-aej,R]at c;change Sl W _ 211 6 _ 64 (bP (mK _))at c;have J:=aoI _ _ _ W (by rw[b];exact c.news (MB _)) oo;rw[b]at J;have S:=Lib.H J;have T:=Lib.H b;have H:=Lib.H a;have K:=Lib.H t;have U:=Lib.H D;have KQ:(((l++d).length:Int)-64).toNat=(l++d).length-64:=oo;have aK:i≠(l++d).length-64:=oo;generalize(l++d).length=n at*;generalize l.length=m at*;have Q:IR.wrap _=n-64:=Er;go_enter func112,ntmps112;go_wp2_with(at_builtin;refine (yq G ?_));rw[<-o];go_wp2_with fail;refine S.U.M ?_;rintro e V ⟨v3,rfl,L,M⟩;obtain⟨N1,aL,rfl,_,_⟩:=L.E;have v:=M.heap U.U (λ f=>f);have f3:=kZ v 0;have d3:V.cell? ⟨g,0,none⟩=some (.slice j n i):=aO v rfl;have X:=Lib.H L;have Y:=Lib.H M;have Z:=Lib.H v;go_wp2_with fail;go_end0;refine⟨rfl,⟨.N ⟨K.U,z⟩,_,heap_setCell_same Z.U _,?_⟩,?_⟩;rw[T.U];refine(X.U.M (G:=λ k=>((F k/\k<w)\/w<=k)/\k≠g) ?_).V ?_;omega;intro k f _;exact Ly _ _ _ _ f.2;exact(H.U.J Y.U (λ _ _ h=>QU h id)).setCell (λ _=>K.U) _
def aF9(g l F w)(h:je w F g l)(i)(a:i<0\/(l.length:Int)<=i):eE am 150 #[g,i] w λ e b=>ea e (.bool false)/\w=b:=by have b:=(zt (aps g l F _ h i a));go_enter func150,ntmps150;go_wp2_with fail;refine b.U.M ?_;rintro e a ⟨rfl,rfl⟩;exact mZ
def aGa{w F n l b off cap}(h:Sl w F 211 6 (nx b off n cap) l.length (bP l)){i p}(c:l[i]?=some p):∀j u,(fG p)[j]?=some u->w.cell? ⟨b,off+i*6+j,none⟩=some u:=by
 intro j u a;have m:i<l.length:=oV;obtain⟨g,o,q,d,_,_,_,_,r⟩:=h.at oo;cases d;have f:j<6:=by have:=(List.getElem?_eq_some_iff.1 a).1;assumption
 have s:(bP l)[i*6+j]?=some u:=by (have:bP l=bP (l.take i)++(fG p++bP (l.drop (i+1))):=by (have e:l=l.take i++p::l.drop (i+1):=by obtain⟨k,rfl⟩:=(ft c);exact wn k);(conv=>lhs;rw[e]);simp[bP]);rw[this,List.getElem?_append_right (by rw[pN,pS];omega),pN,pS,show i*6+j-min i _*6=j by omega,List.getElem?_append_left (by simpa[fG]using f)];exact a
 grind
def aGb(g)(l)(F)(w)(h:je w F g l)(i:Nat)(p:Pk)(f:l[i]?=p)(G:l.length<=500):eE am 150 #[g,bs i] w λ e b=>ea e (.bool true)/\je b (E2 F w) g (mK (l++[p]))/\aA w b F:=by have j:i<l.length:=oV;have m:=(zt (apq g l F w h i j));have o:=h.M (G:=λ k=>F k/\k<w) (hP);have q:je (w.alloc (lF p)) _ g l:=o.aG ((aA.Y w (λ k=>¬k<w)).alloc _) oo;have r:=jn.pk (c:=1) p (rC w _);have s:=apy g l [p] _ _ q _ r (ik);have t:=Lib.H s;obtain⟨H,u,I,J,v,d⟩:=h.cells;obtain⟨b,x,K,y,_,_,_,_,_⟩:=d.at oo;cases y;have a:=aGa d f;have z:=a 0 _ rfl;have L:=a 1 _ rfl;have M:=a 2 _ rfl;have N:=a 3 _ rfl;have O:=a 4 _ rfl;have P:=a 5 _ rfl;simp at z;have Q:w.cell? ⟨g,0,none⟩=some (.slice _ _ u):=aO v rfl;have R:i<(l.length:Int):=oo;generalize l.length=n at*;go_enter func150,ntmps150;go_wp2_with fail;refine m.U.M ?_;rintro e A ⟨rfl,rfl⟩;go_wp2_with fail;refine t.U.M ?_;rintro e A ⟨rfl,B,C⟩;have D:=Lib.H B;have E:=Lib.H C;go_wp2_with fail;go_ret;refine⟨rfl,D.U.M ?_,?_⟩;intro k _ c;simp at c;grind;exact((aA.Y w F).alloc _).J E.U (nw)
end A
namespace A
def zg(l:List Pk)(i:Nat)(p:Pk):List Pk:=l.take i++p::l.drop i
def aGp(l i p)(a:i<=l.length):(zg l i p)=l.length+1:=by simp[zg];omega
def aGq(l i p):bP (zg l i p)=(bP l).take (i*6)++(fG p++om (bP l) (i*6)):=by
 have a:bP (p::l.drop i)=fG p++bP (l.drop i):=by simp[bP]
 rw[zg,sG,a,apn,aej]
def aGr(c X P:List eQ)(o off k)(a:off<=o)(b:X=(c.drop o).take k)(d:o+k+P<=c)(e:off<=c):(((c.take (o+P)++X++c.drop (o+P+X)).take o++P++(c.take (o+P)++X++c.drop (o+P+X)).drop (o+P)).drop off).take ((o-off)+(P+k))=(c.drop off).take (o-off)++(P++X):=by
 have a:X.length=k:=by grind
 have a:(c.take (o+P.length)++X++c.drop (o+P.length+X.length)).take o=c.take o:=by grind
 have b:(c.take (o+P.length)++X++c.drop (o+P.length+X.length)).drop (o+P.length)=X++c.drop (o+P.length+X.length):=by grind
 rw[a,b,pB,QC (by rw[pS];omega),List.drop_take,<-pB P,<-pB];refine List.take_left' ?_;rw[da,da,pS,DM];omega
def aGs(b off n cap r cur)(l)(p w)(c:w.heap[b]?=some (.cells cur 211 (0,0)))(F:n<cap)(g:off+cap*6<=cur.size)(i:cap<=pJ)(G:n<=1000)(j:l.length=n)(m:(cur.toList.drop off).take (n*6)=bP l)(o:w.heap[r]?=lF p):eE am 222 #[nx b off n cap,bs n,.slice (some ⟨r,0,none⟩) 1 1] w λ e d=>ea e (.slice (some ⟨b,off,none⟩) (n+1) cap)/\∃a,d.heap[b]?=some (.cells a 211 (0,0))/\a.size=cur.size/\(a.toList.drop off).take ((n+1)*6)=bP (zg l n p)/\vn w d b:=by
 unfold pJ at i;obtain⟨q,s,H,t,I⟩:=sB Tryz.WI;have u:jn w 6 (.slice _ 1 1) 1 _:=jn.pk p o;have v:=adj 192 192 q 6 EV s t c (n:=n) u oo g;have f:(bP [p]).length=6:=by rw[pN];rfl
 have x:off+n*6+(bP [p]).length<=cur.size:=by rw[f];omega
 have y:=M1 _ _ _ x;have z:((kV cur (off+n*6) (bP [p])).toList.drop off).take ((n+1)*6)=bP (zg l n p):=by have h:=apo cur.toList (bP [p]) (off+n*6) off oo (by grind);(have C:off+n*6-off+(bP [p]).length=(n+1)*6:=by rw[f];omega);rw[C]at h;rw[M3,h,show off+n*6-off=n*6 by omega,m,<-sG];congr 1;rw[zg,<-j];simp
 have h:(w.setRow b (kV cur (off+n*6) (bP [p]))).heap[b]?=some _:=OB w b cur _ 211 _ c;have C:aA w (w.setRow b (kV cur (off+n*6) (bP [p]))) _:=⟨rfl,rfl,rfl,by simp,λ k _ A=>PY w b k _ A⟩;have k:=Lib.H v;have A:=Lib.H y;have B:=Lib.H z;have D:=Lib.H h;have E:=Lib.H C;go_enter func222,ntmps222;go_wp2_with(at_builtin;refine Aw rfl rfl rfl rfl k.U ?_);go_ret;exact⟨rfl,_,D.U,A.U,B.U,E.U⟩
def aGt(b off n cap r i cur)(l)(p w)(f:w.heap[b]?=some (.cells cur 211 (0,0)))(hn:n<cap)(mN:off+cap*6<=cur.size)(Q:cap<=pJ)(hs:n<=1000)(R:l.length=n)(o:(cur.toList.drop off).take (n*6)=bP l)(g:w.heap[r]?=lF p)(hi:i<n)(E:r≠b):eE am 222 #[nx b off n cap,bs i,ti r 1] w λ e F=>ea e (.slice (some ⟨b,off,none⟩) (n+1) cap)/\∃v,F.heap[b]?=some (.cells v 211 (0,0))/\v.size=cur.size/\(v.toList.drop off).take ((n+1)*6)=bP (zg l i p)/\vn w F b:=by
 unfold pJ at Q;obtain⟨G,x,S,y,T⟩:=sB Tryz.WI;obtain⟨X,z⟩:∃X,X=(bP l).drop (i*6):=⟨_,rfl⟩;have A:X.length=(n-i)*6:=by grind
 have H:∀u∈X,u.oneCell'=true:=λ u M=>MB l u oV;have I:∀j u,X[j]?=some u->w.drew.cell? ((⟨b,off+i*6,none⟩:Addr).add j)=some u:=by intro j u J;rw[Hq];refine aO f ?_;grind
 have B:=λ t c=>ane (w:=w.drew) 192 192 t G 6 EV x y f (off:=off+(i+1)*6) (n:=n-i) (cap:=c) (m:=n+1-i) (c:=cap-i) A H I (by grind) oo;obtain⟨d,q⟩:∃d,d=kV cur (off+(i+1)*6) X:=⟨_,rfl⟩;obtain⟨a,m⟩:∃a,a=w.drew.setRow b d:=⟨_,rfl⟩;have C:a.heap[b]?=some (.cells d 211 (0,0)):=by rw[m];exact OB _ b cur _ 211 _ f
 have K:a.heap[r]?=some (lF p):=by rw[m,PY _ b r _ E];exact g
 have L:aA w a (λ k=>k=b):=by rw[m];exact⟨rfl,rfl,rfl,by simp,λ k _ h=>PY _ b k _ h⟩
 have s:d.size=cur.size:=by rw[q];exact M1 _ _ _ (by rw[A];omega)
 rw[<-q,<-m]at B;have D:=λ t c=>ane 192 192 t G 6 EV x y C (off:=off+i*6) (n:=n+1-i) (cap:=c) (m:=1) (c:=1) (news:=fG p) rfl (λ u M=>MB [p] u (by assumption)) (λ j u J=>by rw[Hq,KW];exact aO K (by simpa[fG]using J)) (by grind) (by rw[s];omega);obtain⟨c,t⟩:∃c,c=kV d (off+i*6) (fG p):=⟨_,rfl⟩;have J:c.size=cur.size:=by rw[t,M1 _ _ _ (by rw[s];simp[fG];omega)];exact s
 have M:(a.setRow b c).heap[b]?=some _:=OB a b d _ 211 _ C;have N:aA w (a.setRow b c) _:=L.J ⟨rfl,rfl,rfl,by simp,λ k _ h=>PY a b k _ h⟩ (λ _ _ h=>h);rw[<-t]at D;have O:(c.toList.drop off).take ((n+1)*6)=bP (zg l i p):=by have k:(fG p).length=6:=rfl;have P:cur.toList.length=cur.size:=yJ;have h:=aGr _ X (fG p) (off+i*6) off ((n-i)*6) oo (by rw[z,<-o,List.drop_take,List.drop_drop];congr 1;omega) (by rw[P,k];omega) (by rw[P];omega);rw[t,M3,q,M3];rw[k]at h⊢;rw[show off+(i+1)*6=off+i*6+6 by omega,show(n+1)*6=off+i*6-off+(6+(n-i)*6)by omega,h,aGq,show off+i*6-off=i*6 by omega,<-o,List.take_take,z,<-o];congr 2;omega
 have P:∀k h,(callFunc 291 #[.slice (some ⟨r,0,none⟩) 1 1,.slice (some ⟨b,off+(i+1)*6,none⟩) k h]).run am w= .ok (.value (.bool false)) w:=by intro k h;(have U:∀w,(Go.sizeOf 211).run am w= .ok 6 w:=λ w=>by exact oK);(have V:w.shape? r=some (211,6):=by simp[World.shape?,g,lF]);(have W:w.shape? b=some (211,cur.size):=by simp[World.shape?,f]);rw[run_callFunc_extern func291 kk kk kk kk,Lib.run_overlaps_apart w 192 4 211 EV 6 U ⟨r,0,none⟩ ⟨b,off+(i+1)*6,none⟩ 1 1 k h E _ _ _ _ V W oo (kZ g 0) (kZ g 6)];rfl
 have h:=Lib.H P;have U:=Lib.H B;have V:=Lib.H D;have W:=Lib.H J;have Y:=Lib.H O;have Z:=Lib.H M;have HC:=Lib.H N;clear P B D J O M N z A H I q m C K L s t o f g x S y T R;have aJ:am.follows .mixedOrders=true:=kk;have h1:cap≠i:=oo;have h2:cap≠i+1:=oo;have h3:¬(i=(n:Int)):=oo;have Bs:IR.wrap _=i+1:=Np _ oo;have aK:IR.wrap _=n+1:=Np _ oo;have aL:(0:Int)<=i+1:=oo;have aM:((i:Int)+1).toNat=i+1:=oo;have uC:((n:Int)+1).toNat=n+1:=by omega
 have aP:i<=(n:Int)+1:=by omega
 have aS:i+1<=(n:Int)+1:=by omega
 have V9:¬cap<(n:Int)+1:=oo;go_enter func222,ntmps222;go_wp2_with(simp only[h.U]);have k:=U.U;go_region_law_o(refine aCZ rfl rfl (v:= .slice _ _ (cap-(i+1))) (by simp[Act.eval,zO]) (by simp[Act.eval,zO]) (k ..) ?_);all_goals have aI:=V.U;clear k;go_wp2_with(simp only[aI]);go_ret;exact⟨rfl,_,Z.U,W.U,Y.U,HC.U⟩
end A
namespace A
def aGx(g l F w)(h:je w F g l)(i e)(a:i<0\/(l.length:Int)<=i):eE am 151 #[g,i,bs e] w λ e b=>ea e (.bool false)/\bi w w b:=by have b:=(zt (ael g l F w h i a));go_enter func151,ntmps151;go_wp2_with fail;refine b.U.M ?_;rintro e a ⟨rfl,h⟩;have e:=h.size;have a:=Lib.H h;go_wp2_with fail;refine bodyPost_ret (by simp[results,go_sem]) rfl ⟨rfl,?_⟩;repeat(first|exact a.U|refine D8 ?_ _|refine Below.drew ?_|refine Below.setCell ?_ (by first|exact e|(simp;omega)) _|refine Below.alloc ?_ (by assumption) _)
def aGy(b off n cap r i cur)(l)(p w)(c:w.heap[b]?=some (.cells cur 211 (0,0)))(d:n<cap)(f:off+cap*6<=cur.size)(g:cap<=pJ)(j:n<=1000)(m:l.length=n)(o:(cur.toList.drop off).take (n*6)=bP l)(q:w.heap[r]?=lF p)(u:i<=n)(t:r≠b):eE am 222 #[nx b off n cap,bs i,ti r 1] w λ e s=>ea e (.slice (some ⟨b,off,none⟩) (n+1) cap)/\∃a,s.heap[b]?=some (.cells a 211 (0,0))/\a.size=cur.size/\(a.toList.drop off).take ((n+1)*6)=bP (zg l i p)/\vn w s b:=by by_cases h:i<n;exact aGt b off n cap r i cur l p w c d f g j m o q h t;obtain rfl:i=n:=oo;exact aGs b off i cap r cur l p w c d f g j m o q
def T8(a:Int)(n:Nat):Nat:=if a<0 then 0 else if(n:Int)<=a then n else a.toNat
def aGz(a n):T8 a n<=n:=by unfold T8;split<;>(try split)<;>omega
def aGA(g)(l)(F)(w)(h:je w F g l)(i:Nat)(A:Int)(p:Pk)(G:l[i]?=p)(hl:l.length<=500):eE am 151 #[g,bs i,A] w λ e a=>ea e (.bool true)/\je a (λ k=>F k/\k<w) g (zg (l.eraseIdx i) (T8 A (l-1)) p)/\aA w a F:=by
 have P:=(zt (aem g l F w h i p G hl));have jw:=(List.getElem?_eq_some_iff.1 G).1;have H:=List.length_eraseIdx_of_lt jw;obtain⟨j,Q⟩:∃j,j=l.eraseIdx i:=ax;rw[<-Q]at H P⊢;rw[<-H];have CZ:j.length<=500:=oo;clear h G Q H;obtain⟨m,B⟩:∃m,m=T8 A j.length:=ax;have R:m<=j.length:=by rw[B];exact aGz ..
 obtain⟨q,C⟩:∃q:Int,(if A<0 then 0 else A)=q:=ax;have I:(if(j.length:Int)<q then(j.length:Int)else q)=(m:Int):=by rw[<-C,B];unfold T8;split<;>split<;>(try split)<;>omega
 rw[<-B];have HQ:=Lib.H C;have aS:=Lib.H I;clear B C I;go_enter func151,ntmps151;go_wp2_with fail;refine P.U.M ?_;rintro e c ⟨rfl,h1,J⟩;have hz:=J.size;obtain⟨⟨S,hg⟩,b,r,s,T,U,⟨V,ID⟩,L,W,X,M,N,Y⟩:=h1;have HC:=Lib.H J;have Z:=Lib.H U;have H6:=Lib.H W;have aU:=Lib.H Y;clear J U W Y;have bB:g≠c:=oo;have Qa:b≠c:=oo;go_wp2_with fail;obtain⟨d,y⟩:∃d,c.alloc (.cells #[p.ch,p.back,p.inc,p.seq,p.pw,.string p.load] 211)=d:=ax;rw[y];have D:d.heap[g]?=some (.cells #[.slice (some ⟨b,r,none⟩) j.length s] 194 (0,0)):=by rw[<-y];exact qC Z.U _
 have bW:d.heap[b]?=some (.cells T 211 (0,0)):=by rw[<-y];exact qC H6.U _
 have t:d.heap[c.heap.size]?=some (lF p):=by rw[<-y];exact rC c _
 have CW:aA c d (λ _=>False):=by rw[<-y];exact(aA.Y c _).alloc _
 have c0:d.cell? ⟨g,0,none⟩=some (.slice _ _ s):=aO D rfl;have f0:=kZ D 0;have r0:d.cell? ⟨c,0,none⟩=some (.int _ _):=aO t rfl;have r1:d.cell? ⟨c,1,none⟩=some (.int _ _):=aO t rfl;have r2:d.cell? ⟨c,2,none⟩=some (.int _ _):=aO t rfl;have r3:d.cell? ⟨c,3,none⟩=some (.int _ _):=aO t rfl;have r4:d.cell? ⟨c,4,none⟩=some (.int _ _):=aO t rfl;have r5:d.cell? ⟨c,5,none⟩=some (.string _):=aO t rfl;clear y;have O:=Lib.H D;have HB:=Lib.H bW;have Ns:=Lib.H CW;have u:=Lib.H t;clear D bW t CW Z H6;have kb:d≠b:=by have:=aQ HB.U;omega
 have aI:=aGy b r _ s _ m T j p (d.alloc _).drew (qC HB.U _) X N M oo rfl aU.U (rC d _) R kb;have C:=HQ.U;have I:=aS.U;have HI:=Lib.H aI;have bD:=Lib.H X;have bG:=Lib.H M;have bH:=Lib.H N;clear aI;have ng:g≠d:=by have:=aQ O.U;omega
 have nk:c≠d.heap.size:=by have:=aQ u.U;omega
 have aV:(d.alloc (.cells #[p.ch,p.back,p.inc,p.seq,p.pw,.string p.load] 211)).cell? ⟨g,0,none⟩=some (.slice _ _ s):=aO (qC O.U _) rfl;have aW:am.follows .mixedOrders=true:=kk;refine fL.region (m:=18) (S:=λ a=>a.cell? ⟨g,0,none⟩=some (.slice (some ⟨b,r,none⟩) j.length s)/\a.cell? ⟨c,0,none⟩=some (.int .i64 p.ch)/\a.cell? ⟨c,1,none⟩=some (.int .i64 p.back)/\a.cell? ⟨c,2,none⟩=some (.int .i64 p.inc)/\a.cell? ⟨c,3,none⟩=some (.int .i64 p.seq)/\a.cell? ⟨c,4,none⟩=some (.int .i64 p.pw)/\a.cell? ⟨c,5,none⟩=some (.string p.load)) aW ?_;have n:(λ a:cJ=>a.cell? ⟨g,0,none⟩=some _/\a.cell? ⟨c,0,none⟩=some _/\a.cell? ⟨c,1,none⟩=some _/\a.cell? ⟨c,2,none⟩=some _/\a.cell? ⟨c,3,none⟩=some _/\a.cell? ⟨c,4,none⟩=some _/\a.cell? ⟨c,5,none⟩=some _) d.drew:=⟨c0,r0,r1,r2,r3,r4,r5⟩;refine fL.take (i:=0) (v:=?v0) rfl kk kk kk kk (λ _ _ _ h=>h) (Or.N ⟨by rfl,?hy0⟩) n ?aQ7;case hy0=>(intro a K;(try dsimp only at K);go_simp;try(with_reducible rfl))
 try simp only[zO,mV,nn]
 refine fL.take (i:=1) (v:=?v1) rfl kk kk kk kk (λ _ _ _ h=>h) (Or.N ⟨by rfl,?hy1⟩) n ?aQ8;case hy1=>(intro a K;(try dsimp only at K);go_simp;try(with_reducible rfl))
 try simp only[zO,nn]
 refine fL.take (i:=2) (v:=?v2) rfl kk kk kk kk (λ _ _ _ h=>h) (Or.N ⟨by rfl,?hy2⟩) n ?aQ9;case hy2=>(intro a K;(try dsimp only at K);go_simp;try(with_reducible rfl))
 try simp only[zO,nn]
 refine fL.take (i:=3) (v:=?v3) rfl kk kk kk kk (λ _ _ _ h=>h) (Or.N ⟨by rfl,?hy3⟩) n ?aRa;case hy3=>(intro a K;(try dsimp only at K);go_simp;try(with_reducible rfl))
 try simp only[zO,nn]
 refine fL.take (i:=4) (v:=?v4) rfl kk kk kk kk (λ _ _ _ h=>h) (Or.N ⟨by rfl,?hy4⟩) n ?aRb;case hy4=>(intro a K;(try dsimp only at K);go_simp;try(with_reducible rfl))
 try simp only[zO,nn]
 refine fL.take (i:=5) (v:=?v5) rfl kk kk kk kk (λ _ _ _ h=>h) (Or.N ⟨by rfl,?hy5⟩) n ?aRc;case hy5=>(intro a K;(try dsimp only at K);go_simp;try(with_reducible rfl))
 try simp only[zO,nn]
 refine fL.take (i:=6) (v:=?v6) rfl kk kk kk kk (λ _ _ _ h=>h) (Or.N ⟨by rfl,?hy6⟩) n ?aRd;case hy6=>(intro a K;(try dsimp only at K);go_simp;try(with_reducible rfl))
 try simp only[zO,nn]
 refine fL.take (i:=7) (v:=?v7) rfl kk kk kk kk (λ _ _ _ h=>h) (Or.N ⟨by rfl,?hy7⟩) n ?aRe;case hy7=>(intro a K;(try dsimp only at K);go_simp;try(with_reducible rfl))
 try simp only[zO,nn]
 refine fL.take (i:=8) (v:=?v8) rfl kk kk kk kk (λ _ _ _ h=>h) (Or.N ⟨by rfl,?hy8⟩) n ?aRf;case hy8=>(intro a K;(try dsimp only at K);go_simp;try(with_reducible rfl))
 try simp only[zO,nn]
 refine fL.take (i:=9) (v:=?v9) rfl kk kk kk kk (λ _ _ _ h=>h) (Or.N ⟨by rfl,?hy9⟩) n ?aRg;case hy9=>(intro a K;(try dsimp only at K);go_simp;try(with_reducible rfl))
 try simp only[zO,nn]
 refine fL.take (i:=10) (v:=?v10) rfl kk kk kk kk (λ _ _ _ h=>h) (Or.N ⟨by rfl,?hy10⟩) n ?aRh;case hy10=>(intro a K;(try dsimp only at K);go_simp;try(with_reducible rfl))
 try simp only[zO,nn]
 refine fL.take (i:=11) (v:=?v11) rfl kk kk kk kk (λ _ _ _ h=>h) (Or.N ⟨by rfl,?hy11⟩) n ?aRi;case hy11=>(intro a K;(try dsimp only at K);go_simp;try(with_reducible rfl))
 try simp only[zO,nn]
 refine fL.take (i:=12) (v:=?v12) rfl kk kk kk kk (λ _ _ _ h=>h) (Or.N ⟨by rfl,?hy12⟩) n ?aRj;case hy12=>(intro a K;(try dsimp only at K);go_simp;try(with_reducible rfl))
 try simp only[zO,nn]
 refine fL.take (i:=13) (v:=?v13) rfl kk kk kk kk (λ _ _ _ h=>h) (Or.N ⟨by rfl,?hy13⟩) n ?aRk;case hy13=>(intro a K;(try dsimp only at K);go_simp;try(with_reducible rfl))
 try simp only[zO,nn]
 have aJ:=aO (qC u.U (lF p)) (i:=0) rfl;have FE:=aO (qC u.U (lF p)) (i:=1) rfl;have aK:=aO (qC u.U (lF p)) (i:=2) rfl;have aL:=aO (qC u.U (lF p)) (i:=3) rfl;have aM:=aO (qC u.U (lF p)) (i:=4) rfl;have aP:=aO (qC u.U (lF p)) (i:=5) rfl;refine fL.step (i:=14) kk rfl (λ K o=>?_);go_simp;refine o.U _ _ (λ _=>⟨aV,aJ,FE,aK,aL,aM,aP⟩) ?_;clear o K aJ FE aK aL aM aP;try simp only[zO,mV,pP,nn]
 refine fL.step (i:=15) kk rfl (λ K o=>?_);go_simp;go_at_call 222;refine HI.U.M ?_;rintro e a ⟨rfl,bt,d1,d2,d3,E⟩;have v:=E.heap (qC O.U _) L.S;have f:=E.heap (qC u.U _) Qa.S;go_wp2_with fail;refine o.U _ _ (FP v f) ?_;clear o K;try simp only[zO,mV,pP,nn]
 have q0:a.cell? ⟨g,0,none⟩=some (.slice _ _ s):=aO v rfl;have q1:=kZ v 0;refine fL.step (i:=16) kk rfl (λ K o=>?_);go_simp;refine o.U _ _ (FP v f) ?_;clear o K;try simp only[zO,mV,pP,nn]
 refine fL.step (i:=17) kk rfl (λ K o=>?_);go_simp;refine o.U _ _ (FP v f) ?_;clear o K;try simp only[zO,mV,pP,nn]
 refine fL.step (i:=18) kk rfl (λ K o=>?_);go_simp;refine o.U _ _ (λ z=>QU rfl z) ?_;clear o K;try simp only[zO,mV,pP,nn]
 refine fL.done kk ?_;have z:HO _:=((HC.U.J Ns.U (nZ)).alloc _).drew.J E (λ k _ x=>(rA x V));have x:=Lib.H d1;have D2:=Lib.H d2;have D3:=Lib.H d3;have D5:=Lib.H v;clear d1 d2 d3 E v f;go_wp2_with fail;refine bodyPost_ret (by simp[results,go_sem]) rfl ⟨rfl,?_,?_⟩;have k:=aGp j m p R;refine⟨⟨S,hg⟩,_,heap_setCell_same D5.U _,pN _,.I ⟨b,r,s,bt,by rw[k],⟨⟨V,ID⟩,L⟩,heap_setCell_other x.U L _,(pG k),M,by rw[D2.U];exact N,by rw[k];exact D3.U⟩⟩;exact z.U.setCell (λ _=>S) _
end A
end Go.Proofs.YtinijkiakbbokaaGreat
