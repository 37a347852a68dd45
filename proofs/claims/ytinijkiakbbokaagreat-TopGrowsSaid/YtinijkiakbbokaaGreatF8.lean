/- A part of the proof of TopGrows. No conditions. -/
import Derived.Test.YtinijkiakbbokaaGreatF7
set_option linter.all false
set_option maxRecDepth 1000000
set_option maxHeartbeats 16000000
namespace Go.Proofs.YtinijkiakbbokaaGreat
open Go.Proofs.YtinijkiakbbokaaGreat _root_.Go.RowKit Go.Proofs.Tryz
open Go.Proofs.Tryz renaming prog->am,checked->Pi
open _root_.Go.RowKit renaming Below->bi,Hid->HO
open _root_.Go renaming World->cJ,Calls->eE,Value->eQ,maxLen->pJ,heap_alloc_new->rC,info_parts->sB,block_lt_of_cell->uK,Program->xm,TypeId->zo,mem_ready->Ow
open Go.Value.slice renaming injEq->cL
open _root_.List renaming length_append->da,replicate->eM,setIfInBounds_toArray->mV,set_cons_succ->nn,append_assoc->pB,set_cons_zero->pP,length_take->pS,getElem_toArray->qr,getElem_cons_zero->qy,range->sD,getElem_cons_succ->sN,map_cons->tj,take_add_one->uk,append_nil->uV,flatMap_append->vG,take_length->wy,eq_nil_of_length_eq_zero->wI,length_singleton->Cr,map_append->EF,foldl_cons->EQ,mem_map->GS,all_eq_true->KD,size_toArray->NP,take_append_drop->Qm
open _root_.Nat renaming zero_le->fy,le_refl->kg,le_trans->lI,lt_of_lt_of_le->qk
open Go.Region renaming ready->nF,binds->Pl
open Go.Value renaming slice->tf,string->OW
open _root_.ByteArray renaming empty->oR
open Go.Builtin renaming append_->pV
open Go.Sem renaming run->zw
open Int renaming toNat_natCast->ux
open _root_.Array renaming length_toList->yJ
open Go.Act renaming put->zO
open Option.some renaming injEq->BY
open Go.IntKind renaming i64->IR
open _root_.Go.RowKit.Below renaming heap_alloc->Jm,heap_setCell->Ly
open Go.Addr.mk renaming injEq->KH
open Go.DataW renaming trod->Ls
open Go.IntWalk renaming i64_in->Np
section
section
variable {P:xm} {ops:Array Oper} {Q:Exit→Act→cJ→Prop} {md:Region.Mode} {S:cJ→Prop} {m:Nat}
def fL.Ak{i o v n q a w}(f:ops[i]?=some o)(g:Region.noSelect ops=true)(j:ops.size<=m)(e:Region.free md ops q i=true)(k:(nF md ops q).contains i=true)(t:Mn Q o v)(x:YieldsIf P ops S o v a)(l:S w)(h:fL P md ops Q S m n (q.setIfInBounds i true) (a.put o.dst v) w):fL P md ops Q S m (n+1) q a w:=by
 have l:=Region.noSelect_spec g;have g:=λ j h d r g b=>Region.free_spec f e j h d r g b;have e:i∈nF md ops q:=(az k)
 have x:∀(q:Array _)j h,i∈nF md ops q->j∈nF md ops q->ops[j]?=some h->∀e∈h.after,Pl md e=true->e.on≠i:=by intro q j h k r d e H y s;have u:=(Ow.1 k).1;let⟨k,d,H⟩:=(Ow.1 r).2;grind
 have k:∀(n:Nat)(q:Array _)(a:Act)(w:cJ),(∀j h,ops[j]?=some h->j≠i->q.getD j true=false->(∀e∈h.after,Pl md e=true->e.on≠i)->o.apart ops h=true)->i∈nF md ops q->YieldsIf P ops S o v a->S w->fL P md ops Q S m n (q.setIfInBounds i true) (a.put o.dst v) w->fL P md ops Q S m (n+1) q a w:=by intro n;induction n with|zero=>intro q a w _ r y s H;refine⟨(RE r),λ j d=>?_⟩;by_cases e:j=i;subst e;exact y.wpOp f s ⟨λ _=>s,H⟩;·have k:=ready_mono d e;rw[H.1]at k;cases k|succ n u=>intro q a w p r y s H;refine⟨(RE r),λ j d=>?_⟩;by_cases e:j=i;subst e;exact y.wpOp f s ⟨λ _=>s,H⟩;obtain⟨h,s,-⟩:=(Ow.1 d).2;have b:=x q j h r d s;(have x:j≠m:=by grind);have A:=wpOp_putIf s (p j h s e (Ow.1 d).1 b) (λ z b=>l i o z b f) (λ z b=>l j h z b s) t y (H.2 j (ready_mono d e));refine wpOp_mono (λ f t k=>⟨k.2.1,u _ f t (λ q f t o g=>(p q f t o ?_)) (ready_mono r (Ne.S e)) k.1 (k.2.1 x) ?_⟩) A;by_cases f:j=q;subst f;exact(Ow.1 d).1;rw[getD_set_ne _ f]at g;exact g;rw[Array.setIfInBounds_comm _ _ e];exact k.2.2
 grind
end
end
section
open _root_.Go.ChangeShapes _root_.Go.WideShapes _root_.Go.ChangeAt _root_.Go.RowKit
def Tryz.own:ownKnob am.godebug=none:=kk
def Tryz.laidOut:laidOutB am=true:=kk
def arV:am.underlying 4=some .bool:=kk
section
variable {H:Type} {enc:zo×eQ→H} {W W':cJ}
def arW:∀{a}{e}{f}{c},(∀t∈a,am.readableRec t=true/\t<am.types.size)->DataW.TrodAll enc am W 0 (λ _=>true) true a e f c->bi W W W'->(∀x∈c,x.block<W)->DataW.TrodAll enc am W' 0 (λ b=>decide (b<W)) true a e f c:=by intro a;induction a with|nil=>intro e f c _ h _ _;obtain⟨rfl,rfl,rfl⟩:=trodAll_nil h;exact trodAll_mk0|cons t a g=>intro e f c i h x l;obtain⟨v,m,d,n,p,q,rfl,rfl,rfl,j,k⟩:=trodAll_cons h;have b:=i t (List.mem_cons_self ..);exact⟨p,q,(Below.trod Tryz.laidOut b.1 b.2 j x oV),(g oV k x oV),rfl⟩
end
def Lawful(f:FuncId)(e:Func):Prop:=∀(H)(n)(W)(x)(a)(b:List (DataW H))(p),(∀(j:Nat)t v,e.params[j]?=some t->a[j]?=some v->Value.okWide am W .any x t v)->DataW.TrodAll n am W 0 (λ _=>true) true e.params.toList a.toList b p->(∀x∈p,x.block<W)->(∀n∈DataW.weightsEach am e.params.toList b,n<=140737488351232)->eE am f a W λ e f=>ea e (.bool true)/\bi W W f
def arX{f c}{s:ChangeSpec}{a}(E:am.funcs[f]?=some c)(F:am.inits.idxOf? f=none)(l:s.vars=[])(G:c.resultTypes.toList=[4])(I:c.resultTypes.size=1)(J:∀t∈c.params.toList,am.readableRec t=true/\t<am.types.size)(K:∀(H)(b),b.length=c.params.toList->(s.fn H (b++[])).results=[.lit (.bool true)]/\(s.fn H (b++[])).args=b/\(s.fn H (b++[])).vars=[])(L:Lawful f c)(m)(M:m.Started)(H)(g:zo×eQ->H)(N:∃(w:cJ)(k:Tape)(i:Input),w.os=m/\(w.forCall k i).Shaped Pi.prog/\i.vars=[]/\Input.okWide Pi.prog (w.forCall k i) .any w f i/\s.pre6 g Pi.prog c [] false (w.forCall k i).memory i.args/\a.holds Pi.prog (lone (Frame.enter Pi.prog f i.args .normal) [] (w.forCall k i))):ReturnsInHanded a Pi m f .any (s.pre6 g am c [] false) (s.post g am c false true false false):=by
 refine returnsInHanded_of_change_sized Tryz.own M F E N ?_;intro W A o b B Z O C _ P _;have r:(DataW.weightsEach am (c.params.toList++s.plain.varTypes am) _).all _=true:=P;have Q:∀(j:Nat)t v,c.params[j]?=some t->o[j]?=some v->Value.okWide am W _ A t v:=O;have u:=C;obtain⟨p,q,R,D,rfl,aI,ue⟩:=C;have y:DataW.TrodAll g am W 0 _ _ _ _ b p:=R;have S:b.length=c.params.toList.length:=by (have:∀{x:List _}{e:List _}{b:List _}{n:List _},DataW.TrodAll g am W 0 (λ _=>true) true x e b n->b.length=x.length:=by intro x;induction x with|nil=>intro e b n h;obtain⟨rfl,rfl,rfl⟩:=trodAll_nil h;rfl|cons t x T=>intro e b n h;obtain⟨v,U,d,V,p,q,rfl,rfl,rfl,X,z⟩:=trodAll_cons h;simp[T z]);exact this y
 obtain⟨T,d,U⟩:=K H b S;have V:s.plain.varTypes am=[]:=by simp[ChangeSpec.plain,l,DataSpec.varTypes]
 rw[V,uV]at r;have X:B=[]/\q=[]:=by rw[l]at D;obtain⟨z,x⟩:=trodVars_none D;exact⟨z,x⟩
 obtain⟨rfl,rfl⟩:=X;rw[uV]at r;simp at u;have z:∀x∈p,x.block<W:=λ x n=>by simpa using u.lt x n
 refine(L H g W A o b p Q y z (λ n e=>QR (KD.1 r n e))).M λ e W' ⟨Y,n⟩=>?_;subst Y;refine⟨_,rfl,b,[],p,[],p,[],u,?_,?_,?_,n.frame _,λ h=>by cases h⟩;rw[G,I,T];exact trodAll_mk1 (shut_bool arV _);rw[d];exact arW J y n z;rw[l,U];rfl
end
section
open _root_.Go.ChangeShapes _root_.Go.WideShapes _root_.Go.ChangeAt _root_.Go.RowKit _root_.Go.Deep
def bounds_i64{n}(h:(Lit.int .i64 n).wf=true): Mm n:=by simpa[Lit.wf,IntKind.min,IntKind.max,IntKind.signed,IntKind.bits]using h
section
variable {H:Type} {enc:zo×eQ→H} {W:cJ}
end
end
namespace D
structure bj where
 left:Int
 down:Bool
 gO:ByteArray
 uz:List ByteArray
 cap:Int
def TV(s:bj)(v:eQ):Array eQ:=#[s.left,s.down,s.gO,v,s.cap]
def dO(w:cJ)(F:Nat->Prop)(g:Nat)(s:bj):Prop:=F g/\∃v,w.heap[g]?=some (.cells (TV s v) 174 (0,0))/\Sl w (zv F g) 9 1 v s.uz (strCells s.uz)
def dO.aG{w w' F S g s}(h:dO w F g s)(a:aA w w' S)(b:Al F S):dO w' F g s:=by obtain⟨s,v,c,d⟩:=h;exact⟨s,v,a.heap c (b g s),d.aG a (λ k a=>b k a.1)⟩
def dO.M{w F G g s}(h:dO w F g s)(a:oF w F G):dO w G g s:=by obtain⟨F,v,s,b⟩:=h;exact⟨a g (aQ s) F,v,s,b.M oV⟩
def dO.B{w w' F g x s}(h:dO w F g s)(a:bi x w w')(C:w<=x):dO w' F g s:=h.aG (aau a) (pm)
def dO.cells{w F g s}(h:dO w F g s):∃b a,s.uz.length<=a/\a<=pJ/\w.heap[g]?=some (.cells (TV s (.slice b s.uz a)) 174 (0,0))/\Sl w (zv F g) 9 1 (f7 b s.uz a) s.uz (strCells s.uz):=by obtain⟨_,v,F,s⟩:=h;obtain⟨b,a,rfl,h,F⟩:=s.E;exact oK
def bj.tail(s:bj):List UInt8:=(s.uz.map (·.data.toList)).flatten
def bj.all(s:bj):List UInt8:=s.gO.data.toList++s.tail
def join_nil(l):Lib.join l []=l.flatten:=by show(l.intersperse []).flatten=l.flatten;induction l with|nil=>rfl|cons x l a=>cases l with|nil=>rfl|cons y l=>have e:List.intersperse _ (x::y::l)=x::[]::List.intersperse [] _:=rfl;grind
def aEz(g s)(F)(w)(h:dO w F g s)(v:s.all.length<=140737488355328)(y:s.uz.length<=1000000):∃f d,w.heap[g]?=some (.cells (TV s (.slice f s.uz d)) 174 (0,0))/\∀c,bi w w c->eE am 310 #[f7 f s.uz d,oR] c λ e j=>ea e (.string ⟨s.tail⟩)/\bi c c j:=by
 obtain⟨f,d,k,z,l,m⟩:=h.cells;refine⟨f,d,l,λ c n=>?_⟩;have o:=Jf m n .refl;have i:Lib.join _ oR.data.toList=s.tail:=join_nil _;by_cases p:s.uz.length=0;have q:s.tail=[]:=by unfold bj.tail;grind
 rw[p,q];exact(Tryz.strings_Join_none f d _ c).M λ e j ⟨a,b⟩=>⟨a,by subst b;exact bi.refl ..⟩;obtain⟨b,a,A,e,_,r,_,_,t⟩:=o.at oo;simp only[cL]at e;obtain⟨rfl,-,rfl⟩:=e;have:=Tryz.strings_Join b a d _ _ c (λ j x u=>(t j _ (by simp[strCells,u])).1) r oo k (by rw[i];have:s.all=s.gO.data.toList+s.tail.length:=da;omega);rw[i]at this;exact this
end D
namespace D
def Ia(g s F w)(h:dO w F g s)(b:s.all.length<=140737488355328)(c:s.uz.length<=1000000):eE am 238 #[g] w λ e d=>ea e (.string ⟨s.all⟩)/\bi w w d:=by
 obtain⟨p,a,d,f⟩:=aEz g s F w h b c;have h:=UJ (i:=2) (.string s.gO) d rfl;have h:=UJ (i:=3) (.slice p s.uz.length a) d rfl;have c:∀d h,eE am 310 #[.slice p s.uz.length a,.string oR] (Go.Sort.grow (redrawn w d) h) λ e b=>e= .returned (.string ⟨s.tail.toArray⟩)/\∃p:Regrown,b=Go.Sort.grow (redrawn w p.d) p.os:=λ d h=>Calls.regrown_of (f _ (below_regrown w d h));have d:=Lib.H c;have h:(s.gO++⟨s.tail.toArray⟩:ByteArray)=⟨s.all.toArray⟩:=by exact oK
 have h:∀h:cJ,zw am (Op.stringOp .add s.gO ⟨s.tail.toArray⟩) h= .ok (.string ⟨s.all.toArray⟩) h:=λ h=>by have e:s.all.length=s.gO.data.toList.length+s.tail.length:=da;have e:s.gO.size=s.gO.data.toList.length:=yJ.S;have e:(⟨s.tail.toArray⟩:ByteArray).size=s.tail.length:=NP;have:=run_string_add_sum (P:=am) h s.gO ⟨s.tail.toArray⟩ oo;assumption
 go_enter func238,ntmps238;go_wp2_with fail;refine wp_region_quiet_below kk kk ?_;repeat(go_big_quiet_step(exact d.U _ _))
 refine wpQuiet_nil ?_;intro _ d;obtain⟨⟨s,h⟩,rfl⟩:=d;have d:=Lib.H (below_regrown w s h);generalize Go.Sort.grow (redrawn w s) h=s at*;go_wp2_with fail;go_ret;exact oK
def aol(s:bj):(⟨s.all⟩:ByteArray).size=s.all:=NP
def aom(g)(s)(F)(w)(h:dO w F g s)(j:s.all.length<=100000000)(c:s.uz.length<=1000000):eE am 240 #[g] w λ e a=>ea e (.int .i64 (s.all:Nat))/\bi w w a:=by
 have d:=Lib.H (Ia g s F w h (by omega) c);have a:=aol s;clear h;generalize(⟨s.all⟩:ByteArray)=x at*;generalize s.all.length=n at*;have f:=Lib.H a;have k:x.size<=100000000:=by omega
 clear a;go_enter func240,ntmps240;go_wp2_with fail;refine d.U.M ?_;rintro e l ⟨rfl,b⟩;have i:=Lib.H b;clear b;go_wp2_with fail;go_ret;exact⟨by rw[f.U];rfl,i.U⟩
def Nh(g s F w)(h:dO w F g s):eE am 237 #[g] w λ e F=>e= .returned (bs (if s.down then 8 else 0))/\w=F:=by obtain⟨d,e,_,_,F,_⟩:=h.cells;have h:w.cell? ⟨g,1,none⟩=some (.bool _):=aO F rfl;generalize s.down=d at*;cases d with|true=>go_enter func237,ntmps237;exact mZ|false=>go_enter func237,ntmps237;exact mZ
def SN(g s)(F)(w)(h:dO w F g s)(a:s.all.length<=100000000)(b:s.uz.length<=1000000)(j:0<=s.cap)(k:s.cap<=16777216):eE am 250 #[g] w λ e n=>e= .returned (bs (s.cap-(s.all:Nat)))/\bi w w n:=by
 obtain⟨l,m,_,_,c,_⟩:=h.cells;have o:=UJ (i:=4) (.int .i64 s.cap) c rfl;have f:∀d n,eE am 240 #[.pointer (some ⟨g,0,none⟩)] (Go.Sort.grow (redrawn w d) n) λ e i=>e= .returned (.int .i64 (s.all.length:Nat))/\∃p:Regrown,i=Go.Sort.grow (redrawn w p.d) p.os:=λ d n=>Calls.regrown_of (aom g s F _ (h.B (below_regrown w d n) (kg _)) a b);have i:=Lib.H f;have q:IR.wrap (s.cap-(s.all.length:Int))=s.cap-(s.all.length:Int):=Np _ oo;generalize s.all.length=n at*;go_enter func250,ntmps250;go_wp2_with fail;refine wp_region_quiet_below kk kk ?_;repeat(go_big_quiet_step(exact i.U _ _))
 refine wpQuiet_nil ?_;intro _ p;obtain⟨⟨e,d⟩,rfl⟩:=p;have r:=Lib.H (below_regrown w e d);generalize Go.Sort.grow (redrawn w e) d=t at*;go_wp2_with fail;go_ret;exact oK
def aEA(g s F w)(h:dO w F g s)(b:s.down=true):eE am 171 #[g] w λ e a=>e= .returned (.tuple #[oR,bs 8])/\w=a:=by have a:=Nh g s F w h;rw[b]at a;have b:=Lib.H a;go_enter func171,ntmps171;go_wp2_with fail;refine b.U.M ?_;rintro e b ⟨rfl,rfl⟩;go_wp2_with fail;go_ret2;exact oK
def aEB(g s)(F)(w)(h:dO w F g s)(b:s.down=false)(k:s.all.length<=100000000)(c:s.uz.length<=1000000):eE am 171 #[g] w λ e a=>e= .returned (.tuple #[.string ⟨s.all⟩,bs 0])/\bi w w a:=by have a:=Nh g s F w h;rw[b]at a;have d:=Lib.H a;have f:=Lib.H (Ia g s F w h oo c);generalize(⟨s.all⟩:ByteArray)=x at*;go_enter func171,ntmps171;go_wp2_with fail;refine d.U.M ?_;rintro e i ⟨rfl,rfl⟩;go_wp2_with fail;refine f.U.M ?_;rintro e i ⟨rfl,j⟩;have l:=Lib.H j;go_wp2_with fail;go_ret2;exact oK
def bj.j0(s:bj):bj:=if s.left=0 then⟨-1,true,s.gO,s.uz,s.cap⟩else if 0<s.left then⟨s.left-1,s.down,s.gO,s.uz,s.cap⟩else s
def Qb(g s)(F)(w)(h:dO w F g s)(o: -1<=s.left)(p:s.left<=9223372036854775807):eE am 241 #[g] w λ e a=>ea e (s.left !=0)/\dO a F g s.j0/\aA w a F:=by
 obtain⟨c,v,a,d⟩:=h;have t:w.cell? ⟨g,0,none⟩=some (.int _ _):=aO a rfl;have u:w.cell? ⟨g,1,none⟩=some (.bool _):=aO a rfl;have x:=kZ a 0;have y:=kZ a 1;have z:=aQ a;obtain⟨e,q,j,l,m⟩:=s;simp only at*;unfold bj.j0;simp only;by_cases b:e=0;·subst b;rw[QJ rfl];have n:=heap_setCell_same (i:=1) (heap_setCell_same (i:=0) a (.int .i64 (-1))) (.bool true);have r:=heap_setCell_same (i:=0) (heap_setCell_same (i:=1) a (.bool true)) (.int .i64 (-1));have f:HO (dO _ F g ⟨-1,true,j,l,m⟩/\aA w ((w.setCell ⟨g,0,none⟩ (.int .i64 (-1))).setCell ⟨g,1,none⟩ (.bool true)) F):=⟨⟨c,v,n,(d.V nl).V λ k i _=>Ly _ _ _ _ i.2⟩,((aA.Y w F).setCell (λ _=>c) _).setCell (λ _=>c) _⟩;clear a d n r;go_enter func241,ntmps241;go_wp2_with fail;go_ret;exact⟨rfl,f.U⟩
 ·(have A:(e==0)=false:=by rw[beq_eq_false_iff_ne];exact b);rw[QI b];by_cases n:0<e;(·rw[QJ n];have B:IR.wrap _=e-1:=Er;have f:HO (dO (w.setCell ⟨g,0,none⟩ (.int _ (e-1))) F g ⟨e-1,q,j,l,m⟩/\aA w (w.setCell ⟨g,0,none⟩ (.int .i64 (e-1))) F):=⟨⟨c,v,heap_setCell_same a _,d.V nl⟩,(aA.Y w F).setCell (λ _=>c) _⟩;(have i:(e !=0)=true:=by rw[bne_iff_ne];exact b);have k:=Lib.H i;(have r:decide (0<e)=true:=ik);clear a d i p o b;go_enter func241,ntmps241;go_wp2_with fail;go_ret;exact⟨by rw[k.U];rfl,f.U⟩);·rw[QI n];have f:HO (dO w F g ⟨e,q,j,l,m⟩):=⟨c,v,a,d⟩;(have i:(e !=0)=true:=by rw[bne_iff_ne];exact b);have k:=Lib.H i;(have r:decide _=false:=ik);clear a d i p o b n;go_enter func241,ntmps241;go_wp2_with fail;go_ret;exact⟨by rw[k.U];rfl,f.U,aA.Y ..⟩
end D
namespace D
structure jG(N:Nat)(s:bj):Prop where
 c0:0≤s.cap
 c1:s.cap≤16777216
 all:s.all.length≤s.cap
 uz:s.uz≤N
 l0: -1≤s.left
 l1:s.left≤9223372036854775807
def KN(s:bj):s.j0.gO=s.gO/\s.j0.uz=s.uz/\s.j0.cap=s.cap/\s.j0.all=s.all:=by unfold bj.j0;split;exact oK;split<;>exact oK
def jG.j0{N s}(h:jG N s):jG N s.j0:=by obtain⟨d,b,a,c⟩:=KN s;refine⟨a▸h.c0,a▸h.c1,by rw[a,c];exact h.all,b▸h.uz,?_,?_⟩;have:=h.l0;unfold bj.j0;grind;have:=h.l1;unfold bj.j0;grind
def bj.more(s:bj)(x:ByteArray):bj:=⟨s.left,s.down,s.gO,s.uz++[x],s.cap⟩
def aoo(s:bj)(x):(s.more x).all=s.all++x.data.toList:=by unfold bj.more bj.all bj.tail;simp
def bj.append(s:bj)(x:ByteArray):Int×bj:=if s.down then(8,s)else if s.cap-(s.all:Nat)<(x.size:Nat)then(7,s)else if s.left=0 then(8,s.j0)else if x.toList=[]then(0,s.j0)else(0,s.j0.more x)
def dO.tight{w F g s}(h:dO w F g s):dO w (E2 F w) g s:=h.M λ k a b=> .N ⟨b,a⟩
def aEC(g N s)(F)(w x)(h:dO w F g s)(n:jG N s)(X:N<=100000)(hx:x.size<=140737488351232):eE am 178 #[g,.string x] w λ e z=>e=(s.append x).1/\dO z (λ k=>(F k/\k<w)\/w<=k) g (s.append x).2/\aA w z F:=by
 have Y:=n.c0;have Z:=n.c1;have o2:=n.all;have o3:=n.uz;have z:=Nh g s F w h;unfold bj.append;by_cases o:s.down=true;·rw[QJ o];rw[o]at z;have p:=Lib.H z;have B:=Lib.H h.tight;go_enter func178,ntmps178;go_wp2_with fail;refine p.U.M ?_;rintro e c ⟨rfl,rfl⟩;go_wp2_with fail;go_ret;exact⟨rfl,B.U,aA.Y ..⟩
 ·rw[QI o];(have o:s.down=false:=(az o));rw[o]at z;have p:=Lib.H z;have r:=Lib.H (SN g s F w h oo oo Y Z);by_cases A:s.cap-(s.all:Nat)<x.size;(·rw[QJ A];have B:=Lib.H h.tight;obtain⟨q,C⟩:∃q:Int,s.cap-(s.all:Nat)=q:=ax;rw[C]at A r;(have V7:decide (q<x.size)=true:=ik);go_enter func178,ntmps178;go_wp2_with fail;refine p.U.M ?_;rintro e c ⟨rfl,rfl⟩;go_wp2_with fail;refine r.U.M ?_;rintro e c ⟨rfl,f⟩;have j:=Lib.H f;go_wp2_with fail;go_ret;exact⟨rfl,B.U.B j.U .refl,aA.bR j.U _ oo⟩);·rw[QI A];obtain⟨q,C⟩:∃q:Int,s.cap-(s.all:Nat)=q:=ax;rw[C]at A r;(have V7:decide _=false:=ik);have D:=Lib.H h;have E:=n.l0;have G:=n.l1;by_cases H:s.left=0;(·rw[QJ H];(have B:HO ((s.left !=0)=false):=by show(s.left !=0)=false;grind);go_enter func178,ntmps178;go_wp2_with fail;refine p.U.M ?_;rintro e c ⟨rfl,rfl⟩;go_wp2_with fail;refine r.U.M ?_;rintro e c ⟨rfl,f⟩;have m:=Qb g s _ c (D.U.tight.B f .refl) E G;rw[B.U]at m;have j:=Lib.H f;have y:=Lib.H m;go_wp2_with fail;refine y.U.M ?_;rintro e i ⟨rfl,t,u⟩;have b:=Lib.H t;have d:=Lib.H u;go_wp2_with fail;go_ret;refine⟨rfl,b.U,(aA.bR j.U F oo).J d.U (λ k l a=>?_)⟩;grind);·rw[QI H];(have B:HO ((s.left !=0)=true):=by show(s.left !=0)=true;rw[bne_iff_ne];exact H);by_cases I:x.toList=[];(·rw[QJ I];go_enter func178,ntmps178;go_wp2_with fail;refine p.U.M ?_;rintro e c ⟨rfl,rfl⟩;go_wp2_with fail;refine r.U.M ?_;rintro e c ⟨rfl,f⟩;have m:=Qb g s _ c (D.U.tight.B f .refl) E G;rw[B.U]at m;have j:=Lib.H f;have y:=Lib.H m;go_wp2_with fail;refine y.U.M ?_;rintro e i ⟨rfl,t,u⟩;have b:=Lib.H t;have d:=Lib.H u;go_wp2_with fail;go_ret;refine⟨rfl,b.U,(aA.bR j.U F oo).J d.U (λ k l a=>?_)⟩;grind);·rw[QI I];(have aK:x.toList.isEmpty=false:=by cases h:x.toList with|nil=>exact QU h I|cons a b=>rfl);(have Q:HO (s.j0.uz.length<=100000):=by rw[(KN s).2.1];exact lI o3 X);go_enter func178,ntmps178;go_wp2_with fail;refine p.U.M ?_;rintro e c ⟨rfl,rfl⟩;go_wp2_with fail;refine r.U.M ?_;rintro e c ⟨rfl,f⟩;have m:=Qb g s _ c (D.U.tight.B f .refl) E G;rw[B.U]at m;have j:=Lib.H f;have y:=Lib.H m;go_wp2_with fail;refine y.U.M ?_;rintro e i ⟨rfl,t,u⟩;have aL:w<=c.heap.size:=j.U.size;have aM:=u.size;obtain⟨d,R⟩:∃d,s.j0=d:=ax;rw[R]at t Q;let⟨hF,v,J,S⟩:=t.M (G:=λ k=>(F k/\k<w)\/(w<=k/\k<i)) oV;obtain⟨K,L,rfl,_,_⟩:=S.E;have p3:i.cell? ⟨g,3,none⟩=some (.slice K d.uz L):=aO J rfl;have Bn:=aQ J;have M:Sl (i.alloc (.cells #[x] 9)) (λ k=>((F k/\k<w)\/(w<=k/\k<i))/\k≠g) 9 1 (.slice K d.uz L) d.uz _:=S.V λ k _ l=>(X0 l);let⟨v',O,aI,T,U⟩:=UL x M (rC i _) (aaR Q);obtain⟨V,W,rfl,_,_⟩:=T.E;have zA:(i.alloc (.cells #[x] 9)).heap.size=i+1:=World.size_alloc ..;have P:=U.heap (qC J _) (λ l=>(zm M l).1.2 rfl);have q3:O.cell? ⟨g,3,none⟩=some (.slice K d.uz L):=aO P rfl;have f3:=kZ P 3;(have HD:HO (dO (O.setCell ⟨g,3,none⟩ (.slice V (d.uz+1) W)) (λ k=>(F k/\k<w)\/w<=k) g (d.more x)):=by refine⟨hF.imp id λ a=>a.1,_,heap_setCell_same P _,?_⟩;(have e:(d.more x).uz=d.uz.length+1:=by simp[bj.more]);rw[e];refine(T.M (G:=λ k=>((F k/\k<w.heap.size)\/w.heap.size<=k)/\k≠g) λ k _ l=>?_).V λ k l _=>Ly _ _ _ _ l.2;grind);(have HC:HO (aA w (O.setCell ⟨g,3,none⟩ (.slice V (d.uz+1) W)) F):=by have aJ:=(aA.bR j.U F oo).J u oV;refine((aJ.alloc _).J U λ k l a=>?_).setCell (λ aP=>?_) _;rcases(zm M a).1.1 with⟨b,_⟩|⟨b,_⟩;exact b;omega;grind);have k:=Lib.H aI;have b:=Lib.H R;go_wp2_with(at_builtin;refine (yq k ?_));go_ret;exact⟨rfl,by rw[b.U];exact HD.U,HC.U⟩
end D
namespace D
def bj.only(s:bj)(y:ByteArray):bj:=⟨s.left,s.down,y,[],s.cap⟩
def bj.bytes(s:bj):ByteArray:=⟨s.all⟩
def bj.sync(s:bj):Int×bj:=if s.down then(8,s)else if s.left=0 then(8,s.j0)else(0,s.j0.only s.bytes)
def bj.KO(s:bj)(n:Int):Int×bj:=if s.down then(8,s)else if n<0\/s.all.length<n then(2,s)else if s.left=0 then(8,s.j0)else(0,s.j0.only (s.bytes.extract 0 n.toNat))
def bj.vZ(s:bj)(n:Int):bj:=⟨max n (-1),s.down,s.gO,s.uz,s.cap⟩
def aoq{w F g s}(h:dO w F g s)(y):dO ((w.setCell (oi g 2) (.string y)).setCell (oi g 3) it) F g (s.only y)/\aA w ((w.setCell (oi g 2) y).setCell (oi g 3) it) F:=by obtain⟨y,v,s,_⟩:=h;exact⟨⟨y,_,heap_setCell_same (heap_setCell_same s _) _,lg⟩,((aA.Y w F).setCell (λ _=>y) _).setCell (λ _=>y) _⟩
def aor(g N s)(F)(w)(h:dO w F g s)(c:jG N s)(P:N<=100000):eE am 174 #[g] w λ e f=>e=s.sync.1/\dO f (λ k=>(F k/\k<w)\/w<=k) g s.sync.2/\aA w f F:=by
 have Q:=c.c0;have R:=c.c1;have S:=c.all;have T:=c.uz;have f:=Nh g s F w h;unfold bj.sync;by_cases d:s.down=true;·rw[QJ d];rw[d]at f;have i:=Lib.H f;have j:=Lib.H h.tight;go_enter func174,ntmps174;go_wp2_with fail;exact i.U.M (um j)
 ·rw[QI d];(have d:s.down=false:=(az d));rw[d]at f;have i:=Lib.H f;have j:=Qb g s F w h c.l0 c.l1;by_cases p:s.left=0;(·rw[QJ p];(have q:(s.left !=0)=false:=by grind);rw[q]at j;have l:=Lib.H j;go_enter func174,ntmps174;go_wp2_with fail;refine i.U.M ?_;rintro e z ⟨rfl,rfl⟩;go_wp2_with fail;refine l.U.M ?_;rintro e r ⟨rfl,m,t⟩;have A:HO (dO r (λ k=>(F k/\k<w)\/w<=k) g _):=m.M oV;have B:=Lib.H t;exact mZ);·rw[QI p];(have q:(s.left !=0)=true:=by rw[bne_iff_ne];exact p);rw[q]at j;have l:=Lib.H j;obtain⟨U,C,V,x⟩:=KN s;obtain⟨b,I⟩:∃b,s.j0=b:=ax;rw[I]at l C x⊢;(have J:⟨b.all.toArray⟩=s.bytes:=(CL x));(have K:b.all.length<=140737488355328:=(pG x));(have L:b.uz.length<=1000000:=(pG C));have M:=Lib.H J;generalize s.bytes=y at*;go_enter func174,ntmps174;go_wp2_with fail;refine i.U.M ?_;rintro e z ⟨rfl,rfl⟩;go_wp2_with fail;refine l.U.M ?_;rintro e r ⟨rfl,m,t⟩;have D:=Ia g b F r m K L;rw[M.U]at D;have O:=Lib.H D;have A:=Lib.H m;have B:=Lib.H t;go_wp2_with fail;refine O.U.M ?_;rintro e n ⟨rfl,E⟩;have G:=A.U.B E .Y;have H:=aoq G y;obtain⟨W,v,o,_⟩:=id G;have X:=kZ o 2;have Y:=kZ o 3;obtain⟨Z,Ph⟩:∃u,n.cell? ⟨g,2,none⟩=some u:=⟨_,aO o rfl⟩;obtain⟨u3,R2⟩:∃u,n.cell? ⟨g,3,none⟩=some u:=⟨_,aO o rfl⟩;have u:HO (dO _ (λ k=>(F k/\k<w)\/w<=k) g _):=H.1.M oV;have k:HO _:=(B.U.J (aA.bR E (λ _=>False) oo) (nZ)).J H.2 (pm);exact mZ
def aEE(g N s)(F)(w)(n:Int)(h:dO w F g s)(f:jG N s)(hN:N<=100000):eE am 173 #[g,n] w λ e p=>e=(s.KO n).1/\dO p (λ k=>(F k/\k<w)\/w<=k) g (s.KO n).2/\aA w p F:=by
 have o0:=f.c0;have o1:=f.c1;have o2:=f.all;have o3:=f.uz;have p:=Nh g s F w h;unfold bj.KO;by_cases j:s.down=true;·rw[QJ j];rw[j]at p;have l:=Lib.H p;have m:=Lib.H h.tight;go_enter func173,ntmps173;go_wp2_with fail;exact l.U.M (um m)
 ·rw[QI j];(have j:s.down=false:=(az j));rw[j]at p;have l:=Lib.H p;by_cases E:n<0;(·rw[QJ (.N E)];have m:=Lib.H h.tight;(have T:decide (n<0)=true:=ik);go_enter func173,ntmps173;go_wp2_with fail;exact l.U.M (um m));·have r:=(zt (aom g s F w h oo oo));(have T:decide _=false:=ik);by_cases G:s.all.length<n;(·rw[QJ (.I G)];have m:=Lib.H h.tight;(have U:decide (s.all.length<n)=true:=ik);generalize s.all.length=q at*;go_enter func173,ntmps173;go_wp2_with fail;refine l.U.M ?_;rintro e c ⟨rfl,rfl⟩;go_wp2_with fail;refine r.U.M ?_;rintro e c ⟨rfl,d⟩;have o:=Lib.H d;go_wp2_with fail;go_ret;exact⟨rfl,m.U.B o.U .Y,aA.bR o.U _ (λ i a b=>QU a oo)⟩);·rw[QI (λ x=>x.F E G)];(have U:decide (s.all.length<n)=false:=ik);obtain⟨m,rfl⟩:=Int.eq_ofNat_of_zero_le (show 0<=n by omega);rw[ux];(have aI:decide (s.all.length<m)=false:=ik);have H:=f.l0;have I:=f.l1;have J:=Lib.H h;by_cases K:s.left=0;(·rw[QJ K];(have x:HO ((s.left !=0)=false):=by grind);go_enter func173,ntmps173;go_wp2_with fail;refine l.U.M ?_;rintro e c ⟨rfl,rfl⟩;go_wp2_with fail;refine r.U.M ?_;rintro e c ⟨rfl,d⟩;have q:=Qb g s _ c (J.U.tight.B d .Y) H I;rw[x.U]at q;have o:=Lib.H d;have t:=Lib.H q;go_wp2_with fail;refine t.U.M ?_;rintro e L ⟨rfl,b,z⟩;have A:=Lib.H b;have B:=Lib.H z;go_wp2_with fail;go_ret;refine⟨rfl,A.U,(aA.bR o.U F oo).J B.U (λ k C a=>?_)⟩;grind);·rw[QI K];(have x:HO ((s.left !=0)=true):=by grind);obtain⟨b1,M,b3,C⟩:=KN s;obtain⟨k,O⟩:∃k,s.j0=k:=ax;rw[O]at M C⊢;(have V:⟨k.all.toArray⟩=s.bytes:=(CL C));have P9:s.bytes.size=s.all.length:=aol s;(have W:k.all.length<=140737488355328:=(pG C));(have X:k.uz.length<=1000000:=(pG M));have Y:=Lib.H V;have Z:=Lib.H O;have yu:m<=s.bytes.size:=oo;generalize s.bytes=y at*;go_enter func173,ntmps173;go_wp2_with fail;refine l.U.M ?_;rintro e c ⟨rfl,rfl⟩;go_wp2_with fail;refine r.U.M ?_;rintro e c ⟨rfl,d⟩;have q:=Qb g s _ c (J.U.tight.B d .Y) H I;rw[x.U,Z.U]at q;have o:=Lib.H d;have t:=Lib.H q;go_wp2_with fail;refine t.U.M ?_;rintro e L ⟨rfl,b,z⟩;have P:=Ia g k _ L b W X;rw[Y.U]at P;have HA:=Lib.H P;have A:=Lib.H b;have B:=Lib.H z;go_wp2_with fail;refine HA.U.M ?_;rintro e D ⟨rfl,Q⟩;have R:=A.U.B Q .Y;have S:=aoq R (y.extract 0 m);obtain⟨hF,v,i,_⟩:=id R;have f2:=kZ i 2;have f3:=kZ i 3;obtain⟨u2,Ph⟩:∃u,D.cell? ⟨g,2,none⟩=some u:=⟨_,aO i rfl⟩;obtain⟨u3,R2⟩:∃u,D.cell? ⟨g,3,none⟩=some u:=⟨_,aO i rfl⟩;have u:=(zt S.1);have HC:HO _:=(((aA.bR o.U F oo).J B.U oV).J (aA.bR Q (λ _=>False) oo) (nZ)).J S.2 oV;exact mZ
def aos(g s F w n)(h:dO w F g s):eE am 78 #[g,bs n] w λ e v=>e=()/\dO v F g (s.vZ n)/\aA w v F:=by obtain⟨a,v,e,k⟩:=h;have h:w.cell? ⟨g,0,none⟩=some (.int _ _):=aO e rfl;have h:=kZ e 0;unfold bj.vZ;obtain⟨q,h⟩:∃q:Int,max n (-1)=q:=ax;rw[h];have h:HO (dO (w.setCell ⟨g,0,none⟩ q) F g ⟨q,s.down,s.gO,s.uz,s.cap⟩/\aA w (w.setCell ⟨g,0,none⟩ q) F):=⟨⟨a,v,heap_setCell_same e _,k.V nl⟩,(BH w F a)⟩;go_enter func78,ntmps78;exact Fq
def nh(n:Int):Int:=min (max n 0) 16777216
def qx(n:Int):bj:=⟨-1,false,oR,[],nh n⟩
def aEG(n w):eE am 41 #[bs n] w λ e m=>ea e (.pointer (some ⟨w,0,none⟩))/\dO m w w (qx n)/\bi w w m:=by unfold qx nh;obtain⟨m,e⟩:∃m:Int,min (max n 0) 16777216=m:=ax;rw[e];have e:HO (dO _ w _ ⟨-1,false,oR,[],m⟩/\bi _ w (w.alloc (.cells (TV ⟨-1,false,oR,[],m⟩ (.slice none 0 0)) 174))):=⟨⟨.Y,_,rC w _,lg⟩,lz⟩;go_enter func41,ntmps41;exact mZ
end D
namespace D
def Qc(w:cJ)(c:Option Addr)(l:List Bool):Prop:=∀i b,l[i]?=some b->∃l a,c=some ⟨l,a,none⟩/\w.cell? ⟨l,a+i,none⟩=some (.bool b)
def spoilt(a:List Bool)(i:Nat)(x:ByteArray):List UInt8:=if a.getD i false then x.data.toList else eM x.size 0
def yZ(l:List ByteArray)(a:List Bool)(k:Nat):List UInt8:=((sD k).map (λ i=>spoilt a i (l.getD i oR))).flatten
def aot(l a k){x}(b:l[k]?=some x):yZ l a (k+1)=yZ l a k++spoilt a k x:=by unfold yZ;rw[List.range_succ,EF,List.flatten_append];simp[b]
def aou(a i x):(spoilt a i x)=x.size:=by unfold spoilt;split;exact oK;grind
def aow(l a k)(c:k<=l.length):(yZ l a k)=((l.take k).map (·.size)).sum:=by induction k with|zero=>rfl|succ k d=>obtain⟨x,b⟩:∃x,l[k]?=some x:=(eB c);rw[aot l a k b,da,d oo,aou,uk,b];simp
def aox(s:bj):s.tail=(s.uz.map (·.size)).sum:=by unfold bj.tail;rw[List.length_flatten,List.map_map];congr 1
def aEH(l:List ByteArray)(k):((l.take k).map (·.size)).sum<=(l.map (·.size)).sum:=by
 conv=>rhs;rw[<-Qm k l]
 grind
def A8(s:bj)(b:List Bool)(a:Int):List UInt8:=let t:=yZ s.uz b s.uz;if 0<=a/\a<(t.length:Int)then t.take a.toNat else t
def bj.kJ(s:bj)(a:List Bool)(b:Int):bj:=⟨-1,false,⟨(s.gO.data.toList++A8 s a b).toArray⟩,[],s.cap⟩
def aEI(n):Lib.repeatL [0] n=eM n (0):=by induction n with|zero=>rfl|succ n a=>show[0]++Lib.repeatL [0] n=_;rw[a];rfl
def XG(a b:List UInt8)(h:a+b.length<=9223372036854775807)(c):zw am (Op.stringOp .add ⟨a⟩ ⟨b⟩) c= .ok (.string ⟨(a++b).toArray⟩) c:=by have h:(⟨a.toArray⟩:ByteArray).size=a.length:=NP;have h:(⟨b.toArray⟩:ByteArray).size=b.length:=NP;have:=run_string_add_sum (P:=am) c ⟨a.toArray⟩ ⟨b.toArray⟩ oo;assumption
def aoy{w F g s}(h:dO w F g s)(y):dO ((((w.setCell (oi g 2) (.string y)).setCell (oi g 3) it).setCell (oi g 0) (bs (-1))).setCell (oi g 1) (.bool false)) F g ⟨-1,false,y,[],s.cap⟩/\aA w ((((w.setCell (oi g 2) y).setCell (oi g 3) it).setCell (oi g 0) (bs (-1))).setCell (oi g 1) (.bool false)) F:=by obtain⟨y,v,s,_⟩:=h;exact⟨⟨y,_,heap_setCell_same (heap_setCell_same (heap_setCell_same (heap_setCell_same s _) _) _) _,lg⟩,((((aA.Y w F).setCell (λ _=>y) _).setCell (λ _=>y) _).setCell (λ _=>y) _).setCell (λ _=>y) _⟩
def aoz(t:List UInt8)(m)(a:m<=t.length):(⟨t⟩:ByteArray).extract 0 m=⟨(t.take m)⟩:=by apply ByteArray.ext;rw[ByteArray.data_extract];simp
def adY(x):(⟨x.data.toList⟩:ByteArray)=x:=by exact oK
def aEJ(g N)(s)(F)(w)(keep)(ko)(DS)(cut:Int)(h:dO w F g s)(ok:jG N s)(hN:N≤100000)(hk:Qc w ko keep)(Il:keep.length≤100000):
  eE am 79 #[g,.agg #[.slice ko keep DS,cut]] w fun e w'=>e=()∧dO w' (fun k=>(F k∧k<w)∨w≤k) g (s.kJ keep cut)∧aA w w' F:=by
 have o0:=ok.c0;have o1:=ok.c1;have o2:=ok.all;have o3:=ok.uz
 have OS:s.tail.length≤16777216:=by
  have:s.all.length=s.gO.data.toList.length+s.tail.length:=da
  omega
 have hls:s.gO.size≤16777216:=by
  have:s.all.length=s.gO.data.toList.length+s.tail.length:=da
  have e:s.gO.data.toList.length=s.gO.size:=yJ
  omega
 obtain⟨ao,cap,h4,h5,h2,h3⟩:=h.cells
 obtain⟨wb,gh⟩:∃wb,w.alloc (.cells #[.slice ko keep.length DS,.int .i64 cut] 31)=wb:=⟨_,rfl⟩
 have qW:wb.heap[w.heap.size]? =some (.cells #[.slice ko keep.length DS,.int .i64 cut] 31):=by rw [←gh];exact rC w _
 have hb0:bi w.heap.size w wb:=by rw [←gh];exact(bi.refl _ _).alloc (kg _) _
 have g3:wb.cell? ⟨g,3,none⟩=some (.slice ao s.uz.length cap):=aO (nU hb0 h2 (aQ h2)) rfl
 have Bn:=aQ h2
 have HBX:=Lib.H qW
 have Jq:=Lib.H hb0
 have HH:=Lib.H h
 have H2:=Lib.H h2
 have H3:=Lib.H h3
 have HK:=Lib.H hk
 have HTL:=Lib.H OS
 have HP:HO (∀k,k≤s.uz.length→(yZ s.uz keep k).length≤16777216):=fun k hk=>by
  rw [aow _ _ _ hk]
  have:=aEH s.uz k
  have e:=aox s
  omega
 have sI:w.heap.size<wb.heap.size:=aQ qW
 clear h h2 h3 hk OS ok qW hb0 o2
 go_enter func79,ntmps79
 go_wp2_with fail
 try rw [gh]
 clear gh g3
 go_loopw [4,14] (fun t i wr=>∃k:Nat,k≤s.uz.length∧i= .int .i64 k∧t= .string ⟨(yZ s.uz keep k).toArray⟩∧HO (bi wb.heap.size wb wr)) (fun _ i _=>s.uz.length-(intOf i).toNat)
 case atStart=>exact⟨0,by omega,rfl,rfl,bi.refl _ _⟩
 case round=>
  obtain⟨k,hk,rfl,rfl,HB⟩:=hrel
  have Nl:HO (bi w.heap.size w wr):=Jq.U.J (HB.U.M Jq.U.size)
  have hx0:=nU HB.U HBX.U sI
  have b0:wr.cell? ⟨w.heap.size,0,none⟩=some (.slice ko keep.length DS):=aO hx0 rfl
  have b1:wr.cell? ⟨w.heap.size,1,none⟩=some (.int .i64 cut):=aO hx0 rfl
  by_cases hlt:k<s.uz.length
  ·obtain⟨x,hx⟩:∃x,s.uz[k]? =some x:=⟨_,List.getElem?_eq_getElem hlt⟩
   obtain⟨pb,po,rfl,hpc⟩:=agf (Jf H3.U Nl.U (kg _)) hx
   have KP:=aot s.uz keep k hx
   have jU:=HP.U (k+1) hlt
   rw [KP,da,aou] at jU
   have pY:x.size≤16777216:=by omega
   by_cases jQ:keep.getD k false=true
   ·have IT:k<keep.length:=by
     apply Classical.byContradiction
     intro hn
     rw [List.getD_eq_getElem?_getD,List.getElem?_eq_none (by omega)] at jQ
     cases jQ
    have qX:keep[k]? =some true:=by
     rw [List.getD_eq_getElem?_getD,List.getElem?_eq_getElem IT] at jQ
     rw [List.getElem?_eq_getElem IT];exact Ru some jQ
    obtain⟨kb,adZ,rfl,KQ⟩:=HK.U k true qX
    have kc:wr.cell? ⟨kb,adZ+k,none⟩=some (.bool true):=(Nl.U.Z (by exact uK KQ)).J KQ
    have hsp:spoilt keep k x=x.data.toList:=QJ jQ
    rw [hsp] at KP
    have I0:=XG (yZ s.uz keep k) x.data.toList (by have e:x.data.toList.length=x.size:=yJ;omega)
    rw [←KP] at I0
    have exx:(⟨x.data.toList.toArray⟩:ByteArray)=x:=by apply ByteArray.ext;simp
    rw [exx] at I0
    generalize (⟨(yZ s.uz keep k).toArray⟩:ByteArray)=t0 at*
    have HT1:HO ((⟨(yZ s.uz keep (k+1)).toArray⟩:ByteArray)=⟨(yZ s.uz keep (k+1)).toArray⟩):=rfl
    clear qX jQ KQ hsp KP exx hx hx0 jU HT1
    go_wp2_with fail
    go_roundw
    case rel=>exact⟨k+1,by omega,by go_num,rfl,HB.U⟩
    case measure=>simp [intOf];omega
   ·have ad0:=fun w0:cJ=>Tryz.strings_Repeat ⟨#[0]⟩ x.size w0 (by omega) (by show 1*x.size≤_;omega)
    have aoB:(⟨(Lib.repeatL (⟨#[0]⟩:ByteArray).data.toList x.size).toArray⟩:ByteArray)=⟨(eM x.size (0:UInt8)).toArray⟩:=by
     show(⟨(Lib.repeatL [0] x.size).toArray⟩:ByteArray)=_
     rw [aEI]
    rw [aoB] at ad0
    have XI:=Lib.H ad0
    have hsp:spoilt keep k x=eM x.size 0:=QI jQ
    rw [hsp] at KP
    have I0:=XG (yZ s.uz keep k) (eM x.size 0) (by rw [List.length_replicate];omega)
    rw [←KP] at I0
    generalize (⟨(yZ s.uz keep k).toArray⟩:ByteArray)=t0 at*
    generalize (⟨(eM x.size (0:UInt8)).toArray⟩:ByteArray)=r0 at*
    clear ad0 aoB hsp KP hx hx0 jU
    by_cases IT:k<keep.length
    ·have qX:keep[k]? =some false:=by
      rw [List.getD_eq_getElem?_getD,List.getElem?_eq_getElem IT] at jQ
      rw [List.getElem?_eq_getElem IT]
      have:keep[k]≠true:=jQ
      exact Ru some (by simpa using this)
     obtain⟨kb,adZ,rfl,KQ⟩:=HK.U k false qX
     have kc:wr.cell? ⟨kb,adZ+k,none⟩=some (.bool false):=(Nl.U.Z (by exact uK KQ)).J KQ
     clear qX jQ KQ
     go_wp2_with fail
     refine(XI.U _).M ?_
     rintro e w3 ⟨rfl,hb3⟩
     have jv:HO (bi wb.heap.size wb w3):=HB.U.J (hb3.M HB.U.size)
     clear hb3 XI
     go_wp2_with fail
     go_roundw
     case rel=>exact⟨k+1,by omega,by go_num,rfl,jv.U⟩
     case measure=>simp [intOf];omega
    ·have aP3:keep.length≤k:=by omega
     clear jQ IT
     go_wp2_with fail
     refine(XI.U _).M ?_
     rintro e w3 ⟨rfl,hb3⟩
     have jv:HO (bi wb.heap.size wb w3):=HB.U.J (hb3.M HB.U.size)
     clear hb3 XI
     go_wp2_with fail
     go_roundw
     case rel=>exact⟨k+1,by omega,by go_num,rfl,jv.U⟩
     case measure=>simp [intOf];omega
  ·obtain rfl:k=s.uz.length:=by omega
   have hz:=Nl.U.size
   have Qd:=HH.U.B Nl.U (kg _)
   have Mu:=HP.U s.uz.length (kg _)
   obtain⟨T,hT⟩:∃T,yZ s.uz keep s.uz.length=T:=⟨_,rfl⟩
   rw [hT] at Mu ⊢
   obtain⟨hF,v,hg,_⟩:=id Qd
   have f0:=kZ hg 0
   have f1:=kZ hg 1
   have f2:=kZ hg 2
   have f3:=kZ hg 3
   have g2:wr.cell? ⟨g,2,none⟩=some (.string s.gO):=aO hg rfl
   obtain⟨u0,g0⟩:∃u,wr.cell? ⟨g,0,none⟩=some u:=⟨_,aO hg rfl⟩
   obtain⟨u1,g1⟩:∃u,wr.cell? ⟨g,1,none⟩=some u:=⟨_,aO hg rfl⟩
   obtain⟨u3,g3⟩:∃u,wr.cell? ⟨g,3,none⟩=some u:=⟨_,aO hg rfl⟩
   have hgr:=aQ hg
   have hsz:(⟨T.toArray⟩:ByteArray).size=T.length:=NP
   have rO:s.gO.data.toList.length=s.gO.size:=yJ
   by_cases hcut:0≤cut∧cut<(T.length:Int)
   ·obtain⟨m,rfl⟩:=Int.eq_ofNat_of_zero_le hcut.1
    have hm:m<T.length:=by omega
    have tO:A8 s keep (m:Int)=T.take m:=by
     unfold A8
     simp only
     rw [hT,QJ hcut,ux]
    have I0:=XG s.gO.data.toList (T.take m) (by rw [rO];have:=List.length_take_le m T;omega)
    rw [adY,←aoz T m (by omega)] at I0
    have HST:HO _:=aoy Qd ⟨(s.gO.data.toList++T.take m).toArray⟩
    have TW:HO (s.kJ keep (m:Int)=⟨-1,false,⟨(s.gO.data.toList++T.take m).toArray⟩,[],s.cap⟩):=by show s.kJ keep (m:Int)=_;unfold bj.kJ;rw [tO]
    generalize (⟨(s.gO.data.toList++T.take m).toArray⟩:ByteArray)=y at*
    generalize XJ:(⟨T.toArray⟩:ByteArray)=TB at*
    have AG:m<TB.size:=by omega
    have LC:(m:Int)<(TB.size:Int):=by omega
    have DL:=Lib.H hsz
    have d0:decide ((0:Int)≤(m:Int))=true:=by simp
    clear Qd hF hg hT tO hcut XJ hsz rO hx0
    go_wp2_with fail
    go_end0
    rw [TW.U]
    exact⟨rfl,HST.U.1.M (fun k _ a=>by
     by_cases hk:k<w.heap.size
     ·exact .N ⟨a,hk⟩
     ·exact .I (by omega)),(aA.bR Nl.U F (fun i a b=>QU a (by omega))).J HST.U.2 (fun _ _ a=>a)⟩
   ·have tO:A8 s keep cut=T:=by
     unfold A8
     simp only
     rw [hT,QI hcut]
    have I0:=XG s.gO.data.toList T (by rw [rO];omega)
    rw [adY] at I0
    have HST:HO _:=aoy Qd ⟨(s.gO.data.toList++T).toArray⟩
    have TW:HO (s.kJ keep cut=⟨-1,false,⟨(s.gO.data.toList++T).toArray⟩,[],s.cap⟩):=by show s.kJ keep cut=_;unfold bj.kJ;rw [tO]
    generalize (⟨(s.gO.data.toList++T).toArray⟩:ByteArray)=y at*
    generalize XJ:(⟨T.toArray⟩:ByteArray)=TB at*
    have htb:TB.size≤16777216:=by omega
    have yX:HO (∀w',((((wr.setCell ⟨g,2,none⟩ (.string y)).setCell ⟨g,3,none⟩ (.slice none 0 0)).setCell ⟨g,0,none⟩ (.int .i64 (-1))).setCell ⟨g,1,none⟩ (.bool false))=w'→dO w' (fun k=>(F k∧k<w.heap.size)∨w.heap.size≤k) g (s.kJ keep cut)∧aA w w' F):=by
     rintro _ rfl
     rw [TW.U]
     exact⟨HST.U.1.M (fun k _ a=>by
      by_cases hk:k<w.heap.size
      ·exact .N ⟨a,hk⟩
      ·exact .I (by omega)),(aA.bR Nl.U F (fun i a b=>QU a (by omega))).J HST.U.2 (fun _ _ a=>a)⟩
    by_cases hc0:0≤cut
    ·have hc1:(TB.size:Int)≤cut:=by omega
     have d0:decide ((0:Int)≤cut)=true:=by simp;omega
     have d1:decide (cut<(TB.size:Int))=false:=by simp;omega
     clear Qd hF hg hT tO hcut XJ hsz rO hx0 HST TW
     go_wp2_with fail
     go_end0
     exact⟨rfl,yX.U _ rfl⟩
    ·have d0:decide ((0:Int)≤cut)=false:=by simp;omega
     clear Qd hF hg hT tO hcut XJ hsz rO hx0 HST TW
     go_wp2_with fail
     go_end0
     exact⟨rfl,yX.U _ rfl⟩
end D
namespace D
def aoC{s:bj}(a:s.left= -1):s.j0=s:=by unfold bj.j0;grind
def aEN{s:bj}{x}(a:s.down=false)(b:s.cap<s.all.length+x.size):s.append x=(7,s):=by unfold bj.append;grind
def aEO{s:bj}(a:s.left= -1)(b:s.down=false):s.sync=(0,s.only s.bytes):=by unfold bj.sync;rw[QI (CE b),QI oo,aoC a]
def GQ(x:ByteArray):x.data.toList=x.size:=yJ
def aEP{N s x}(h:jG N s)(a:s.all.length+x.size<=s.cap):jG (N+1) (s.more x):=by refine⟨h.c0,h.c1,?_,?_,h.l0,h.l1⟩;rw[aoo,da,GQ];assumption;have:=h.uz;simp only[bj.more,da,Cr];omega
def jG.M{N M s}(h:jG N s)(a:N<=M):jG M s:={h with uz:=lI h.uz a}
def aEQ(n):f9 0 (nh n) 16777216:=by unfold nh;omega
def aoD(n):jG 0 (qx n):=by have:=aEQ n;exact⟨this.1,this.2,by simp[qx,bj.all,bj.tail];exact this.1,.refl,by simp[qx],by simp[qx]⟩
def aoE(s:bj):s.bytes.data.toList=s.all:=by simp[bj.bytes]
def aoF(s:bj):s.bytes.size=s.all:=NP
def aER{x:ByteArray}(h:x.data.toList≠[]):x.toList≠[]:=by rw[ByteArray.toList_eq];exact h
end D
section
open _root_.Go.ChangeShapes _root_.Go.WideShapes _root_.Go.ChangeAt _root_.Go.RowKit _root_.Go.Deep
def ar1:am.underlying 9=some .string:=kk
def YH:am.underlying 3=some (.int .i64):=kk
def Je(n:Int):Prop:= Mm n
section
variable {H:Type} {enc:zo×eQ→H} {W:cJ} {base:Nat} {spare:Nat→Bool} {held:Bool}
def Av{n c y}(h:Ls enc am W base spare held n 3 [c]=y)(a:y.isSome=true):∃n,c= bs n/\Je n:=by obtain⟨z,rfl⟩:=Option.isSome_iff_exists.1 a;obtain⟨n,y,_,a⟩:=DataW.trod_int YH h;simp at y;exact⟨n,y,bounds_i64 a⟩
def rdStr{s c y}(h:Ls enc am W base spare held s 9 [c]=some y):∃s,c= .string s/\y.1= .lit (.string s.data.toList):=by obtain⟨s,a,b,_⟩:=DataW.trod_string ar1 h;grind
end
section
variable {H:Type} {enc:zo×eQ→H} {W:cJ}
end
end
section
namespace D
open _root_.Go.ChangeShapes _root_.Go.WideShapes _root_.Go.ChangeAt _root_.Go.RowKit _root_.Go.Deep
def WB:am.underlying 29=some (.slice 4):=kk
section
variable {H:Type} {enc:zo×eQ→H} {W:cJ}
end
end D
end
namespace D
def aES{N s}(h:jG N s)(x):jG (N+1) (s.append x).2:=by unfold bj.append;split;exact h.M oo;split;exact h.M oo;rename_i x N;split;exact h.j0.M oo;split;exact h.j0.M oo;obtain⟨a,b,x,N⟩:=KN s;refine aEP h.j0 ?_;rw[x,N];omega
def aoG(s a b):(A8 s a b)<=s.tail.length:=by
 have e:(yZ s.uz a s.uz)=s.tail.length:=by rw[aow _ _ _ .refl,wy,aox]
 unfold A8;grind
def aET(s a b):(s.kJ a b).all=s.gO.data.toList++A8 s a b:=by simp[bj.kJ,bj.all,bj.tail]
def aEU(s:bj)(a b):(s.kJ a b).all<=s.all.length:=by have e:s.all=s.gO.data.toList+s.tail.length:=da;rw[aET,da,e];have:=aoG s a b;omega
def aEV{N s}(h:jG N s)(a b):jG 0 (s.kJ a b):=by refine⟨h.c0,h.c1,?_,.refl,by simp[bj.kJ],by simp[bj.kJ]⟩;have:=aEU s a b;have:=h.all;show((s.kJ a b).all.length)<=s.cap;omega
end D
section
open _root_.Go.RowKit yj
def adP(n)(h:n<4294967296):j5 (pW n)=n:=by simp only[j5,pW,EQ,List.foldl_nil,UInt8.toNat_ofNat'];omega
def E8(l):(iv l)=l.length+8:=by exact oK
def anS(l):(iv l).take 4=pW l:=by exact oK
def aEo(l a)(h:l.length<=1048576):iG (iv l++a)=(l,a,0):=by
 have h:(iv l++a).length=l+8+a:=by rw[da,E8]
 have h:(iv l++a).take 4=pW l:=by exact oK
 have b:((iv l++a).drop 4).take 4=pW (yl (pW l++l)):=by exact oK
 have c:(iv l++a).drop 8=l++a:=by exact oK
 have d:j5 ((iv l++a).take 4)=l:=by rw[h];exact adP _ oo
 unfold iG;rw[QI oo,d,QI oo,c,QI (by grind),h,b,List.take_left,adP _ (agm _),QI (by simp),List.drop_left]
def anU(s)(a:s.size<=140737488351232)(w):eE am 239 #[.string s] w λ e b=>e= .returned (.tuple #[.string ⟨(iG s.data.toList).1⟩,.string ⟨(iG s.data.toList).2.1⟩,bs ((iG s.data.toList).2.2)])/\bi w w b:=asI s a w
end
namespace D
def adR(l)(h:(iG l).2.2=0):(iG l).1+(iG l).2.1+8=l.length:=by
 unfold iG at h⊢;split at h;·cases h
 ·split at h;(·cases h);·split at h;(·cases h);·split at h;(·cases h);rename_i a b c d;rw[QI a,QI b,QI c,QI d];grind
def KM:Nat->List UInt8->List (List UInt8)×List UInt8|0,l=>([],l)|n+1,l=>if(iG l).2.2=0 then Kf (iG l) (KM n (iG l).2.1) else([],l)
def wY(l:List UInt8):List (List UInt8)×List UInt8:=KM (l+1) l
def M8(a:ByteArray):zs ((wY a.data.toList).2):=.m
def aEp(n m l)(h:l.length<n)(k:l.length<m):KM n l=KM m l:=by induction n generalizing m l with|zero=>omega|succ n h=>obtain⟨m,rfl⟩:∃k,m=k+1:=⟨m-1,oo⟩;unfold KM;by_cases h:(iG l).2.2=0;have k:=adR l h;grind;rw[QI h,QI h]
def anV(l)(h:(iG l).2.2=0):wY l=Kf (iG l) (wY (iG l).2.1):=by
 have a:=adR l h;unfold wY;conv=>lhs;unfold KM
 rw[QJ h,aEp l ((iG l).2.1+1) _ oo oo]
def anW(l)(h:Lg l):wY l=([],l):=by unfold wY KM;rw[QI h]
def aEq:iG []=([],[],3):=rfl
def E9:List (List UInt8)->List UInt8|[]=>[]|x::l=>iv x++E9 l
def aEr(x a)(h:x.length<=1048576):wY (iv x++a)=(x::(wY a).1,(wY a).2):=by have e:=aEo x a h;rw[anV _ (by rw[e]),e]
def aEs(a b)(h:∀x∈a,x.length<=1048576):wY (E9 a++b)=(a++(wY b).1,(wY b).2):=by induction a with|nil=>rfl|cons x a c=>rw[E9,pB,aEr x _ (h x (List.mem_cons_self ..)),c (λ y d=>h y (List.mem_cons_of_mem _ d))];rfl
end D
namespace D
def txt(l:List UInt8):ByteArray:=⟨l⟩
def Jl(a:ByteArray):zs (txt (iv a.data.toList)):=.m
def IY(l):JN (txt l)=l:=by simp[txt]
def anX(l):(txt l).size=l:=NP
def adS(s):txt s.data.toList=s:=by exact oK
def iF(s:ByteArray):List ByteArray:=(wY s.data.toList).1.map txt
def yW(s:ByteArray):Nat:=s.size-(wY s.data.toList).2
def IZ(s:ByteArray)(w b:cJ)(v:eQ)(a:List ByteArray)(k:ByteArray):Prop:=iF s=a++iF k/\M8 s=(wY k.data.toList).2/\a+k.size<=s.size/\Sl b w 9 1 v a (strCells a)/\bi w w b
def anY(s:ByteArray)(w:cJ)(e:Ending)(w':cJ):Prop:=∃v,e= .returned (.tuple #[v,bs (yW s)])/\Sl w' w 9 1 v (iF s) (strCells (iF s))/\bi w w w'
def aEt:eQ->Nat| .string b=>b.size|_=>0
def IZ.ends{s w e v k a}(h:IZ s w e v k a)(d:(iG a.data.toList).2.2≠0)(b)(c:bi e e b):s.size-a.size=yW s/\Sl b w 9 1 v (iF s) (strCells (iF s))/\bi w w b:=by
 obtain⟨b,k,e,f,s⟩:=h;have e:=anW _ d;have d:iF a=[]:=by unfold iF;rw[e];rfl
 rw[d,uV]at b;refine⟨?_,?_,s.J (c.M s.size)⟩;unfold yW;rw[k,e];rfl;rw[b];exact Jf f c .refl
def IZ.next{s w k b v e a t i}(h:IZ s w k v e a)(d:bi k k b)(l:t=⟨(iG a.data.toList).1⟩)(g:i=⟨(iG a.data.toList).2.1⟩)(j:0=(iG a.data.toList).2.2):Sl b w 9 1 v e (strCells e)/\e+1+i.size<=s.size/\i.size<a.size/\∀c f,Sl c (λ k=>(w<=k/\k<(b.alloc (LE t)).heap.size)\/k=(b.alloc (.cells #[t] 9)).heap.size) 9 1 f (e+1) (strCells (e++[t]))->aA (b.alloc (.cells #[t] 9)) c (λ k=>v.ownBlock=k)->IZ s w c f (e++[t]) i/\i.size<a.size:=by
 obtain⟨b,m,e,n,s⟩:=h;have e:=adR _ j.S;have e:=anV _ j.S;have h:i.size=(iG a.data.toList).2.1:=by rw[g];exact oK
 have h:a.data.toList=a.size:=yJ;have j:i.data.toList=(iG a.data.toList).2.1:=by rw[g]
 have g:=Jf n d .refl;have h:=s.size;have n:=d.size;refine⟨g,oo,oo,λ c f n o=>⟨⟨?_,?_,by grind,?_,?_⟩,oo⟩⟩;rw[b];have:iF a=t::iF i:=by unfold iF;rw[e,j,tj,l];rfl
 grind;rw[m,e,j];rw[da,Cr];refine n.M λ k _ a=>?_;rcases a with⟨a,_⟩|a;exact a;rw[a,World.size_alloc];omega;refine((s.J (d.M h)).alloc oo _).J (o.B (by rw[World.size_alloc];omega) λ i d a=>?_);have:=(zm g a).1;omega
def anZ{w}{F}{v}{l}(x){r}(h:Sl w F 9 1 v l.length (strCells l))(b:w.heap[r]?=some (.cells #[.string x] 9))(g:l.length<=16777216):Ni v r w F l x:=by obtain⟨k,c,d,e,f⟩:=sB Tryz.QK;have:=Fu 172 172 9 k oR 1 16 age c d e f rfl h (jn.laid (c:=1) b rfl (by intro u a;simp at a;subst a;rfl)) (et) oo;rw[UK];exact this
def aEu(s)(hs:s.size<=16777216)(w):eE am 172 #[.string s] w (anY s w):=by
 go_enter func172,ntmps172;go_wp2_with fail;refine wp_scope_jumps 0 (λ F d=>∃(v:eQ)(G:List _)(a:ByteArray)(U V W X Y Z aI aJ aK aL aM aP aS aU aV aW bt Y8 bB bD bG bH bI bK:eQ),F={tmps:=#[s,U,.slice none 0 0,.int .i64 0,v,a,V,W,X,Y,Z,aI,aJ,aK,aL,aM,aP,aS,aU,aV,aW,bt,Y8,bB,bD,bG,bH,bI,bK],defers:=[]}/\HO (IZ s w d v G a)) (λ F _=>aEt (F.tmps.getD 5 undef)) rfl ?_ ?_;·have d:HO (IZ s w w _ ([]) s):=⟨rfl,rfl,by simp,lg,bi.refl ..⟩;go_wp2_with fail;go_step3;have i:=anU s (by have:=d.U.2.2.1;omega) w;obtain⟨t,j⟩:∃t:ByteArray,t=⟨(iG s.data.toList).1⟩:=ax;obtain⟨r,l⟩:∃t:ByteArray,t=⟨(iG s.data.toList).2.1⟩:=ax;obtain⟨u,m⟩:∃c,c=(iG s.data.toList).2.2:=ax;rw[<-j,<-l,<-m]at i;have x:=Lib.H i;have J:=Lib.H j;have K:=Lib.H l;have y:=Lib.H m;clear i j l m;by_cases p:u=0;(·subst p;go_wp2_with fail;refine x.U.M ?_;rintro e f ⟨rfl,b⟩;obtain⟨z,L,M,A⟩:=d.U.next b J.U K.U y.U;obtain⟨n,g⟩:∃n,f.alloc (.cells #[t] 9)=n:=ax;obtain⟨v',N,B,h,o⟩:=anZ t (w:=n) (r:=f) (by rw[<-g];exact z.V λ k _ O=>Jm _ _ _ O) (by rw[<-g];exact rC ..) (by omega);obtain⟨P,Q,rfl,_,_⟩:=h.E;(have H:HO (IZ s w N (.slice P ((([]:List ByteArray))+1) Q) (([])++[t]) r/\r.size<s.size):=by rw[<-g]at h o;exact A _ _ h o);have R:=Lib.H B;clear b z L M A B h o;go_wp2_with(at_builtin;(try rw[g]);refine (yq R ?_));go_step3;exact⟨rfl,_,_,_,_,_,_,_,_,_,_,_,_,_,_,_,_,_,_,_,_,_,_,_,_,_,_,_,rfl,H.U.1⟩);·(have bL:((u:Int)==0)=false:=by rw[beq_eq_false_iff_ne];omega);have I:=y.U;have C:=d.U.ends (by rw[<-I];exact p);have S:=Lib.H C;have pQ:=d.U.2.2.1;clear p I C;have e1:IR.wrap _=s.size-s.size:=Er;obtain⟨q,D⟩:∃q:Nat,s.size-s.size=q:=ax;(have FH:s.size-s.size=(q:Int):=by omega);have T:=Lib.H D;clear D;go_wp2_with fail;refine x.U.M ?_;rintro e f ⟨rfl,b⟩;have E:=Lib.H (S.U f b);clear b;go_wp2_with fail;(try rw[Exit.noGoto_ret]);(try simp only[Exit.jump]);go_ret2;exact⟨.slice _ 0 0,by rw[<-(T.U.S.J E.U.1)];rfl,E.U.2⟩
 ·rintro F wq ⟨v,G,a,U,V,W,X,Y,Z,aI,aJ,aK,aL,aM,aP,aS,aU,aV,aW,bt,Y8,bB,bD,bG,bH,bI,bK,rfl,d⟩;have i:=anU a (by have:=d.U.2.2.1;omega) wq;obtain⟨t,j⟩:∃t:ByteArray,t=⟨(iG a.data.toList).1⟩:=ax;obtain⟨r,l⟩:∃t:ByteArray,t=⟨(iG a.data.toList).2.1⟩:=ax;obtain⟨u,m⟩:∃c,c=(iG a.data.toList).2.2:=ax;rw[<-j,<-l,<-m]at i;have x:=Lib.H i;have J:=Lib.H j;have K:=Lib.H l;have y:=Lib.H m;clear i j l m;by_cases p:u=0;(·subst p;go_wp2_with fail;refine x.U.M ?_;rintro e f ⟨rfl,b⟩;obtain⟨z,L,M,A⟩:=d.U.next b J.U K.U y.U;obtain⟨n,g⟩:∃n,f.alloc (.cells #[t] 9)=n:=ax;obtain⟨v',N,B,h,o⟩:=anZ t (w:=n) (r:=f) (by rw[<-g];exact z.V λ k _ O=>Jm _ _ _ O) (by rw[<-g];exact rC ..) oo;obtain⟨P,Q,rfl,_,_⟩:=h.E;(have H:HO (IZ s w N (.slice P (G+1) Q) (G++[t]) r/\r.size<a.size):=by rw[<-g]at h o;exact A _ _ h o);have R:=Lib.H B;clear b z L M A B h o;go_wp2_with(at_builtin;(try rw[g]);refine (yq R ?_));go_step3;exact⟨rfl,⟨_,_,_,_,_,_,_,_,_,_,_,_,_,_,_,_,_,_,_,_,_,_,_,_,_,_,_,rfl,H.U.1⟩,H.U.2⟩);·(have bL:((u:Int)==0)=false:=by grind);have I:=y.U;have C:=d.U.ends (by omega);have S:=Lib.H C;have pQ:=d.U.2.2.1;clear p I C;have e1:IR.wrap _=s.size-a.size:=Np _ oo;obtain⟨q,D⟩:∃q:Nat,s.size-a.size=q:=ax;have FH:s.size-a.size=(q:Int):=oo;have T:=Lib.H D;clear D;go_wp2_with fail;refine x.U.M ?_;rintro e f ⟨rfl,b⟩;have E:=Lib.H (S.U f b);clear b;go_wp2_with fail;(try rw[Exit.noGoto_ret]);(try simp only[Exit.jump]);go_ret2;exact⟨v,by rw[<-(T.U.S.J E.U.1)];rfl,E.U.2⟩
def TU(w:cJ)(b:Option Addr)(l:List ByteArray):Prop:=∀(i)(x),l[i]?=some x->∃l a,b=some ⟨l,a,none⟩/\w.cell? ⟨l,a+i,none⟩=some (.string x)
end D
open D in
def Sl.strs{w F a cap l}(h:Sl w F 9 1 (.slice a l.length cap) l.length (strCells l)):TU w a l:=λ _ _ l=>agf h l
namespace D
def iU(w:cJ)(F:Nat->Prop)(a k:Nat)(l:List ByteArray):Prop:=F a/\∃v,w.heap[a]?=some (.cells #[k,v] 284 (0,0))/\Sl w (zv F a) 9 1 v l (strCells l)
def iU.aG{w w' F S a v l}(h:iU w F a v l)(c:aA w w' S)(d:∀k,s3 k w (F k) ¬S k):iU w' F a v l:=by obtain⟨l,v,b,e⟩:=h;refine⟨l,v,c.heap b (d a (aQ b) l),(((e.M (G:=λ k=>(F k/\k≠a)/\k<w) λ k a b=>⟨b,a⟩).aG c (λ k c=>d k c.2 c.1.1)).M λ k _ a=>a.1)⟩
def iU.M{w F G a v l}(h:iU w F a v l)(b:oF w F G):iU w G a v l:=by obtain⟨F,v,l,c⟩:=h;exact⟨b a (aQ l) F,v,l,c.M oV⟩
def iU.B{w w' F x a l}(h:iU w F x a l)(b:bi w w w'):iU w' F x a l:=h.aG (aA.bR b _ oo) (λ _ _ _ x=>x)
def iU.cells{w F v k l}(h:iU w F v k l):∃b a,l.length<=a/\a<=pJ/\w.heap[v]?=some (.cells #[k,f7 b l a] 284 (0,0))/\Sl w (zv F v) 9 1 (f7 b l a) l (strCells l):=by obtain⟨_,v,F,l⟩:=h;obtain⟨b,a,rfl,h,v⟩:=l.E;exact oK
def aoH(a e l F w)(h:iU w F a e l):eE am 96 #[a] w λ e F=>ea e (.int .i64 (l:Nat))/\w=F:=by obtain⟨F,e,_,_,b,_⟩:=h.cells;have h:w.cell? ⟨a,1,none⟩=some (.slice F _ e):=aO b rfl;generalize l.length=n at*;go_enter func96,ntmps96;go_wp2_with fail;go_ret;exact oK
def aoI(n)(cap)(l)(w)(h:TU w n l)(B:l.length<=1000000):eE am 180 #[f7 n l cap] w λ e d=>∃f i,ea e (.slice f l i)/\TU d f l/\bi w w d:=by
 have q:∀(d:cJ)(k:eQ),d.ownsRow w 9 1 k l.length (l.map OW)->∃f i,k= .slice f l.length i/\TU d f l:=by intro d k m;(have x:Sl d (λ _=>True) 9 1 k l.length (strCells l):=by refine⟨by rw[strCells_length];omega,?_⟩;rcases m.2 with a|⟨g,c,o,p,_,b,j,r,t,u⟩;exact .N a;exact .I ⟨g,0,c,o,p,QD,b,j,r,oo,by assumption⟩);obtain⟨f,i,rfl,_,_⟩:=x.E;exact⟨f,i,rfl,x.strs⟩
 cases n with|none=>(have c:l=[]:=by cases l with|nil=>rfl|cons x l=>obtain⟨_,_,e,_⟩:=h 0 x rfl;cases e);subst c;refine(Tryz.slices_Clone_string_nil 0 cap w).M λ e d ⟨g,o⟩=>?_;subst o;exact⟨none,0,g,h,bi.refl ..⟩|some a=>by_cases c:l.length=0;have t:=wI c;subst t;refine(Tryz.slices_Clone_string_zero a cap w).M λ e d ⟨k,g,m,_,o⟩=>?_;obtain⟨f,i,rfl,p⟩:=q d k m;exact⟨f,i,g,p,o⟩;obtain⟨x,u⟩:∃x,l[0]?=some x:=⟨_,List.getElem?_eq_getElem oo⟩;obtain⟨b,v,e,_⟩:=h 0 x u;simp at e;subst e;refine(Tryz.slices_Clone_string b v l.length cap l w (kg _) oo (λ j z=>?_)).M λ e d ⟨k,g,m,_,o⟩=>?_;obtain⟨y,r⟩:∃y,l[j]?=some y:=⟨_,List.getElem?_eq_getElem z⟩;obtain⟨C,D,s,A⟩:=h j y r;simp only[BY,KH]at s;obtain⟨rfl,rfl,-⟩:=s;rw[List.getD_eq_getElem?_getD,r];exact A;rw[wy]at m;obtain⟨f,i,rfl,p⟩:=q d k m;exact⟨f,i,g,p,o⟩
end D
namespace D
def LD(w:cJ)(B:Nat)(X:Nat->Prop)(a b:Nat)(s:bj)(l:List ByteArray):Prop:=sA X w/\∃q:Nat->Nat,dO w (λ k=>B<=k/\¬X k/\q k=0) a s/\iU w (λ k=>B<=k/\¬X k/\q k=1) b a l
def dO.aEW{w w' F S g s}(h:dO w F g s)(c:aA w w' S)(d:∀k,s3 k w (F k) ¬S k):dO w' F g s:=(h.M (G:=λ k=>F k/\k<w) (hP)).aG c (λ k a=>d k a.2 a.1)|>.M (nw)
def LD.extend{w w' B a b X Y s l}(h:LD w B X a b s l)(c:bi w w w')(e:oF w Y X)(d:∀q,Y q->q<w'.heap.size):LD w' B Y a b s l:=by obtain⟨a,l,s,b⟩:=h;exact⟨d,l,(s.M oV).B c .Y,(b.M oV).B c⟩
def LD.B{w w' B q a X s l}(h:LD w B X q a s l)(b:bi w w w'):LD w' B X q a s l:=h.extend b (pm) (λ q a=>qk (h.1 q a) b.size)
def LD.dH{w B b d}{X}{s}{l}(h:LD w B X b d s l)(i:B<=w):∃F:Nat->Prop,dO w F b s/\Al X F/\(∀q,F q->B<=q)/\¬F d/\∀(c)(e),dO c (E2 F w) b e->aA w c F->LD c B X b d e l:=by obtain⟨f,F,g,k⟩:=h;refine⟨_,g,λ q x a=>a.2.1 x,λ q a=>a.1,λ a=>QU (a.2.2.S.J k.1.2.2) dd,λ c e j a=>⟨(aaG f a),λ q=>if w<=q then 0 else F q,?_,?_⟩⟩;grind;exact(k.M oP).aG a oV
def LD.log{w B b c}{X}{s}{l}(h:LD w B X b c s l)(g:B<=w):∃F:Nat->Prop,iU w F c b l/\Al X F/\(∀q,F q->B<=q)/\∀(d)(a),iU d (E2 F w) c b a->aA w d F->LD d B X b c s a:=by obtain⟨k,F,e,f⟩:=h;refine⟨_,f,λ q x a=>a.2.1 x,λ q a=>a.1,λ d i j a=>⟨(aaG k a),λ q=>if w<=q then 1 else F q,?_,?_⟩⟩;exact(e.M oP).aEW a oV;grind
def LD.rO{w B a b X s l}(h:LD w B X a b s l):∃v,w.heap[b]?=some (.cells #[a,v] 284 (0,0)):=by obtain⟨_,b,_,_,v,a,_⟩:=h;exact⟨v,a⟩
def jH(s:bj):Int×bj:=if s.down then(8,s)else if yW s.bytes<s.bytes.size then s.KO (yW s.bytes)else s.sync
def DT(B:Nat)(X F:Nat->Prop)(a:Nat)(s:bj)(w:cJ)(e:Ending)(w':cJ):Prop:=∃v,ea e (.tuple #[v,(jH s).1])/\aA w w' F/\dO w' (E2 F w) a (jH s).2/\((jH s).1=0->∃F,v= g6 F 0/\LD w' B X a F (jH s).2 (iF s.bytes))/\((jH s).1≠0->v= .pointer none)
def aoJ{B e X F w d c f v l}(o:∀k,F k->B<=k/\¬X k)(i:∀k,X k->k<w.heap.size)(p:B<=w.heap.size)(j:bi w.heap.size w d)(n:Sl d w 9 1 v l.length (strCells l))(m:dO c (λ k=>((F k/\k<w)/\k<d)\/d<=k) e f)(g:aA d c (λ k=>F k/\k<w)):LD (c.alloc (.cells #[e,v] 284)) B X e c f l/\aA w (c.alloc (.cells #[e,v] 284)) F/\dO (c.alloc (.cells #[e,v] 284)) (E2 F w) e f:=by have r:=j.size;have s:=g.size;have h:bi _ c (c.alloc (.cells #[e,v] 284)):=(bi.refl ..).alloc .Y _;refine⟨⟨λ q a=>by have:=i q a;rw[World.size_alloc];omega,λ k=>if k<w then 0 else if k<d\/k=c then 1 else 0,?_,?_⟩,((aA.bR j F oo).J g (λ _ _ a=>a.1)).alloc _,?_⟩;refine(m.M (G:=λ k=>B<=k/\¬X k/\(if k<w then 0 else if k<d\/k=c then 1 else 0)=0) λ k q a=>?_).B h .Y;grind;refine⟨oV,v,rC c _,Jf (((n.M (G:=λ k=>w<=k/\k<d) oo).aG g (λ k a b=>oo)).M λ k q a=>⟨⟨oo,λ x=>by have:=i k x;omega,?_⟩,oo⟩) h .Y⟩;show(if k<w then 0 else if k<d\/k=c then 1 else 0)=1;rw[QI oo,QJ (.N a.2)];exact(m.M oV).B h .Y
def aoK(B N d X F s w)(h:dO w F d s)(Z:jG N s)(hN:N<=100000)(a:s.all.length<=16777216)(hF:∀k,F k->B<=k/\¬X k)(hX:∀k,X k->k<w.heap.size)(hB:B<=w):eE am 95 #[d] w (DT B X F d s w):=by
 by_cases a:s.down=true;·have x:jH s=(8,s):=QJ a;have z:=Lib.H (aEA d s F w h a);(have n:HO (DT B X F d s w (.returned (.tuple #[.pointer none,.int .i64 8])) w):=by show DT ..;unfold DT;rw[x];exact⟨_,rfl,aA.Y ..,h.tight,oo,λ _=>rfl⟩);go_enter func95,ntmps95;go_wp2_with fail;refine z.U.M ?_;rintro e A ⟨rfl,rfl⟩;go_wp2_with fail;go_ret2;exact n.U
 ·(have a:s.down=false:=(az a));have aI:=aoF s;have n:eE _ 171 _ w λ e C=>e= .returned (.tuple #[s.bytes,.int _ 0])/\bi _ w C:=aEB d s F w h a oo (by have:=Z.uz;omega);have W:yW _<=s.bytes.size:=Nat.sub_le ..;have z:=Lib.H n;have HH:=Lib.H (h.M (G:=λ k=>F k/\k<w) (hP));have O:HO _:=λ v=>aEu s.bytes oo v;by_cases Y:yW s.bytes<s.bytes.size;(·(have G9:jH s=s.KO (yW s.bytes):=by unfold jH;simp_all);(have n:HO (∀h,bi _ w h->eE _ 173 _ h λ e C=>e=(jH s).1/\dO C _ d (jH s).2/\aA h C _):=λ h o=>by rw[G9];exact aEE d N s _ h _ (HH.U.B o .Y) Z hN);(have y:HO (∀(h f:cJ)(v:eQ),bi w w h->Sl h w 9 1 v (iF s.bytes) (strCells (iF s.bytes))->dO f (λ k=>((F k/\k<w)/\k<h)\/h<=k) d (jH s).2->aA h f (λ k=>F k/\k<w)->((jH s).1=0->DT B X F d s w (.returned (.tuple #[f,.int .i64 0])) (f.alloc (.cells #[d,v] 284)))/\((jH s).1≠0->DT B X F d s w (.returned (.tuple #[.pointer none,(jH s).1])) f)):=by intro h f v o g P Q;have x:=aoJ hF hX hB o g P Q;refine⟨λ R=>⟨_,by rw[R],x.2.1,x.2.2,λ _=>⟨_,rfl,x.1⟩,oo⟩,λ R=>⟨_,rfl,(aA.bR o F oo).J Q (λ _ _ a=>a.1),P.M λ k _ a=>?_,oo,λ _=>rfl⟩⟩;rcases a with⟨a,_⟩|a;exact .N a;exact .I (lI o.size a));obtain⟨S,Cq⟩:∃c,(jH s).1=c:=ax;rw[Cq]at n y;obtain⟨i,T⟩:∃b,s.bytes=b:=ax;rw[T]at z O y aI W Y;(try rw[T]at n);obtain⟨q,D⟩:∃q,yW i=q:=ax;have U:=Lib.H D;rw[D]at W Y;(try rw[D]at n);by_cases V:S=0;(·subst V;go_enter func95,ntmps95;go_wp2_with fail;refine z.U.M ?_;rintro e A ⟨rfl,E⟩;have l:=Lib.H E;go_wp2_with fail;refine(O.U A).M ?_;rintro e h ⟨v,m,g,G⟩;rw[U.U]at m;obtain⟨p,r,rfl,_,_⟩:=g.E;obtain⟨j,t⟩:∃j,(iF i).length=j:=ax;rw[t]at m g;have H:=Lib.H t;subst m;have u:HO _:=l.U.J (G.M l.U.size);have I:=Lib.H (n.U h u.U);(have J:HO (Sl h w 9 1 _ (iF i) _):=(Xu H g l));go_wp2_with fail;refine I.U.M ?_;rintro e f ⟨rfl,K,L⟩;have M:=Lib.H ((y.U h f _ u.U J.U K L).1 (by first|rfl|trivial));go_wp2_with fail;go_ret2;exact M.U);·(have aJ:(S==0)=false:=by simp_all);go_enter func95,ntmps95;go_wp2_with fail;refine z.U.M ?_;rintro e A ⟨rfl,E⟩;have l:=Lib.H E;go_wp2_with fail;refine(O.U A).M ?_;rintro e h ⟨v,m,g,G⟩;rw[U.U]at m;obtain⟨p,r,rfl,_,_⟩:=g.E;obtain⟨j,t⟩:∃j,(iF i).length=j:=ax;rw[t]at m g;have H:=Lib.H t;subst m;have u:HO _:=l.U.J (G.M l.U.size);have I:=Lib.H (n.U h u.U);(have J:HO (Sl h w 9 1 _ (iF i) _):=(Xu H g l));go_wp2_with fail;refine I.U.M ?_;rintro e f ⟨rfl,K,L⟩;have M:=Lib.H ((y.U h f _ u.U J.U K L).2 V);go_wp2_with fail;go_ret2;exact M.U);·(have G9:jH s=s.sync:=by unfold jH;grind);(have n:HO (∀h,bi _ w h->eE _ 174 _ h λ e C=>e=(jH s).1/\dO C _ d (jH s).2/\aA h C _):=λ h o=>by rw[G9];exact aor d N s _ h (HH.U.B o .Y) Z hN);(have y:HO (∀(h f:cJ)(v:eQ),bi w w h->Sl h w 9 1 v (iF s.bytes) (strCells (iF s.bytes))->dO f (λ k=>((F k/\k<w)/\k<h)\/h<=k) d (jH s).2->aA h f (λ k=>F k/\k<w)->((jH s).1=0->DT B X F d s w (.returned (.tuple #[f,.int .i64 0])) (f.alloc (.cells #[d,v] 284)))/\((jH s).1≠0->DT B X F d s w (.returned (.tuple #[.pointer none,(jH s).1])) f)):=by intro h f v o g P Q;have x:=aoJ hF hX hB o g P Q;refine⟨λ R=>⟨_,by rw[R],x.2.1,x.2.2,λ _=>⟨_,rfl,x.1⟩,oo⟩,λ R=>⟨_,rfl,(aA.bR o F oo).J Q (λ _ _ a=>a.1),P.M λ k _ a=>?_,oo,λ _=>rfl⟩⟩;rcases a with⟨a,_⟩|a;exact .N a;exact .I (lI o.size a));obtain⟨S,Cq⟩:∃c,(jH s).1=c:=ax;rw[Cq]at n y;obtain⟨i,T⟩:∃b,s.bytes=b:=ax;rw[T]at z O y aI W Y;(try rw[T]at n);obtain⟨q,D⟩:∃q,yW i=q:=ax;have U:=Lib.H D;rw[D]at W Y;(try rw[D]at n);by_cases V:S=0;(·subst V;go_enter func95,ntmps95;go_wp2_with fail;refine z.U.M ?_;rintro e A ⟨rfl,E⟩;have l:=Lib.H E;go_wp2_with fail;refine(O.U A).M ?_;rintro e h ⟨v,m,g,G⟩;rw[U.U]at m;obtain⟨p,r,rfl,_,_⟩:=g.E;obtain⟨j,t⟩:∃j,(iF i).length=j:=ax;rw[t]at m g;have H:=Lib.H t;subst m;have u:HO _:=l.U.J (G.M l.U.size);have I:=Lib.H (n.U h u.U);(have J:HO (Sl h w 9 1 _ (iF i) _):=(Xu H g l));go_wp2_with fail;refine I.U.M ?_;rintro e f ⟨rfl,K,L⟩;have M:=Lib.H ((y.U h f _ u.U J.U K L).1 (by first|rfl|trivial));go_wp2_with fail;go_ret2;exact M.U);·(have aJ:(S==0)=false:=by simp_all);go_enter func95,ntmps95;go_wp2_with fail;refine z.U.M ?_;rintro e A ⟨rfl,E⟩;have l:=Lib.H E;go_wp2_with fail;refine(O.U A).M ?_;rintro e h ⟨v,m,g,G⟩;rw[U.U]at m;obtain⟨p,r,rfl,_,_⟩:=g.E;obtain⟨j,t⟩:∃j,(iF i).length=j:=ax;rw[t]at m g;have H:=Lib.H t;subst m;have u:HO _:=l.U.J (G.M l.U.size);have I:=Lib.H (n.U h u.U);(have J:HO (Sl h w 9 1 _ (iF i) _):=(Xu H g l));go_wp2_with fail;refine I.U.M ?_;rintro e f ⟨rfl,K,L⟩;have M:=Lib.H ((y.U h f _ u.U J.U K L).2 V);go_wp2_with fail;go_ret2;exact M.U
def aEX{w F c b l}(h:iU w F c b l)(x)(o:l.length<=1000000):∃e f g a i d,w.cell? ⟨c,1,none⟩=some (.slice e l f)/\zw am (pV #[172,172] 172 #[f7 e l f,.slice (some {block:=w,off:=0}) 1 1]) (w.alloc (LE x))= .ok (.slice g a i) d/\(∃u,d.cell? ⟨c,1,none⟩=some u)/\d.frozen? (oi c 1)=false/\c<d/\iU (d.setCell (oi c 1) (.slice g a i)) (E2 F w) c b (l++[x])/\aA w (d.setCell (oi c 1) (.slice g a i)) F:=by obtain⟨j,_⟩:=id h;obtain⟨e,f,_,_,u,a⟩:=h.cells;have p:=aQ u;have h:(w.alloc (.cells #[x] 9)).heap.size=w+1:=World.size_alloc ..;have q:=qC u (.cells #[x] 9);have m:Sl (w.alloc (.cells #[x] 9)) (λ k=>(F k/\k≠c)/\k<w) 9 1 ..:=(a.M (hP)).V λ k h _=>(X0 h.2);let⟨s,d,r,b,n⟩:=UL x m (rC w _) o;obtain⟨g,i,rfl,_,_⟩:=b.E;have o:∀k,(tf e _ f).ownBlock=some k->(F k/\k≠c)/\k<w:=λ k h=>(zm m h).1;have x:=n.heap q (λ a=>(o c a).1.2 rfl);refine⟨e,f,g,_,i,d,aO u rfl,r,⟨_,aO x rfl⟩,kZ x 1,aQ x,⟨.N ⟨j,p⟩,.slice g _ i,heap_setCell_same x _,?_⟩,?_⟩;rw[da,Cr];refine(b.M (G:=λ k=>((F k/\k<w.heap.size)\/w.heap.size<=k)/\k≠c) λ k _ h=>?_).V λ k h _=>Ly _ _ _ _ h.2;grind;exact(((aA.Y w F).alloc _).J n (λ k _ a=>(o k a).1.1)).setCell (λ _=>j) _
def fU(s:bj)(x:ByteArray):Int×bj:=if(s.append (Jl x)).1=0 then(s.append (Jl x)).2.sync else s.append (Jl x)
def aoM(B N f g)(X)(s)(l)(w x)(h:LD w B X f g s l)(ok:jG N s)(hN:N<=50000)(hl:l.length<=1000000)(hx:x.size<=1000000)(hB:B<=w):eE am 99 #[g,.string x] w λ e d=>e=(fU s x).1/\LD d B X f g (fU s x).2 (if(fU s x).1=0 then l++[x]else l)/\aA w d (λ k=>B<=k/\¬X k):=by
 have O:am.follows .mixedOrders=true:=kk;let⟨v0,aL⟩:=h.rO;have G:w.cell? ⟨g,0,none⟩=some (.pointer (some ⟨f,0,none⟩)):=aO aL rfl;have j6:(txt (iv x.data.toList)).size=x.size+8:=by rw[anX,E8,GQ]
 have sV:∀v:cJ,eE am 179 #[x] v λ e d=>e= .returned (.string (txt (iv x.data.toList)))/\bi v.heap.size v d:=λ v=>asG x oo v;have P:jG (N+1) (s.append (txt (iv x.data.toList))).2:=aES ok _;unfold fU;obtain⟨m,aM⟩:∃m,txt (iv x.data.toList)=m:=ax;rw[aM]at j6 sV P⊢;obtain⟨r,aI⟩:∃c,(s.append m).1=c:=ax;obtain⟨j,Q⟩:∃c,(s.append m).2=c:=ax;have aP:HO (∀(v:cJ)(F:Nat->Prop),dO v F f s->eE am 178 #[f,m] v λ e d=>e=r/\dO d (λ k=>(F k/\k<v)\/v<=k) f j/\aA v d F):=λ v F K=>by have:=aEC f N s F v m K ok oo oo;rw[aI,Q]at this;exact this
 rw[Q]at P;rw[show s.append m=(r,j)from Prod.ext aI Q];have R:=Lib.H sV;have aS:=Lib.H P;have y:HO ((λ d=>d.cell? ⟨g,0,none⟩=some (.pointer (some ⟨f,0,none⟩)):cJ->Prop) w.drew):=G;have aU:HO (∀i:cJ,bi w w.drew i->LD i B X f g s l/\B<=i/\aA w i (λ k=>B<=k/\¬X k)):=λ i o=>by have b:bi w.heap.size w i:=((bi.refl _ _).drew).J o;exact⟨h.B b,lI hB b.size,(lW b)⟩
 have S:HO (∀i:cJ,bi w w.drew i->eE am 178 #[f,m] i λ e d=>e=r/\LD d B X f g j l/\aA w d (λ k=>B<=k/\¬X k)/\B<=d):=λ i o=>by obtain⟨H,T,I⟩:=aU.U i o;obtain⟨F,A,hX,hF,_,z⟩:=H.dH T;exact(aP.U i F A).M λ e d ⟨a,b,c⟩=>⟨a,z d j b c,I.J c oV,lI T c.size⟩
 have T:HO (∀(v:cJ),LD v B X f g j l->B<=v->eE am 174 #[f] v λ e d=>e=j.sync.1/\LD d B X f g j.sync.2 l/\aA v d (λ k=>B<=k/\¬X k)/\B<=d):=λ v K U=>by obtain⟨F,A,hX,hF,_,z⟩:=K.dH U;exact(aor f (N+1) j F v A aS.U oo).M λ e d ⟨a,b,c⟩=>⟨a,z d _ b c,c.M oV,lI U c.size⟩
 by_cases U:r=0;·subst U;rw[QJ rfl];obtain⟨c2,I⟩:∃c,j.sync.1=c:=ax;obtain⟨s2,aJ⟩:∃c,j.sync.2=c:=ax;rw[I,aJ]at T;show eE _ _ _ _ λ e d=>e=j.sync.1/\LD d B X f g j.sync.2 (if j.sync.1=0 then l++[x]else l)/\_;rw[I,aJ];by_cases H:c2=0;(·subst H;rw[QJ rfl];go_enter func99,ntmps99;have c:=y.U;go_wp2_with fail;refine fL.region (m:=99) (S:=λ d=>d.cell? ⟨g,0,none⟩=some (.pointer f)) O ?_;refine fL.Ak (i:=0) (v:=?va0) rfl kk (QR kk) kk kk (λ _ _ _ h=>h) (Or.N ⟨kk,?hya0⟩) c ?aQe;(case hya0=>(intro d v;(try dsimp only at v);go_simp;try(with_reducible rfl)));refine fL.Ak (i:=1) (v:=?va1) rfl kk (QR kk) kk kk (λ _ _ _ h=>h) (Or.N ⟨kk,?hya1⟩) c ?aQg;(case hya1=>(intro d v;(try dsimp only at v);go_simp;try(with_reducible rfl)));refine fL.Ak (i:=2) (v:=?va2) rfl kk (QR kk) kk kk (λ _ _ _ h=>h) (Or.N ⟨kk,?hya2⟩) c ?aQi;(case hya2=>(intro d v;(try dsimp only at v);go_simp;try(with_reducible rfl)));refine fL.Ak (i:=3) (v:=?va3) rfl kk (QR kk) kk kk (λ _ _ _ h=>h) (Or.N ⟨kk,?hya3⟩) c ?aQk;(case hya3=>(intro d v;(try dsimp only at v);go_simp;try(with_reducible rfl)));refine fL.Ak (i:=4) (v:=?va4) rfl kk (QR kk) kk kk (λ _ _ _ h=>h) (Or.N ⟨kk,?hya4⟩) c ?aQm;(case hya4=>(intro d v;(try dsimp only at v);go_simp;try(with_reducible rfl)));(try simp only[zO,qr,qy,sN,mV,pP,nn]);refine fL.step (i:=5) kk rfl (λ K b=>?_);go_simp;go_at_call 179;refine(R.U w.drew).M ?_;rintro e i ⟨rfl,o⟩;have A:=Lib.H (S.U i o);have c:(λ d=>d.cell? ⟨g,0,none⟩=some (.pointer (some ⟨f,0,none⟩)):cJ->Prop) i:=(o.Z (p:=⟨g,0,none⟩) (by exact uK G)).J y.U;go_wp2_with fail;refine b.U _ _ (λ _=>c) ?_;(try simp only[zO,qr,qy,sN,mV,pP,nn]);refine fL.step (i:=6) kk rfl (λ K b=>?_);go_simp;go_at_call 178;refine A.U.M ?_;rintro e t ⟨rfl,p,C,J⟩;have L:=Lib.H p;have M:=Lib.H C;let⟨v3,D⟩:=p.rO;have q:t.cell? ⟨g,0,none⟩=some (.pointer (some ⟨f,0,none⟩)):=aO D rfl;go_wp2_with fail;refine b.U _ _ (λ _=>q) ?_;(try simp only[zO,qr,qy,sN,mV,pP,nn]);refine fL.step (i:=7) kk rfl (λ K b=>?_);go_simp;refine b.U _ _ (λ _=>q) ?_;(try simp only[zO,qr,qy,sN,mV,pP,nn]);refine fL.done kk ?_;go_wp2_with fail;refine(T.U t L.U J).M ?_;rintro e V ⟨rfl,W,Y,b4⟩;obtain⟨F,Qi,hX,hF,z⟩:=W.log b4;obtain⟨ao,cp,ee,n',wZ,w5,p1,aK,⟨u,p2⟩,pf,pg,CZ,Z⟩:=aEX Qi x oo;obtain⟨E,Qj⟩:∃E,w5.setCell ⟨g,1,none⟩ (.slice ee n' wZ)=E:=ax;rw[Qj]at CZ Z;have aV:HO (LD E B X f g s2 (l++[x])/\aA w E (λ k=>B<=k/\¬X k)):=⟨z E _ CZ Z,(M.U.J Y (pm)).J Z oV⟩;obtain⟨n,hn⟩:∃n,l.length=n:=ax;rw[hn]at p1 aK;have kL:=Lib.H aK;go_wp2_with(at_builtin;refine Aw rfl rfl rfl rfl kL.U ?_);(try rw[Qj]);go_ret;exact oK);·rw[QI H];(have F:(c2==0)=false:=by simp_all);go_enter func99,ntmps99;have c:=y.U;go_wp2_with fail;refine fL.region (m:=99) (S:=λ d=>d.cell? ⟨g,0,none⟩=some (.pointer f)) O ?_;refine fL.Ak (i:=0) (v:=?vb0) rfl kk (QR kk) kk kk (λ _ _ _ h=>h) (Or.N ⟨kk,?hyb0⟩) c ?aQp;(case hyb0=>(intro d v;(try dsimp only at v);go_simp;try(with_reducible rfl)));refine fL.Ak (i:=1) (v:=?vb1) rfl kk (QR kk) kk kk (λ _ _ _ h=>h) (Or.N ⟨kk,?hyb1⟩) c ?aQr;(case hyb1=>(intro d v;(try dsimp only at v);go_simp;try(with_reducible rfl)));refine fL.Ak (i:=2) (v:=?vb2) rfl kk (QR kk) kk kk (λ _ _ _ h=>h) (Or.N ⟨kk,?hyb2⟩) c ?aQt;(case hyb2=>(intro d v;(try dsimp only at v);go_simp;try(with_reducible rfl)));refine fL.Ak (i:=3) (v:=?vb3) rfl kk (QR kk) kk kk (λ _ _ _ h=>h) (Or.N ⟨kk,?hyb3⟩) c ?aQv;(case hyb3=>(intro d v;(try dsimp only at v);go_simp;try(with_reducible rfl)));refine fL.Ak (i:=4) (v:=?vb4) rfl kk (QR kk) kk kk (λ _ _ _ h=>h) (Or.N ⟨kk,?hyb4⟩) c ?aQx;(case hyb4=>(intro d v;(try dsimp only at v);go_simp;try(with_reducible rfl)));(try simp only[zO,qr,qy,sN,mV,pP,nn]);refine fL.step (i:=5) kk rfl (λ K b=>?_);go_simp;go_at_call 179;refine(R.U w.drew).M ?_;rintro e i ⟨rfl,o⟩;have A:=Lib.H (S.U i o);have c:(λ d=>d.cell? ⟨g,0,none⟩=some (.pointer (some ⟨f,0,none⟩)):cJ->Prop) i:=(o.Z (p:=⟨g,0,none⟩) (by exact uK G)).J y.U;go_wp2_with fail;refine b.U _ _ (λ _=>c) ?_;(try simp only[zO,qr,qy,sN,mV,pP,nn]);refine fL.step (i:=6) kk rfl (λ K b=>?_);go_simp;go_at_call 178;refine A.U.M ?_;rintro e t ⟨rfl,p,C,J⟩;have L:=Lib.H p;have M:=Lib.H C;let⟨v3,D⟩:=p.rO;have q:t.cell? ⟨g,0,none⟩=some (.pointer (some ⟨f,0,none⟩)):=aO D rfl;go_wp2_with fail;refine b.U _ _ (λ _=>q) ?_;(try simp only[zO,qr,qy,sN,mV,pP,nn]);refine fL.step (i:=7) kk rfl (λ K b=>?_);go_simp;refine b.U _ _ (λ _=>q) ?_;(try simp only[zO,qr,qy,sN,mV,pP,nn]);refine fL.done kk ?_;go_wp2_with fail;refine(T.U t L.U J).M ?_;rintro e V ⟨rfl,W,Y,b4⟩;have aV:HO (LD V B X f g s2 l/\aA w V (λ k=>B<=k/\¬X k)):=⟨W,M.U.J Y (pm)⟩;go_wp2_with fail;go_ret;exact oK
 ·rw[QI U];show eE _ _ _ _ λ e d=>e=r/\LD d B X f g j (if r=0 then l++[x]else l)/\_;rw[QI U];(have F:(r==0)=false:=by simp_all);go_enter func99,ntmps99;have c:=y.U;go_wp2_with fail;refine fL.region (m:=99) (S:=λ d=>d.cell? ⟨g,0,none⟩=some (.pointer f)) O ?_;refine fL.Ak (i:=0) (v:=?br) rfl kk (QR kk) kk kk (λ _ _ _ h=>h) (Or.N ⟨kk,?hyc0⟩) c ?aQy;(case hyc0=>(intro d v;(try dsimp only at v);go_simp;try(with_reducible rfl)));refine fL.Ak (i:=1) (v:=?vc1) rfl kk (QR kk) kk kk (λ _ _ _ h=>h) (Or.N ⟨kk,?hyc1⟩) c ?aQA;(case hyc1=>(intro d v;(try dsimp only at v);go_simp;try(with_reducible rfl)));refine fL.Ak (i:=2) (v:=?vc2) rfl kk (QR kk) kk kk (λ _ _ _ h=>h) (Or.N ⟨kk,?hyc2⟩) c ?aQC;(case hyc2=>(intro d v;(try dsimp only at v);go_simp;try(with_reducible rfl)));refine fL.Ak (i:=3) (v:=?vc3) rfl kk (QR kk) kk kk (λ _ _ _ h=>h) (Or.N ⟨kk,?hyc3⟩) c ?aQE;(case hyc3=>(intro d v;(try dsimp only at v);go_simp;try(with_reducible rfl)));refine fL.Ak (i:=4) (v:=?vc4) rfl kk (QR kk) kk kk (λ _ _ _ h=>h) (Or.N ⟨kk,?hyc4⟩) c ?aQG;(case hyc4=>(intro d v;(try dsimp only at v);go_simp;try(with_reducible rfl)));(try simp only[zO,qr,qy,sN,mV,pP,nn]);refine fL.step (i:=5) kk rfl (λ K b=>?_);go_simp;go_at_call 179;refine(R.U w.drew).M ?_;rintro e i ⟨rfl,o⟩;have A:=Lib.H (S.U i o);have c:(λ d=>d.cell? ⟨g,0,none⟩=some (.pointer (some ⟨f,0,none⟩)):cJ->Prop) i:=(o.Z (p:=⟨g,0,none⟩) (by exact uK G)).J y.U;go_wp2_with fail;refine b.U _ _ (λ _=>c) ?_;(try simp only[zO,qr,qy,sN,mV,pP,nn]);refine fL.step (i:=6) kk rfl (λ K b=>?_);go_simp;go_at_call 178;refine A.U.M ?_;rintro e t ⟨rfl,p,C,J⟩;have L:=Lib.H p;have M:=Lib.H C;let⟨v3,D⟩:=p.rO;have q:t.cell? ⟨g,0,none⟩=some (.pointer (some ⟨f,0,none⟩)):=aO D rfl;go_wp2_with fail;refine b.U _ _ (λ _=>q) ?_;(try simp only[zO,qr,qy,sN,mV,pP,nn]);refine fL.step (i:=7) kk rfl (λ K b=>?_);go_simp;refine b.U _ _ (λ _=>q) ?_;(try simp only[zO,qr,qy,sN,mV,pP,nn]);refine fL.done kk ?_;go_wp2_with fail;go_ret;exact oK
end D
namespace D
def j2(a:List ByteArray):List UInt8:=E9 (a.map (·.data.toList))
def aEY(a b):E9 (a++b)=E9 a++E9 b:=by induction a with|nil=>rfl|cons x a b=>simp[E9,b]
def ad3(a x):j2 (a++[x])=j2 a++iv x.data.toList:=by unfold j2;rw[EF,aEY];simp[E9]
def aEZ(a s j)(h:LB a)(b:s.data.toList=j2 a++j)(c:Lg j):iF s=a/\M8 s=j/\yW s=(j2 a):=by
 have e:=aEs _ j (λ x d=>by obtain⟨y,f,rfl⟩:=GS.1 d;rw[GQ];exact h y f);rw[anW j c,uV]at e;have h:(wY s.data.toList)=(a.map (·.data.toList),j):=by rw[b];exact e
 refine⟨?_,by rw[h],?_⟩;unfold iF;rw[h];show(a.map _).map txt=a;rw[List.map_map];have:(txt∘λ x:ByteArray=>x.data.toList)=id:=by exact oK
 rw[this,List.map_id];unfold yW;have:s.size=s.data.toList:=(GQ s).S;grind
def XK:(iG []).2.2≠0:=by rw[aEq];decide
def aE0(x:ByteArray):(txt (iv x.data.toList)).toList≠[]:=by apply aER;rw[IY];intro e;have:=E8 x.data.toList;grind
def aE1(x:ByteArray):(txt (iv x.data.toList)).size=x.size+8:=by rw[anX,E8,GQ]
def aE2(s:bj)(x:ByteArray):(s.more (Jl x)).all=s.all++iv x.data.toList:=by rw[aoo,IY]
end D
namespace D
def aE3{s:bj}{n}(a:s.left= -1)(b:s.down=false)(c:n<=s.all.length):s.KO n=(0,s.only (s.bytes.extract 0 n)):=by
 have c:¬((n:Int)<0\/s.all.length<(n:Int)):=oo;have d:¬s.left=0:=oo;have e:¬s.down=true:=by rw[b];decide
 unfold bj.KO;rw[QI e,QI c,QI d,aoC a];exact oK
def aE4(s:bj)(q)(a:q<=s.all.length):JN (s.bytes.extract 0 q)=s.all.take q:=by unfold bj.bytes;rw[aoz _ _ a]
end D
namespace D
def nS(c:Int)(a:List ByteArray):bj:=⟨-1,false,txt (j2 a),[],c⟩
def aE5(c a):(nS c a).all=j2 a:=by show(txt _).data.toList++[]=_;rw[uV,IY]
def aE6{N}(c a)(b:((j2 a).length:Int)<=c)(d:c<=16777216):jG N (nS c a):=⟨by show(0)<=c;omega,d,by rw[aE5];exact b,fy _,aaw,aaQ⟩
def aE7(x n)(d:n<x.length+8)(e:x.length<=1048576):Lg ((iv x).take n):=by
 have b:((iv x).take n)=n:=by rw[pS,E8];omega
 unfold iG;rw[b];by_cases a:n<8;rw[QJ a];grind;rw[QI a];have c:((iv x).take n).take 4=pW x:=by rw[List.take_take,Nat.min_eq_left oo,anS]
 rw[c,adP _ oo,QI oo,QJ (by grind)];grind
def aoS{s}(a j)(b:s.down=false)(c:s.left= -1)(h:LB a)(d:s.all=j2 a++j)(e:Lg j):jH s=(0,nS s.cap a)/\iF s.bytes=a:=by
 have x:=aEZ a _ j h (by rw[aoE,d]) e;refine⟨?_,x.1⟩;have e:s.all=(j2 a)+j.length:=by rw[d,da]
 have e:s.all.take (j2 a)=j2 a:=by grind
 have h:jH s=if yW s.bytes<s.bytes.size then s.KO (yW s.bytes)else s.sync:=by unfold jH;grind
 rw[h,x.2.2,aoF];have x:=aE4 s (j2 a) oo;rw[e]at x;have h:=aE3 (n:=(j2 a)) c b oo;have g:=aEO c b;have e:=aoE s;by_cases f:(j2 a)<s.all.length;rw[QJ f,h];generalize s.bytes.extract 0 (j2 a)=y at*;have h:y=txt (j2 a):=by rw[<-x];exact(adS y).S
 rw[h];unfold bj.only nS;rw[c,b];have x:j=[]:=wI oo;rw[QI f,g];have h:s.bytes=txt (j2 a):=by rw[d,x,uV]at e;rw[<-e];exact(adS _).S
 rw[h];unfold bj.only nS;rw[c,b]
end D
namespace D
def aoT{s:bj}(a:s.left=0):s.j0=⟨-1,true,s.gO,s.uz,s.cap⟩:=by unfold bj.j0;rw[QJ a]
def ad5{s:bj}(a:s.left≠0):s.j0.down=s.down:=by unfold bj.j0;rw[QI a];split<;>rfl
structure y7(c)(s:bj)(has A9):Prop where
 cap:s.cap=c
 c1:c≤16777216
 l0: -1≤s.left
 l1:s.left≤9223372036854775807
 gO:s.gO=txt (j2 has)
 fits:((j2 has).length)≤c
 small:LB has
 up:s.down=false→s.uz=[]∧A9=has
 dn:s.down=true→∃z:ByteArray,A9=has++[z]∧(s.uz=[]∨s.uz=[txt (iv z.data.toList)])∧((j2 has).length)+8+z.size≤c∧z.size≤1048576
def y7.aoU{c s e a}(h:y7 c s e a)(b:s.down=false):s.all=j2 e:=by
 have e:s.tail=[]:=by unfold bj.tail;rw[(h.up b).1];rfl
 unfold bj.all;rw[e,uV,h.gO,IY]
def y7.ok{c s b d}(h:y7 c s b d):jG 1 s:=by
 have d:(0)<=c:=by have:=h.fits;omega
 have d:=h.c1;have d:=h.cap;cases e:s.down with|false=>exact⟨oo,oo,by rw[h.aoU e,d];exact h.fits,by rw[(h.up e).1];simp,h.l0,h.l1⟩|true=>obtain⟨z,_,a,f⟩:=h.dn e;(have e:s.all=j2 b++s.tail:=by unfold bj.all;rw[h.gO,IY]);obtain a|a:=a;(have b:s.tail=[]:=by unfold bj.tail;rw[a];rfl);exact⟨oo,oo,by grind,(CE a),h.l0,h.l1⟩;(have b:s.tail=iv z.data.toList:=by unfold bj.tail;rw[a];show(txt _).data.toList++[]=_;rw[uV,IY]);exact⟨oo,oo,by rw[e,b,d,da,E8,GQ];omega,(CE a),h.l0,h.l1⟩
def aE9(c)(h:f9 0 c 16777216):y7 c (nS c []) [] []:=⟨rfl,h.2,aaw,aaQ,rfl,by simp[j2,E9];exact h.1,by simp,λ _=>mH,λ a=>by cases a⟩
def aFa{c s a b}(h:y7 c s a b)(n)(d:n<=9223372036854775807):y7 c (s.vZ n) a b:=⟨h.cap,h.c1,by show-1<=max n _;omega,by show max n _<=_;omega,h.gO,h.fits,h.small,h.up,h.dn⟩
def aoV(a x):(j2 (a++[x]))=(j2 a).length+(x.size+8):=by rw[ad3,da,E8,GQ]
def aFb{c s d v}(h:y7 c s d v)(x)(p:x.size<=1048576):(s.down=true/\fU s x=(8,s))\/(s.down=false/\c<((j2 d).length)+8+x.size/\fU s x=(7,s))\/(s.down=false/\((j2 d).length)+8+x.size<=c/\∃e,fU s x=(8,e)/\e.down=true/\y7 c e d (d++[x]))\/(s.down=false/\((j2 d).length)+8+x.size<=c/\∃e,fU s x=(0,e)/\e.down=false/\y7 c e (d++[x]) (d++[x])):=by have q:=aE1 x;have i:=h.cap;let⟨w,z,A,B⟩:=KN s;cases f:s.down with|true=>left;refine(qs ?_);(have e:s.append (txt (iv x.data.toList))=(8,s):=by unfold bj.append;rw[QJ f]);unfold fU;grind|false=>right;have n:=h.aoU f;(have r:¬s.down=true:=by rw[f];decide);by_cases C:c<((j2 d).length)+8+x.size;left;refine⟨rfl,C,?_⟩;have e:=aEN f (by rw[n,q,i];omega);unfold fU;grind;·right;have j:((j2 d).length)+8+x.size<=c:=oo;(have t:¬s.cap-s.all.length<((txt (iv x.data.toList)).size):=by rw[n,q,i];omega);have I:=p;by_cases k:s.left=0;(·left;refine⟨rfl,j,⟨-1,true,s.gO,s.uz,s.cap⟩,?_,rfl,?_⟩;(have e:s.append (txt (iv x.data.toList))=(8,⟨-1,true,s.gO,s.uz,s.cap⟩):=by unfold bj.append;rw[QI r,QI t,QJ k,aoT k]);unfold fU;grind;·exact⟨i,h.c1,aaw,aaQ,h.gO,h.fits,h.small,λ a=>(by cases a),λ _=>⟨x,rfl,.N (h.up f).1,j,p⟩⟩);·(have e:s.append (txt (iv x.data.toList))=(0,s.j0.more (txt (iv x.data.toList))):=by unfold bj.append;rw[QI r,QI t,QI k,QI (aE0 x)]);have D:=ad5 k;obtain⟨b,o⟩:∃b,s.j0.more (txt (iv x.data.toList))=b:=ax;(have g:b.gO=txt (j2 d)/\b.uz=[txt (iv x.data.toList)]/\b.cap=c/\b.down=false/\b.left=s.j0.left:=by rw[<-o];refine⟨w.J h.gO,?_,A.J i,D.J f,rfl⟩;show s.j0.uz++[_]=_;rw[z,(h.up f).1];rfl);(have E:b.all=j2 (d++[x]):=by rw[<-o,aE2,B,n,ad3]);rw[o]at e;(have F:fU s x=b.sync:=by unfold fU;grind);rw[F];(have J: -1<=s.j0.left/\s.j0.left<=9223372036854775807:=by have:=h.ok.j0;exact⟨this.l0,this.l1⟩);by_cases l:b.left=0;(·left;refine⟨rfl,j,⟨-1,true,b.gO,b.uz,b.cap⟩,?_,rfl,?_⟩;unfold bj.sync;rw[QI (show¬b.down=true by rw[g.2.2.2.1];decide),QJ l,aoT l];·exact⟨g.2.2.1,h.c1,aaw,aaQ,g.1,h.fits,h.small,λ a=>(by cases a),oV⟩);·right;have G:=KN b;(have u: -1<=b.j0.left/\b.j0.left<=9223372036854775807:=by unfold bj.j0;grind);refine⟨rfl,j,b.j0.only b.bytes,?_,?_,?_⟩;unfold bj.sync;grind;exact(ad5 l).J g.2.2.2.1;·refine⟨G.2.2.1.J g.2.2.1,h.c1,u.1,u.2,?_,by rw[aoV];omega,?_,λ _=>mH,λ a=>?_⟩;show b.bytes=_;unfold bj.bytes;rw[E];rfl;intro y m;rcases (lG m) with m|m;exact h.small y m;grind;·have H:(b.j0.only b.bytes).down=false:=(ad5 l).J g.2.2.2.1;rw[H]at a;cases a
def aFd(s:bj)(c:s.uz=[])(a b):s.kJ a b=⟨-1,false,s.gO,[],s.cap⟩:=by
 have e:A8 s a b=[]:=by have:=aoG s a b;(have b:s.tail=[]:=by unfold bj.tail;rw[c];rfl);rw[b]at this;exact wI (by simpa using this)
 unfold bj.kJ;rw[e,uV,adY]
def aFe:yj.yl [0,0,0,0]=1214729159:=by decide+kernel
def aFf(m):∃k,iG (eM m 0)=([],eM m 0,k)/\k≠0:=by
 by_cases k:m<8;exact⟨3,by unfold iG;rw[QJ (az k)],oo⟩;refine⟨5,?_,oo⟩;have b:(eM m (0:UInt8)).take 4=[0,0,0,0]:=by rw[List.take_replicate,show min 4 m=4 by omega];rfl
 have c:((eM m (0:UInt8)).drop 4).take 4=[0,0,0,0]:=by grind
 have a:j5 [0,0,0,0]=0:=rfl;unfold iG;rw[QI (az k),b,a,QI oo,QI oo,c,a,QJ];simp[aFe]
def aFg(m):Lg (eM m 0):=by obtain⟨k,a,b⟩:=aFf m;rw[a];exact b
def aFh{c s d i}(h:y7 c s d i)(a b):∃z j,(z=d\/z=i)/\LB z/\((j2 z).length)<=c/\(s.kJ a b).gO.data.toList=j2 z++j/\Lg j:=by
 have none:s.uz=[]->(s.kJ a b).gO.data.toList=j2 d++[]:=λ j=>by rw[aFd s j,uV];show s.gO.data.toList=_;rw[h.gO,IY]
 cases k:s.down with|false=>exact⟨d,[],.N rfl,h.small,h.fits,none (h.up k).1,XK⟩|true=>let⟨z,n,j,o⟩:=h.dn k;have t:=o.2;obtain j|j:=j;exact⟨d,[],.N rfl,h.small,h.fits,none j,XK⟩;(have f:(s.kJ a b).gO.data.toList=j2 d++A8 s a b:=by show(⟨(s.gO.data.toList++A8 s a b).toArray⟩:ByteArray).data.toList=_;rw[h.gO,IY]);(have p:yZ s.uz a s.uz=spoilt a 0 (txt (iv z.data.toList)):=by rw[j];show(spoilt a 0 _++[])=_;grind);(have x:A8 s a b=if 0<=b/\b<((spoilt a 0 (txt (iv z.data.toList))).length)then(spoilt a 0 (txt (iv z.data.toList))).take b.toNat else spoilt a 0 (txt (iv z.data.toList)):=by unfold A8;simp only;rw[p]);(have u:(iv z.data.toList)=z.size+8:=by rw[E8,GQ]);by_cases l:a.getD 0 false=true;(have g:spoilt a 0 (txt (iv z.data.toList))=iv z.data.toList:=by unfold spoilt;rw[QJ l,IY]);rw[g]at x;by_cases m:0<=b/\b<((iv z.data.toList).length);rw[QJ m]at x;refine⟨d,(iv _).take _,.N rfl,h.small,h.fits,by rw[f,x],aE7 _ _ (by rw[GQ];omega) (by rw[GQ];omega)⟩;rw[QI m]at x;refine⟨d++[z],[],.I n.S,λ y e=>?_,by rw[aoV];omega,by rw[f,x,ad3,uV],XK⟩;rcases (lG e) with e|e;exact h.small y e;grind;(have g:spoilt a 0 (txt (iv z.data.toList))=eM (txt (iv z.data.toList)).size 0:=by unfold spoilt;rw[QI l]);rw[g]at x;(obtain⟨q,r⟩:∃q,A8 s a b=eM q 0:=by grind);exact⟨d,eM q 0,.N rfl,h.small,h.fits,by rw[f,r],aFg q⟩
def aFi{c}(a)(b:c<=16777216)(d:((j2 a).length:Int)<=c)(e:LB a):y7 c (nS c a) a a:=⟨rfl,b,aaw,aaQ,rfl,d,e,λ _=>mH,λ a=>by cases a⟩
end D
def Ab(b:Int)(a:List Int)(x:Nd):List Int:=if decide (b∈x.bA)&&! decide (x.id∈a)then a++[x.id]else a
def sE(l:List Nd)(a:Int):List Int:=j8 (l.foldl (Ab a) [])
def dM.bA{w F x}{p:dM}(h:fw w F x p.cs):Ints w F (.slice p.af p.nf p.cf) x.bA:=by obtain⟨F,a,e,x,b,c⟩:=h;obtain⟨h,F,a,b,c,d,f,g,i⟩:=eight x;unfold dM.cs ij at e;grind
def alc(b a x):(Ab b a x)<=a.length+1:=by unfold Ab;split<;>simp
def ald(l)(f:Int)(F)(v w)(O:dj w F v l)(hl:l.length<=1000):eE am 224 #[v,f] w λ e d=>∃c,ea e c/\Ints d w c (sE l f)/\bi w w d:=by
 obtain⟨X,cc,rfl,_,_⟩:=_root_.id O.E;obtain⟨ii,fv,P⟩:=An;simp at P;obtain⟨aI,aJ,aK⟩:=P;refine oY func224 λ aP C=>?_;refine⟨Nat×List Int×eQ,λ i=>[(5,.O (.v i.2.2)),(10,.O (.v (.int .i64 i.1)))],λ _=>[],λ q d=>bi w w d/\Sl d w 3 1 q.2.2 q.2.1.length (q.2.1.flatMap iC)/\q.1<=l.length/\q.2.1=(l.take q.1).foldl (Ab f) []/\q.2.1.length<=q.1,λ q=>l.length-q.1,λ I c=>(⟨(0,[],.slice _ 0 0),⟨(kW c),lg,fy _,rfl,.Y⟩,oK,QD⟩),?_⟩;rintro⟨j,i,vo⟩g ⟨o,A,hj,B,xw⟩;simp only at o A hj B xw;have z4:=o.size;obtain⟨m,n,rfl,_,_⟩:=_root_.id A.E;refine oz (λ h=>?_) λ h=>?_;have dy:j<l.length:=oo;obtain⟨D,Q⟩:∃D,l[j]?=some D:=(eB dy);have h4:=O.B o;obtain⟨b,aS,aU,p,e,hF,hb,hN,hp,aL⟩:=dj.get h4 Q;simp only[cL]at e;obtain⟨rfl,-,rfl⟩:=e;have sV:=dM.bA hN;simp only[dM.cs]at aL;have ET:=hp.id;have J:∀q,(decide _&&! decide _)=q->(l.take _).foldl (Ab f) []=if q then i++[p.id]else i:=λ q Z=>by rw[uk,Q];simp only[Option.toList_some,List.foldl_append,EQ,List.foldl_nil,<-B];unfold Ab;rw[ET,Z]
 refine z ?_;refine(jj ?_);refine z ?_;refine(DK ?_);refine z ?_;intro Z hZ _;have R:w<=Z:=oo;refine z ?_;refine aB.dE o z4 (oK) (λ r E K=>(VF _ F _ r (sV.di (nV E)) f).M qm) λ r K L S=>?_;have z5:=S.size;have M:=(A.M (G:=λ k=>w<=k/\k<g) oo).V (nV S);refine z ?_;refine⟨λ s=>(z ?_),λ s=>?_⟩;refine aB.dE K L (oK) (λ G T N=>(VF i _ _ G ((M.V (nV T)).rows (zR) (Lo _) oo) _).M qm) λ G N T U=>?_;have z6:=U.size;have H:=M.V (nV U);refine z ?_;refine⟨λ t=>(z ?_),λ t=>?_⟩;intro Y hY ja;have V:w<=Y:=oo;refine z ?_;refine cG.app (S:=w) (news:=[p.id]) (lW N) (aF R V) Em fv aI aJ aK rfl H (λ k q a=>⟨.I a.1,bQ oo oo⟩) (λ w7 W=>jn.laid (W.cells (j:=1) rfl rfl) rfl (pj)) (by omega) oo λ v7 w7 s7 c7 z7 q7=>(x λ I c=>?_);have u:=J true oP;simp at u;refine⟨rfl,(j+1,i++[p.id],v7),⟨?_,?_,oo,u.S,ik⟩,oK,eL,(by grind)⟩;have:=(c.bm c7 (aF R V));exact⟨this.os,this.tape,this.output,this.size,λ k q=>this.block k q λ a=>oo⟩;rw[da,vG];exact(s7.V λ k a q=>c.Q k q a.2.em).M oo;refine x λ I c=>?_;have u:=J false oP;simp at u;exact⟨rfl,(j+1,i,.slice m _ n),⟨(kB N c T),(H.V (nV c)).M nw,oo,u.S,kp⟩,oK,eL,(by grind)⟩;refine x λ I c=>?_;have u:=J false oP;simp at u;exact⟨rfl,(j+1,i,.slice m _ n),⟨(kB K c L),(M.V (nV c)).M nw,oo,u.S,kp⟩,oK,eL,(by grind)⟩;have gV:j=l.length:=oo;subst gV;rw[wy]at B;refine z ?_;refine aB.aG (S:=w) (F:=w) (lW o) (QD) (QD) (pm) (λ r _ _ E=>ZM (A.V λ k a q=>(gW E k q)) oo) ?_;rintro r e G E c5 L ⟨rfl,H,q6⟩;refine(jt q6 λ c6 T=>?_);refine z ?_;intro d W;have y:=W.bm c6 QD;refine⟨_,rfl,?_,y.os,y.tape,y.output,y.size,λ k q=>y.block k q λ a=>oo⟩;have aM:Sl d w 3 1 (.slice m i.length n) (j8 i).length ((j8 i).flatMap iC):=by rw[FR];exact H.V λ k a q=>(gW W k q)
 have:=(aM.rows (zR) (Lo _) oo);unfold sE;rw[<-B];exact this
end Go.Proofs.YtinijkiakbbokaaGreat
