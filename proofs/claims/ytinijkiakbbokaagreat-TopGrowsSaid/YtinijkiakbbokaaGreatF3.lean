/- A part of the proof of TopGrows. No conditions. -/
import Derived.Test.YtinijkiakbbokaaGreatF2
set_option linter.all false
set_option maxRecDepth 1000000
set_option maxHeartbeats 16000000
namespace Go.Proofs.YtinijkiakbbokaaGreat
open Go.Proofs.YtinijkiakbbokaaGreat _root_.Go.RowKit Go.Proofs.Tryz
open Go.Proofs.Tryz renaming prog->am
open _root_.Go.RowKit renaming Below->bi,Hid->HO
open _root_.Go renaming World->cJ,Calls->eE,Value->eQ,run_underlying->oZ,maxLen->pJ,heap_alloc_new->rC,info_parts->sB,cell_of_row->ta,block_lt_of_cell->uK,Program->xm,TypeId->zo,typeInfo->IS,mem_ready->Ow,sizeOf->Oy,setRow_heap->OB,eqGuard->PM,setRow_other->PY
open Go.Value.slice renaming injEq->cL
open _root_.List renaming length_append->da,replicate->eM,mem_of_getElem?->fx,setIfInBounds_toArray->mV,set_cons_succ->nn,length_cons->pn,append_assoc->pB,set_cons_zero->pP,length_take->pS,getElem_toArray->qr,getElem_cons_zero->qy,length_map->rW,range->sD,getElem_cons_succ->sN,map_cons->tj,take_add_one->uk,mem_cons->us,append_nil->uV,flatMap_append->vG,flatMap_cons->vL,ext_getElem?->wj,take_length->wy,mem_append->wH,eq_nil_of_length_eq_zero->wI,mem_singleton->xd,nil_append->xe,not_mem_nil->xz,cons_append->xD,map_nil->AC,length_drop->DM,map_append->EF,foldl_cons->EQ,take_of_length_le->GA,mem_map->GS,mem_flatMap->He,all_eq_true->KD,size_toArray->NP,drop_eq_nil_of_le->Oz,length->Pb,mem_range->Qe,getElem_mem->Qu
open _root_.Nat renaming zero_le->fy,le_refl->kg,le_trans->lI,le_of_ble_eq_true->nt,lt_of_lt_of_le->qk,zero_add->KW,add_zero->PI,mul_one->Qg
open Bool renaming and_eq_true->mB,false_eq_true->xn
open Go.Region renaming ready->nF,wanted->AT,binds->Pl
open Go.Value renaming int->nR,slice->tf,ownBlock->ON,string->OW
open Go.Result renaming andThen_ok->nY
open _root_.ByteArray renaming empty->oR
open Go.Builtin renaming append_->pV
open Go.Sem renaming run_bind->rq,run_pure->ws,run->zw
open Int renaming toNat_natCast->ux
open _root_.Array renaming getD_eq_getD_getElem?->xi,length_toList->yJ
open Go.Act renaming put->zO
open Option.some renaming inj->AI,injEq->BY
open Option renaming map_some->OX
open _root_.Go.Lib renaming allEq->CI
open Go.Ending renaming returned->Db
open Go.Addr renaming add_lit->Hq,add_mid->LK
open Go.Oper renaming upon_value->HJ
open Go.IntKind renaming i64->IR
open _root_.Go.RowKit.Below renaming heap_alloc->Jm,heap_setCell->Ly
open Go.Addr.mk renaming injEq->KH
open Go.IntWalk renaming i64_in->Np
open Go.Instr renaming sureAddr->Ov
open Go.Op renaming equalIn->Pa
open Go.Proofs renaming enters_of->Qh
namespace yj
def YM:Nat:=0x82F63B78
def half(r:Nat):Nat:=if r%2=1 then(r/2)^^^YM else r/2
def halves:Nat->Nat->Nat|0,r=>r|n+1,r=>half (halves n r)
def QL(r c:Nat):Nat:=halves 8 (r^^^c)
def zn(r:Nat)(l:List UInt8):Nat:=l.foldl (λ r c=>QL r c.toNat) r
def yl(l:List UInt8):Nat:=4294967295-zn 4294967295 l
def ar7:YM<2^32:=dd
def ar8{r}(h:r<4294967296):half r<4294967296:=by unfold half;split;exact Nat.xor_lt_two_pow oo ar7;omega
def agj(n){r}(h:r<4294967296):halves n r<4294967296:=by induction n with|zero=>exact h|succ n h=>exact ar8 h
def ar9{r c}(h:r<4294967296)(a:c<256):QL r c<4294967296:=agj 8 (Nat.xor_lt_two_pow (n:=32) h oo)
def agk(l){r}(h:r<4294967296):zn r l<4294967296:=by induction l generalizing r with|nil=>exact h|cons c l a=>exact a (ar9 h c.toNat_lt)
def agl(r a b):zn r (a++b)=zn (zn r a) b:=by simp[zn]
def agm(l):yl l<4294967296:=by unfold yl;omega
end yj
section
open _root_.Go.RowKit yj
def asa{r c}(a:r<4294967296)(b:c<256):r^^^c<4294967296:=Nat.xor_lt_two_pow (n:=32) a oo
def asb(h:Nat)(a:h<4294967296):bits .and .u32 h 1=((h%2:Nat)):=by have:=u32_and_nat h 1 a oo;grind
def asc(r c:Nat)(a:r<4294967296)(g:c<256)(w):eE am 318 #[.int .u32 r,Bv c] w λ e b=>ea e (.int .u32 (QL r c))/\w=b:=by
 have j:=u32_xor_nat r c a (by omega);have b:=asa a g;go_enter func318,ntmps318;go_wp2;go_loop[0,10](λ s i=>∃k:Nat,k<=8/\i= .int .i64 k/\s= .int .u32 (halves k (r^^^c):Nat))(λ _ i=>8-(intOf i).toNat);case atStart=>exact⟨0,by omega,rfl,rfl⟩
 case round=>obtain⟨k,o,rfl,rfl⟩:=hrel;have l:=agj k b;generalize d:halves k _=h at*;have s:=Lib.H d;clear d j b;have p:=asb h l;have f:bits _ _ (h/2) 2197175160=((h/2^^^YM:Nat)):=u32_xor_nat (h/2) 2197175160 (by omega) (by omega);have m:=Lib.H f;clear f;by_cases q:k<8;(·by_cases i:h%2=1;(·(have n:((h:Int)%2==1)=true:=ik);have e:=Lib.H i;clear i;go_wp2;go_round;(case rel=>exact⟨k+1,by omega,by go_num,by rw[m.U];show _=nR _ (half _:Nat);rw[s.U,half,QJ e.U]⟩);case measure=>simp[intOf];omega);·(have n:((h:Int)%2==1)=false:=ik);have e:=Lib.H i;clear i;go_wp2;go_round;(case rel=>exact⟨k+1,by omega,by go_num,by show _=nR _ (half _:Nat);rw[s.U,half,QI e.U];rfl⟩);case measure=>simp[intOf];omega);·go_wp2;go_ret;(have:k=8:=by omega);subst this;exact⟨by rw[<-s.U];rfl,rfl⟩
def flat(l:List ByteArray):List UInt8:=(l.map (λ s=>s.data.toList)).flatten
def ago(s:ByteArray)(k)(h:k<s.size):s.data.toList.take (k+1)=s.data.toList.take k++[s[k]]:=by rw[List.take_succ_eq_append_getElem (by simpa using h)];rfl
def asd(a:List ByteArray)(j)(b:j<a.length):flat (a.take (j+1))=flat (a.take j)++JN (a.getD j oR):=by
 have c:a.take (j+1)=a.take j++[a[j]]:=by rw[uk,List.getElem?_eq_getElem b];rfl
 rw[c];simp only[flat,EF,List.flatten_append,tj,AC,List.flatten_cons,List.flatten_nil,uV,List.getD,List.getElem?_eq_getElem b,Option.getD_some]
def CG(a:List ByteArray)(j:Nat):Nat:=zn 4294967295 (flat (a.take j))
def ase(a j):CG a j<4294967296:=agk _ oo
def asf(a j)(b:j<a.length):CG a (j+1)=zn (CG a j) (JN (a.getD j oR)):=by unfold CG;rw[asd a j b,agl]
def asg(r)(s:ByteArray)(k)(h:k<s.size):zn r (s.data.toList.take (k+1))=QL (zn r (s.data.toList.take k)) (s[k]).toNat:=by rw[ago s k h,agl];rfl
def ash(a):4294967295-CG a a=yl (flat a):=by unfold CG yl;rw[wy]
def asi(r:Nat)(h:r<4294967296):bits .xor .u32 IntKind.u32.max r=4294967295-r:=by
 have a:=u32_xor_nat 4294967295 r (by omega) h;have c:4294967295^^^r=4294967295-r:=by apply Nat.eq_of_testBit_eq;intro i;rw[Nat.testBit_xor,show(4294967295)-r=2^32-(r+1)from by omega,Nat.testBit_two_pow_sub_succ h,show(4294967295)=2^32-1 from rfl,Nat.testBit_two_pow_sub_one];by_cases b:i<32;simp[b];simp[b];exact Nat.testBit_lt_two_pow (qk h (Nat.pow_le_pow_right (n:=2) (by omega) (by omega:32<=i)))
 rw[c]at a;have i:((4294967295-r:Nat):Int)=4294967295-r:=by omega
 rw[<-i];exact a
def asj(b off n cap)(a)(w)(m:n<=pJ)(g:a.length=n)(h:∀s∈a,s.size<=pJ)(c:∀j,j<n->w.cell? ⟨b,off+j,none⟩=some (a.getD j oR)):eE am 252 #[nx b off n cap] w λ e x=>e= .returned (bs (yl (flat a)))/\w=x:=by
 unfold pJ at m;have d:=Lib.H g;have o:=Lib.H h;have p:=Lib.H c;clear g h c;go_enter func252,ntmps252;go_wp2;go_loop[3,9](λ r i=>∃j:Nat,j<=n/\i= .int .i64 j/\r= .int .u32 (CG a j:Nat))(λ _ i=>n-(intOf i).toNat);case atStart=>exact⟨0,by omega,rfl,rfl⟩
 case round=>obtain⟨j,A,rfl,rfl⟩:=hrel;have l:=ase a j;by_cases f:j<n;(·have c:=p.U j f;(have t:(a.getD j oR).size<=pJ:=by (have k:j<a:=by rw[d.U];exact f);rw[List.getD,List.getElem?_eq_getElem k];exact o.U _ (Qu k));have u:HO _:=asf a j (by rw[d.U];exact f);unfold pJ at t;generalize a.getD j _=s at*;generalize CG a j=r at*;go_wp2;go_loop[3,15](λ q i=>∃k:Nat,k<=s.size/\i= .int .i64 k/\q= .int .u32 (zn r (s.data.toList.take k):Nat))(λ _ i=>s.size-(intOf i).toNat);(case atStart=>exact⟨0,by omega,rfl,rfl⟩);case round=>obtain⟨k,B,rfl,rfl⟩:=hrel;have i:=agk (s.data.toList.take k) l;by_cases v:k<s.size;(·have y:HO _:=asg r s k v;have z:(s[k]).toNat<256:=(s[k]).toNat_lt;generalize zn r (s.data.toList.take k)=q at*;go_wp2_with(go_at_call 318;refine(asc _ _ i z _).M ?_;rintro e x ⟨rfl,rfl⟩);go_round;(case rel=>exact⟨k+1,by omega,rfl,by rw[y.U]⟩);case measure=>simp[intOf];omega);·go_wp2;(have:k=s.size:=by omega);subst this;go_round;(case rel=>exact⟨j+1,by omega,by go_num,by rw[u.U,GA (by simp)]⟩);case measure=>simp[intOf];omega);·(have e:j=n:=by omega);have t:=asi _ l;(have i:HO (4294967295-CG a j=yl (flat a)):=by rw[e,<-d.U];exact ash a);clear e;generalize CG a j=r at*;go_wp2;go_ret;exact⟨by rw[<-i.U];exact Ru (λ x=>Db (.int _ x)) (by unfold wrap64;omega),rfl⟩
end
section
open _root_.Go.RowKit yj
def of2(s t)(w:cJ)(h:s.size<=pJ)(j:t.size<=pJ):eE am 252 #[xf w 0 2] (w.alloc (.cells #[.string s,.string t] 9)) λ e a=>e= .returned (bs (yl (flat [s,t])))/\w.alloc (.cells #[s,t] 9)=a:=by refine asj w 0 2 2 _ _ (et) rfl (by simpa using⟨h,j⟩) λ j h=>?_;obtain rfl|rfl:j=0\/j=1:=oo;simp[List.getD];simp[List.getD]
end
section
open _root_.Go.RowKit yj
def Lh:am.underlying 221=some (.slice 5):=kk
def QM:am.underlying 5=some (.int .u8):=kk
def Li:am.underlying 9=some .string:=kk
def pW(n:Nat):List UInt8:=[UInt8.ofNat (n/16777216),UInt8.ofNat (n/65536%256),UInt8.ofNat (n/256%256),UInt8.ofNat (n%256)]
def asl(w:cJ)(a b c d):zw am (convert 221 9 (.slice (some {block:=w,off:=0}) 4 4)) (w.alloc (.cells #[Bv a,Bv b,Bv c,Bv d] 5))= .ok (strOfNums [a,b,c,d]) (w.alloc (.cells #[Bv a,Bv b,Bv c,Bv d] 5)):=by refine run_convert_bytes_arg _ 221 5 Lh QM w 0 4 4 _ rfl ?_ 9 Li;intro i d;obtain rfl|rfl|rfl|rfl:i=0\/i=1\/i=2\/i=3:=oo;all_goals simp[List.getD]
def asm(n:Nat):strOfNums [(n/16777216),(n/65536%256),(n/256%256),(n%256)]=⟨(pW n)⟩:=by exact oK
def agq(n:Nat)(b:n<4294967296)(w):eE am 251 #[bs n] w λ e a=>ea e (.string ⟨(pW n)⟩)/\bi w w a:=by have a:=asl w (n/16777216) (n/65536%256) (n/256%256) (n%256);rw[asm]at a;go_enter func251,ntmps251;go_wp2_with fail;go_ret;exact⟨rfl,lz⟩
end
section
open _root_.Go.RowKit yj
def j5(l:List UInt8):Nat:=l.foldl (λ n c=>n*256+c.toNat) 0
def ags(l c):j5 (l++[c])=j5 l*256+c.toNat:=by simp[j5]
def agt(l):j5 l<256^l.length:=by
 have a:∀(l:List UInt8)(n k:Nat),n<256^k->l.foldl (λ n c=>n*256+c.toNat) n<256^(k+l):=by intro l;induction l with|nil=>intro n k h;simpa using h|cons c l b=>intro n k h;(have h:n*256+c.toNat<256^(k+1):=by rw[Nat.pow_succ];have:=c.toNat_lt;omega);grind
 have:=a l 0 0 (by simp);simpa[j5]using this
def asn(s:ByteArray)(k)(a:k<=4):j5 (s.data.toList.take k)<4294967296:=by have a:=agt (s.data.toList.take k);have a:(s.data.toList.take k).length<=4:=oV;have b:256^(s.data.toList.take k).length<=256^4:=Nat.pow_le_pow_right oo a;omega
def agu(s:ByteArray)(k)(a:k<=3):j5 (s.data.toList.take k)<16777216:=by have a:=agt (s.data.toList.take k);have a:(s.data.toList.take k).length<=3:=oV;have b:256^(s.data.toList.take k).length<=256^3:=Nat.pow_le_pow_right oo a;omega
def aso(n c:Nat)(b:n<16777216)(d:c<256):bits .or .i64 (n*256) c=n*256+c:=by
 have a:=nat_join 8 (n*256) c (by omega) (by omega);have e:(n*256)=((n*256:Nat):Int):=by omega
 show IR.wrap ((BitVec.ofInt 64 _|||BitVec.ofInt 64 _).toNat:Int)=_;rw[e,BitVec.toNat_or,ofInt_u64 _ (by omega),ofInt_u64 c (by omega),a];exact aa8
def YP(s)(d:4<=s.size)(a:s.size<=pJ)(w):eE am 311 #[.string s] w λ e k=>e= .returned (bs (j5 (s.data.toList.take 4)))/\w=k:=by
 unfold pJ at a;go_enter func311,ntmps311;go_wp2;go_loop[3,5](λ n i=>∃k:Nat,k<=4/\i= .int .i64 k/\n= .int .i64 (j5 (s.data.toList.take k):Nat))(λ _ i=>4-(intOf i).toNat);case atStart=>exact⟨0,by omega,rfl,rfl⟩
 case round=>obtain⟨k,f,rfl,rfl⟩:=hrel;by_cases g:k<4;(·have i:=agu s k (by omega);(have e:k<s.size:=by omega);(have b:HO (j5 (s.data.toList.take (k+1))=j5 (s.data.toList.take k)*256+(s[k]).toNat):=by show _=_;rw[ago s k e,ags]);have c:(s[k]).toNat<256:=(s[k]).toNat_lt;generalize j5 _=n at*;have h:=aso n _ i c;go_wp2;go_round;(case rel=>exact⟨k+1,by omega,by go_num,by rw[b.U];exact Ru _ (by omega)⟩);case measure=>simp[intOf];omega);·(have n:k=4:=by omega);subst n;go_wp2;go_ret;exact⟨rfl,rfl⟩
def signed(n:Nat):Int:=if n<2147483648 then(n:Int)else(n:Int)-4294967296
end
section
open _root_.Go.RowKit yj
def iv(l:List UInt8):List UInt8:=pW l++pW (yl (pW l++l))++l
def YT(n):(pW n).length=4:=rfl
def asE(n):(ByteArray.mk (pW n)).size<=pJ:=by show 4<=pJ;unfold pJ;omega
def asF(n s):flat [⟨(pW n)⟩,s]=pW n++s.data.toList:=by simp[flat]
def asG(s)(j:s.size<2147483648)(w):eE am 179 #[.string s] w λ e a=>ea e (.string ⟨(iv s.data.toList)⟩)/\bi w w a:=by
 go_enter func179,ntmps179;go_wp2_with fail;refine(agq _ oo w).M ?_;rintro e b ⟨rfl,a⟩;go_wp2_with fail;refine(of2 _ s b (asE _) (et)).M ?_;rintro e d ⟨rfl,rfl⟩;have f:=agm (flat [⟨(pW s.size)⟩,s]);generalize g:yl _=c at*;have h:=Lib.H g;go_wp2_with fail;refine(agq c f _).M ?_;rintro e d ⟨rfl,i⟩;have k:=YT s.size;have l:=YT c;go_wp2_with fail;go_ret;refine⟨?_,(((a.alloc (by simpa using a.size) _).J (i.M (by have:=a.size;simp;omega))))⟩;have e:iv s.data.toList=pW s.size++pW c++s.data.toList:=by unfold iv;rw[show s.data.toList=s.size from rfl,<-asF,h.U]
 rw[e];exact oK
def str(l:List UInt8):eQ:= .string ⟨l⟩
def Jj(s):OW s=str s.data.toList:=by unfold str;simp
def UR(s:ByteArray)(a b):OW (s.extract a b)=str ((s.data.toList.drop a).take (b-a)):=by rw[Jj];congr 1;simp[List.extract_eq_take_drop]
def YU(B w n):bi B w (w.drewN n):=⟨rfl,rfl,rfl,.refl,λ _ _=>rfl⟩
def str_inj{a b}(h:str a=str b):a=b:=by unfold str at h;grind
def data_extract(s:ByteArray)(a b):JN (s.extract a b)=(s.data.toList.drop a).take (b-a):=by have h:=UR s a b;rw[Jj]at h;exact str_inj h
def QQ(s:ByteArray)(a b)(h:s.size<=b):JN (s.extract a b)=s.data.toList.drop a:=by rw[data_extract,GA (ik)]
def agD(s:ByteArray)(a b)(h:s.size<=b):OW (s.extract a b)=str (s.data.toList.drop a):=by rw[Jj,QQ s a b h]
def D8{B a w}(h:bi B a w)(n):bi B a (w.drewN n):=h.J (YU B w n)
def iG(l:List UInt8):List UInt8×List UInt8×Nat:=if l.length<8 then([],l,3)else if 1048576<j5 (l.take 4)then([],l,6)else if(l.drop 8)<j5 (l.take 4)then([],l,3)else if yl (l.take 4++(l.drop 8).take (j5 (l.take 4)))≠j5 ((l.drop 4).take 4)then([],l,5)else((l.drop 8).take (j5 (l.take 4)),(l.drop 8).drop (j5 (l.take 4)),0)
def Lg(a:List UInt8):zs ((iG a).2.2≠0):=.m
def YV{P f m}{w:cJ}{n v}(h:eE P f m (w.drewN n) λ e w'=>ea e v/\w.drewN n=w'):eE P f m (w.drewN n) λ e f=>e=v/\∃m,f=w.drewN m:=h.M oV
def asH(s t c)(w:cJ)(h:s.size<=pJ)(a:t.size<=pJ)(b:yl (flat [s,t])=c):eE am 252 #[xf w 0 2] (w.alloc (.cells #[s,t] 9)) λ e d=>e= .returned (bs c)/\w.alloc (.cells #[s,t] 9)=d:=by rw[<-b];exact of2 s t w h a
def asI(s)(y:s.size<=140737488351232)(w):eE am 239 #[.string s] w λ e i=>e= .returned (.tuple #[str (iG s.data.toList).1,str (iG s.data.toList).2.1,bs ((iG s.data.toList).2.2)])/\bi w w i:=by
 have b:s.data.toList=s.size:=rfl;by_cases z:s.size<8;·(have a:iG s.data.toList=([],s.data.toList,3):=by unfold iG;rw[QJ oo]);rw[a];clear b a;go_enter func239,ntmps239;go_wp2_with fail;go_ret3;exact⟨by rw[Jj s];rfl,bi.refl ..⟩
 have d:(s.data.toList.drop 8)=s.size-8:=by rw[DM];rfl
 by_cases f:1048576<j5 (s.data.toList.take 4);·(have a:iG s.data.toList=([],s.data.toList,6):=by unfold iG;rw[QI (by omega),QJ f]);rw[a];clear b a d;exact tA s
 by_cases A:s.size-8<j5 (s.data.toList.take 4);·(have a:iG s.data.toList=([],s.data.toList,3):=by unfold iG;rw[QI oo,QI f,QJ (by omega)]);rw[a];clear b a d;exact tA s
 have a:iG s.data.toList=if yl (flat [s.extract 0 4,(s.extract 8 s.size).extract 0 (j5 (s.data.toList.take 4))])≠j5 ((s.extract 4 s.size).data.toList.take 4)then([],s.data.toList,5)else((s.data.toList.drop 8).take (j5 (s.data.toList.take 4)),(s.data.toList.drop 8).drop (j5 (s.data.toList.take 4)),0):=by (have g:flat [s.extract 0 4,(s.extract 8 s.size).extract 0 (j5 (s.data.toList.take 4))]=s.data.toList.take 4++(s.data.toList.drop 8).take (j5 (s.data.toList.take 4)):=by simp only[flat,tj,AC,List.flatten_cons,List.flatten_nil,uV];rw[data_extract,data_extract,QQ _ _ _ .refl];simp);rw[g,QQ _ _ _ .refl];unfold iG;rw[QI oo,QI f,QI oo]
 have j:=Lib.H a;clear a;clear b d;go_enter func239,ntmps239;go_wp2_with fail;go_quiet((go_at_call 311;exact YV (YP _ (by first|(simp;omega)|omega) (by unfold pJ;first|(simp;omega)|omega) _)));generalize j5 _=n at*;generalize k:j5 _=h at*;have B:=Lib.H k;clear k;go_wp2_with fail;have l:(s.extract 0 4).size<=pJ:=by unfold pJ;simp;omega
 have o:((s.extract 8 s.size).extract 0 n).size<=pJ:=by unfold pJ;simp;omega
 have q:=Lib.H l;have r:=Lib.H o;clear l o;generalize p:yl _=c at*;have t:=Lib.H p;clear p;go_region_with(go_at_call 252;refine(asH _ _ _ _ q.U r.U t.U).M ?_;rintro e i ⟨rfl,rfl⟩);all_goals by_cases e:c=h;(·(have u:((c:Int)!=h)=false:=by grind);have i:=Lib.H e;clear e;go_wp2_with fail;go_quiet(fail);go_wp2_with fail;go_ret3;refine⟨?_,?_⟩;rw[j.U,QI (by simp[i.U])];(have g:OW ((s.extract 8 s.size).extract 0 n)=str ((s.data.toList.drop 8).take n):=by rw[UR,QQ _ _ _ .refl];simp);(have v:∀m,(s.extract 8 _).size<=m->OW _=str ((s.data.toList.drop 8).drop n):=λ m x=>by rw[agD _ _ _ x,QQ _ _ _ .refl]);rw[<-g,<-v (s.size-8) (by simp)];rfl;repeat(first|exact bi.refl _ _|refine D8 ?_ _|refine Below.drew ?_|refine Below.alloc ?_ (X9) _));·(have u:((c:Int)!=h)=true:=by rw[bne_iff_ne];omega);have i:=Lib.H e;clear e;go_wp2_with fail;go_ret3;refine⟨?_,?_⟩;rw[j.U,QJ i.U,Jj s];rfl;repeat(first|exact bi.refl _ _|refine D8 ?_ _|refine Below.drew ?_|refine Below.alloc ?_ (X9) _)
end
section
open _root_.Go.RowKit yj
def asL(x)(cap j:Nat)(c)(h:ey x.data.toList j c):(bytesRow x cap)[j]?=some (.int .u8 c.toNat):=by
 have a:j<x.data.size:=by grind
 unfold bytesRow;grind
def bytesOf(w x):∃a b,zw am (convert 9 221 (.string x)) w= .ok (.slice (some {block:=w,off:=0}) x.size a) b/\x.size<=a/\bi w w b/\w<b.heap.size/\(∀j c,ey x.data.toList j c->b.cell? ⟨w,j,none⟩=some (.int .u8 c.toNat))/\(∀j,j<x.size->b.frozen? (oi w j)=false):=by
 have h:=run_bytes_of_string w 9 221 5 x Li Lh QM;have e:=grownCap_ge w x.size 0 5;generalize grownCap w _ 0 5=a at*;refine⟨a,_,h,e,(((bi.refl ..).drew).alloc .refl _),by simp,λ j c f=>?_,?_⟩;have d:(w.drew.alloc _).heap[w.heap.size]?=some (.cells (bytesRow x a) 5 ((bytesRow x a).size,(bytesRow x a).size+1)):=rC _ _;rw[ta _ _ j _ _ _ d];exact asL x a j c f;intro j i;have d:(w.drew.alloc _).heap[w.heap.size]?=some (.cells (bytesRow x a) 5 ((bytesRow x a).size,(bytesRow x a).size+1)):=rC _ _;have g:(bytesRow x a).size=a:=by simp[bytesRow];omega
 simp only[World.frozen?,d];simp[g];omega
end
section
section
variable {P:xm} {ops:Array Oper} {Q:Exit→Act→cJ→Prop} {md:Region.Mode} {S:cJ→Prop} {m:Nat→Bool}
def pZ(P:xm)(f:Region.Mode)(b:Array Oper)(Q:Exit->Act->cJ->Prop)(S:cJ->Prop)(m:Nat->Bool):Nat->Array Bool->Act->cJ->Prop|0,c,a,w=>nF f b c=[]/\Q .normal a w|n+1,c,a,w=>(nF f b c=[]->Q .normal a w)/\∀i,i∈nF f b c->wpOp P b Q i (λ e d=>(m i=false->S d)/\pZ P f b Q S m n (c.setIfInBounds i true) e d) a w
def pZ.any{n d a w}(h:pZ P md ops Q S m n d a w):wpAny P md ops Q n d a w:=by induction n generalizing d a w with|zero=>exact h|succ n b=>exact⟨h.1,λ i c=>wpOp_mono (λ _ _ k=>b k.2) (h.2 i c)⟩
def pZ.take{i o v n ls a w}(q:ops[i]?=some o)(L:Region.noSelect ops=true)(D:(sD ops.size).all (λ k=>! m k||Region.waitsFor md ops k i)=true)(E:Region.free md ops ls i=true)(F:(nF md ops ls).contains i=true)(M:Mn Q o v)(N:YieldsIf P ops S o v a)(O:S w)(h:pZ P md ops Q S m n (ls.setIfInBounds i true) (a.put o.dst v) w):pZ P md ops Q S m (n+1) ls a w:=by
 have R:∀k,m k=true->k<ops.size->∃A,ops[k]?=some A/\∃e∈A.after,Pl md e=true/\e.on=i:=λ k T U=>by have h:=KD.1 D k (Qe.2 U);rw[T,Bool.not_true,Bool.false_or]at h;exact Region.waitsFor_spec h
 have G:=Region.noSelect_spec L;have V:=λ j d B W t x=>Region.free_spec q E j d B W t x;have X:i∈nF md ops ls:=by simpa using F
 clear E F D;have Y:∀(ls:Array _)j d,i∈nF md ops ls->j∈nF md ops ls->ops[j]?=some d->∀e∈d.after,Pl md e=true->e.on≠i:=by intro ls j d Z f B e g r D;have u:=(Ow.1 Z).1;obtain⟨F,I,E⟩:=(Ow.1 f).2;(obtain rfl:F=d:=by rw[B]at I;exact(AI I).S);have l:=E e g r;rw[D]at l;by_cases g:i<ls.size;(·rw[xi,Array.getElem?_eq_getElem g]at u l;simp at u l;rw[u]at l;cases l);·rw[xi,Array.getElem?_eq_none oo]at l;cases l
 have D:∀(n:Nat)(ls:Array _)(a:Act)(w:cJ),(∀j d,ops[j]?=some d->j≠i->ls.getD j true=false->(∀e∈d.after,Pl md e=true->e.on≠i)->o.apart ops d=true)->i∈nF md ops ls->YieldsIf P ops S o v a->S w->pZ P md ops Q S m n (ls.setIfInBounds i true) (a.put o.dst v) w->pZ P md ops Q S m (n+1) ls a w:=by intro n;induction n with|zero=>intro ls a w _ r y s H;refine⟨λ z=>(by rw[z]at r;cases r),λ j g=>?_⟩;by_cases f:j=i;subst f;exact y.wpOp q s ⟨λ _=>s,H⟩;·have k:=ready_mono g f;rw[H.1]at k;cases k|succ n e=>intro ls a w J r y s H;refine⟨λ z=>(by rw[z]at r;cases r),λ j g=>?_⟩;by_cases f:j=i;subst f;exact y.wpOp q s ⟨λ _=>s,H⟩;·obtain⟨d,p,-⟩:=(Ow.1 g).2;have x:=Y ls j d r g p;(have Y:m j=false:=by cases E:m j with|false=>rfl|true=>obtain⟨A,F,L,B,s,u⟩:=R j E (Array.getElem?_eq_some_iff.1 p).1;rw[F]at p;obtain rfl:=AI p;exact QU u (x L B s));have R:=wpOp_putIf p (J j d p f (Ow.1 g).1 x) (λ C b=>G i o C b q) (λ C b=>G j d C b p) M y (H.2 j (ready_mono g f));refine wpOp_mono (λ q M k=>⟨k.2.1,e _ q M (λ q M o G t=>(J q M o G ?_)) (ready_mono r (Ne.S f)) k.1 (k.2.1 Y) ?_⟩) R;by_cases K:j=q;subst K;exact(Ow.1 g).1;rw[getD_set_ne _ K]at t;exact t;rw[Array.setIfInBounds_comm _ _ f];exact k.2.2
 exact D n ls a w V X N O h
def pZ.step{i o n d a w}(c:nF md ops d=[i])(e:ops[i]?=some o)(h:∀K:Act->cJ->Prop,Shut (∀b w',(m i=false->S w')->pZ P md ops Q S m n (d.setIfInBounds i true) b w'->K b w')->if AT o (yielded ops a.tmps)=true then Oper.wp P o a w K Q else K (a.put o.dst undef) w):pZ P md ops Q S m (n+1) d a w:=⟨λ z=>(by rw[z]at c;cases c),λ j d=>by rw[c]at d;obtain rfl:=xd.1 d;exact wpOp_step e λ K f=>h K λ b w' g k=>f b w' ⟨g,k⟩⟩
def pZ.done{n c a w}(b:nF md ops c=[])(h:Q .normal a w):pZ P md ops Q S m n c a w:=by cases n with|zero=>exact⟨b,h⟩|succ n=>exact⟨λ _=>h,λ i c=>by rw[b]at c;cases c⟩
def pZ.region{b a w}(c:I3 P)(h:pZ P .any ops Q S m ops.size (Array.replicate ops.size false) a w.drew):(Code.region b ops true).wp P Q a w:=wp_region_any c h.any
end
end
def nU{w w' B g o}(h:bi B w w')(a:w.heap[g]?=some o)(b:g<B):w'.heap[g]?=some o:=by rw[h.block g b];exact a
def Jf{w w' F e k n B v a}(h:Sl w F e k v n a)(b:bi B w w')(c:w<=B):Sl w' F e k v n a:=h.V λ k _ h=>b.block k oo
def UJ{w g i C t d}(v)(a:w.heap[g]?=some (.cells C t d))(b:C[i]?=some v):∀d C,(Go.Sort.grow (redrawn w d) C).cell? ⟨g,i,none⟩=some v:=cell_regrown (aO a b)
def zm{w F e b n v c}(h:Sl w F e b v n c){k}(a:v.ownBlock=some k):F k/\k<w:=by rcases h.2 with⟨rfl,_⟩|⟨g,h,h,h,rfl,h,h,_⟩;simp[ON]at a;simp[ON]at a;grind
def strCells(l:List ByteArray):List eQ:=l.map OW
def Ni(a:eQ)(b:Nat)(c:cJ)(d:Nat->Prop)(e:List ByteArray)(f:ByteArray):zs (∃g h,zw am (pV #[172,172] 172 #[a,.slice (some {block:=b,off:=0}) 1 1]) c= .ok g h/\Sl h (λ i=>(d i/\i<c)\/i=c) 9 1 g (e+1) (strCells (e++[f]))/\aA c h (λ j=>a.ownBlock=j)):=.m
def age:am.underlying 172=some (.slice 9):=kk
def Tryz.QK:(am.info? 9).map (λ i=>(i.zero,i.size,i.bytes))=some (some (.string oR),1,16):=kk
def UK(l x):strCells (l++[x])=strCells l++[.string x]:=by simp[strCells]
def strCells_length(l):(strCells l)=l.length:=by simp[strCells]
def UL{w}{F}{v}{l}(x){r}(h:Sl w F 9 1 v l.length (strCells l))(b:w.heap[r]?=some (.cells #[.string x] 9))(g:l.length<=1000000):Ni v r w F l x:=by obtain⟨k,c,d,e,f⟩:=sB Tryz.QK;have:=Fu 172 172 9 k oR 1 16 age c d e f rfl h (jn.laid (c:=1) b rfl (by intro u a;simp at a;subst a;rfl)) (et) oo;rw[UK];exact this
def agf{w G c cap l}(h:Sl w G 9 1 (.slice c l.length cap) l.length (strCells l)){k x}(d:l[k]?=some x):∃b a,c=some ⟨b,a,none⟩/\w.cell? ⟨b,a+k,none⟩=some (.string x):=by have g:=(List.getElem?_eq_some_iff.1 d).1;obtain⟨b,a,i,e,_,_,_,_,f⟩:=h.at oo;simp only[cL]at e;obtain⟨rfl,-,rfl⟩:=e;exact⟨b,a,rfl,(f k _ (by simp[strCells,d])).1⟩
section
structure Vl where
 re:Int
 im:Int
def Lx(a b:Vl):zs (.agg #[a.re,a.im,b.re,b.im]:eQ):=.m
structure Rc where
 key:Int
 val:Vl
def Me:zs (List Rc×Nat):=.m
structure Is where
 op:Int
 a:Int
structure Nd where
 id:Int
 kind:Int
 bA:List Int
 prog:List Is
 par:Int
 ur:List Int
def LG(a:List Nd):zs (∀b∈a,b.ur.length=8):=.m
structure Sp where
 kind:Int
 node:Nd
 reset:Bool
def Kc(a:List Sp):zs (∀b∈a,b.node.bA.length<=3/\b.node.prog.length<=24/\b.node.ur.length=8):=.m
def Kj(a:List Sp):zs (∀b∈a,b.node.ur.length=8):=.m
def Mg(a:Sp):zs (a.node.bA.length<=1000/\a.node.prog.length<=1000):=.m
structure Ln where
 sink:Int
 bA:Int
 key:Int
 val:Vl
def NE(a:Ln):zs ([a.sink,a.bA,a.key,a.val.re,a.val.im]):=.m
structure En where
 node:Int
 key:Int
 c0:Vl
 c1:Vl
def Nn(a:En):zs ([a.node,a.key,a.c0.re,a.c0.im,a.c1.re,a.c1.im]):=.m
structure Mf where
 dh:Int
 kC:Int
 cZ:List Int
 graph:List Nd
 cY:List En
 U:List Ln
 fV:List Sp
def Cs{c:Type}(k:Nat)(R:c->List eQ->Prop):List c->List eQ->Prop|[],a=>a=[]|x::l,a=>∃b d,a=b++d/\b=k/\R x b/\Cs k R l d
section
variable {α:Type} {k:Nat} {R S:α→List eQ→Prop} {l:List α} {xs:List eQ}
def Cs.length(h:Cs k R l xs):xs=l.length*k:=by induction l generalizing xs with|nil=>simp only[Cs]at h;simp[h]|cons x l a=>obtain⟨b,c,rfl,d,_,e⟩:=h;grind
def Cs.append{b}{a}(h:Cs k R l xs)(c:Cs k R b a):Cs k R (l++b) (xs++a):=by induction l generalizing xs with|nil=>simp only[Cs]at h;subst h;simpa using c|cons x l d=>obtain⟨e,f,rfl,g,i,j⟩:=h;exact⟨e,f++a,by simp,g,i,d j⟩
def Cs.O{x}{a}(h:a.length=k)(b:R x a):Cs k R [x] a:=⟨a,[],by simp,h,b,rfl⟩
def Cs.M(h:Cs k R l xs)(b:∀x a,x∈l->R x a->S x a):Cs k S l xs:=by induction l generalizing xs with|nil=>exact h|cons x l c=>obtain⟨a,d,rfl,e,f,g⟩:=h;exact⟨a,d,rfl,e,b x a (by simp) f,c g λ y i j=>b y i (qg j)⟩
def Cs.at(h:Cs k R l xs){i}{x:α}(b:l[i]?=x):∃a,a.length=k/\R x a/\∀j u,a[j]?=some u->xs[i*k+j]?=some u:=by induction l generalizing xs i with|nil=>simp at b|cons y l c=>obtain⟨a,d,rfl,e,f,g⟩:=h;cases i with|zero=>grind|succ i=>grind
def Cs.take(h:Cs k R l xs)(n):Cs k R (l.take n) (xs.take (n*k)):=by induction l generalizing xs n with|nil=>simp only[Cs]at h;subst h;simp[Cs]|cons x l b=>obtain⟨c,d,rfl,a,e,f⟩:=h;cases n with|zero=>simp[Cs]|succ n=>refine⟨c,d.take _,?_,a,e,b f n⟩;rw[List.take_append,Nat.succ_mul,GA oo,a,show n*k+k-k=n*k by omega]
def Cs.drop(h:Cs k R l xs)(n):Cs k R (l.drop n) (om xs (n*k)):=by induction l generalizing xs n with|nil=>simp only[Cs]at h;subst h;simp[Cs]|cons x l d=>obtain⟨a,e,rfl,b,f,c⟩:=h;cases n with|zero=>rw[Nat.zero_mul];exact⟨a,e,rfl,b,f,c⟩|succ n=>rw[List.drop_succ_cons,List.drop_append,Nat.succ_mul,b,show n*k+k-k=n*k by omega,Oz (show a.length<=n*k+k by omega),xe];exact d c n
end
def At(w:cJ)(F:Nat->Prop)(c:Option Addr)(a:List eQ):Prop:=∀(j:Nat)u,a[j]?=some u->∃b a,c=some ⟨b,a,none⟩/\F b/\w.cell? ⟨b,a+j,none⟩=u
def bS{c}(w:cJ)(F:Nat->Prop)(k:Nat)(R:c->List eQ->Prop)(v:eQ)(l:List c):Prop:=∃d a b,v= .slice d l a/\l<=a/\a<=pJ/\Cs k R l b/\hJ b/\At w F d b
def Flat{a:Type}(b:a->List eQ)(x:a)(c:List eQ):Prop:=c=b x
def At.V{w w' F u j}(h:At w F u j)(d:∀b,F b->b<w->cm w' b=w.heap[b]?):At w' F u j:=λ j u e=>by obtain⟨b,f,g,a,c⟩:=h j u e;exact⟨b,f,g,a,(cJ.cell?_of_block (d b a (uK c))).J c⟩
def At.M{w F G u j}(h:At w F u j)(a:oF w F G):At w G u j:=λ j u c=>by obtain⟨b,d,e,f,F⟩:=h j u c;exact⟨b,d,e,a b (uK F) f,F⟩
section
variable {α:Type} {w w':cJ} {F G:Nat→Prop} {k:Nat} {R S:α→List eQ→Prop} {v:eQ} {l:List α}
def bS.V(h:bS w F k R v l)(c:∀b,F b->b<w->cm w' b=w.heap[b]?)(d:∀x a,x∈l->R x a->S x a):bS w' F k S v l:=by obtain⟨e,f,g,i,j,m,n,o,p⟩:=h;exact⟨e,f,g,i,j,m,n.M d,o,p.V c⟩
def bS.M(h:bS w F k R v l)(c:oF w F G)(d:∀x a,x∈l->R x a->S x a):bS w G k S v l:=by obtain⟨e,f,g,i,j,m,n,o,p⟩:=h;exact⟨e,f,g,i,j,m,n.M d,o,p.M c⟩
def bS.di(h:bS w F k R v l)(c:∀b,F b->b<w->cm w' b=w.heap[b]?):bS w' F k R v l:=h.V c aH
def bS.vB(h:bS w F k R v l){B}(a:bi B w w')(c:w<=B):bS w' F k R v l:=h.di λ b _ d=>a.block b oo
def bS.qD(h:bS w F k R v l){T}(a:aA w w' T)(c:Al F T):bS w' F k R v l:=h.di λ b d e=>a.block b e (c b d)
def bS.E(h:bS w F k R v l):∃b a,v= .slice b l a/\l<=a/\a<=pJ:=by obtain⟨b,a,c,d,e,f,_⟩:=h;exact oK
def bS.at(h:bS w F k R v l){i}{x:α}(m:l[i]?=x)(A:0<k):∃b c d a,v= nx b c l d/\F b/\b<w/\a.length=k/\R x a/\∀j u,a[j]?=some u->w.cell? ⟨b,c+i*k+j,none⟩=some u:=by obtain⟨B,d,C,n,D,E,o,G,f⟩:=h;obtain⟨a,p,q,g⟩:=o.at m;obtain⟨u,r⟩:∃u,a[0]?=some u:=qj;obtain⟨b,c,rfl,s,t⟩:=f _ _ (g 0 u r);refine⟨b,c,d,a,n,s,uK t,p,q,λ j u y=>?_⟩;obtain⟨H,I,e,_,z⟩:=f _ _ (g j u y);simp only[BY,KH]at e;obtain⟨rfl,rfl,-⟩:=e;rw[Nat.add_assoc];exact z
def bS.news(h:bS w F k R v l)(f:0<k):∃a,Cs k R l a/\jn w k v l a:=by obtain⟨g,i,a,m,s,t,c,n,d⟩:=h;refine⟨a,c,c.length,n,g,i,m,λ o=>?_⟩;have x:=c.length;have:1*1<=l.length*k:=Nat.mul_le_mul o f;obtain⟨u,p⟩:∃u,a[0]?=some u:=mj;obtain⟨b,y,rfl,_,_⟩:=d 0 u p;refine⟨_,rfl,λ j u q=>?_⟩;obtain⟨z,A,e,_,r⟩:=d j u q;simp only[BY,KH]at e;obtain⟨rfl,rfl,-⟩:=e;rw[Hq];exact r
def Sl.rows{e}{a}(h:Sl w F e k v l a)(b:Cs k R l a)(c:hJ a)(o:0<k):bS w F k R v l:=by
 obtain⟨d,f,rfl,i,m⟩:=h.E;refine⟨d,f,a,rfl,i,m,b,c,λ j u p=>?_⟩;have n:0<l.length:=by refine Nat.pos_of_ne_zero λ g=>?_;have:=b.length;grind
 obtain⟨g,q,r,s,t,_,_,_,x⟩:=h.at n;grind
end
def bS.nil{a}(w)(F)(k)(R:a->List eQ->Prop):bS w F k R it []:=⟨none,0,[],rfl,.Y,et,rfl,by simp,λ j u b=>by simp at b⟩
def Cs.flat{b}{k}{c}{l:List b}{a}(h:Cs k (Flat c) l a):a=l.flatMap c:=by induction l generalizing a with|nil=>exact h|cons x l d=>obtain⟨g,i,rfl,_,e,f⟩:=h;rw[vL,e,d f]
def oh{a}{k}{enc}(b:∀x,(enc x)=k)(l:List a):Cs k (Flat enc) l (l.flatMap enc):=by induction l with|nil=>rfl|cons x l c=>exact⟨enc x,l.flatMap enc,vL,b x,rfl,c⟩
def ar6{e}{w:cJ}{k b}{R}{l:List e}{off}(h:∀(i)x,l[i]?=some x->∃a,a.length=k/\R x a/\hJ a/\∀j u,a[j]?=some u->w.cell? ⟨b,off+i*k+j,none⟩=some u):∃d,Cs k R l d/\hJ d/\∀j u,d[j]?=some u->w.cell? ⟨b,off+j,none⟩=some u:=by induction l generalizing off with|nil=>exact⟨[],rfl,by simp,λ j u c=>by simp at c⟩|cons x l m=>obtain⟨a,f,n,o,p⟩:=h 0 x rfl;(obtain⟨g,q,r,s⟩:=m λ i y t=>by obtain⟨v,z,A,B,C⟩:=h (i+1) y (az t);refine⟨v,z,A,B,λ j u c=>?_⟩;have:=C j u c;rw[Nat.succ_mul]at this;rw[show off+k+i*k+j=off+(i*k+k)+j by omega];exact this);refine⟨a++g,⟨a,g,rfl,f,n,q⟩,λ u v=>(wH.1 v).F (o u) (r u),λ j u c=>?_⟩;by_cases v:j<a.length;rw[List.getElem?_append_left v]at c;have:=p j u c;rw[Nat.zero_mul,PI]at this;exact this;rw[List.getElem?_append_right (by omega)]at c;have:=s _ u c;rw[f]at this;rw[show off+j=off+k+(j-k)by omega];exact this
def iC(n:Int):List eQ:=[n]
def vC(v:Vl):List eQ:=[v.re,v.im]
def kK(r:Rc):List eQ:=[r.key,r.val.re,r.val.im]
def MA(a:cJ)(b:Nat->Prop)(c:Nat->Nat)(d:Nat)(e:eQ×List Rc×Nat):zs (Sl a (λ f=>b f/\c f=d+1) 137 3 e.1 e.2.1 (e.2.1.flatMap kK)):=.m
def wm(i:Is):List eQ:=[i.op,i.a]
def lR(x:Ln):List eQ:=[x.sink,x.bA,x.key,x.val.re,x.val.im]
def j4(x:En):List eQ:=[x.node,x.key,x.c0.re,x.c0.im,x.c1.re,x.c1.im]
abbrev Ints(w)(F):=bS w F 1 (Flat iC)
abbrev Bm(w)(F):=bS w F 3 (Flat kK)
abbrev lL(w)(F):=bS w F 2 (Flat wm)
abbrev ly(w)(F):=bS w F 5 (Flat lR)
abbrev lS(w)(F):=bS w F 6 (Flat j4)
def ij(x:Nd)(a b:eQ):List eQ:=x.id:: x.kind::a::b:: x.par::x.ur.map (.int .i64)
def fw(w:cJ)(F:Nat->Prop)(x:Nd)(c:List eQ):Prop:=∃a b,c=ij x a b/\x.ur.length=8/\Ints w F a x.bA/\lL w F b x.prog
def nu(w:cJ)(F:Nat->Prop)(x:Sp)(b:List eQ):Prop:=∃a,b= .int .i64 x.kind::a++[.bool x.reset]/\fw w F x.node a
abbrev dj(w)(F):=bS w F 13 (fw w F)
abbrev gP(w)(F):=bS w F 15 (nu w F)
section
variable {w w':cJ} {F G:Nat→Prop} {x:Nd} {s:Sp} {cs:List eQ} {v:eQ}
def fw.V(h:fw w F x cs)(a:∀b,F b->b<w->cm w' b=w.heap[b]?):fw w' F x cs:=by obtain⟨b,c,d,e,f,g⟩:=h;exact⟨b,c,d,e,f.di a,g.di a⟩
def fw.M(h:fw w F x cs)(c:oF w F G):fw w G x cs:=by obtain⟨b,a,d,e,f,g⟩:=h;exact⟨b,a,d,e,f.M c aH,g.M c aH⟩
def fw.length(h:fw w F x cs):cs.length=13:=by obtain⟨b,c,rfl,a,_⟩:=h;simp[ij,a]
def fw.O(h:fw w F x cs):hJ cs:=by obtain⟨c,d,rfl,_,a,b⟩:=h;obtain⟨_,_,rfl,_⟩:=a.E;obtain⟨_,_,rfl,_⟩:=b.E;intro u h;simp only[ij,us,GS]at h;rcases h with rfl|rfl|rfl|rfl|rfl|⟨_,_,rfl⟩<;>rfl
def nu.V(h:nu w F s cs)(a:∀b,F b->b<w->cm w' b=w.heap[b]?):nu w' F s cs:=by obtain⟨b,c,d⟩:=h;exact⟨b,c,d.V a⟩
def nu.M(h:nu w F s cs)(a:oF w F G):nu w G s cs:=by obtain⟨b,c,d⟩:=h;exact⟨b,c,d.M a⟩
def dj.V{l}(h:dj w F v l)(c:∀b,F b->b<w->cm w' b=w.heap[b]?):dj w' F v l:=bS.V h c λ _ _ _ a=>a.V c
def dj.M{l}(h:dj w F v l)(c:oF w F G):dj w G v l:=bS.M h c λ _ _ _ a=>a.M c
def dj.B{l}(h:dj w F v l)(a:bi w w w'):dj w' F v l:=h.V (fW a)
def gP.V{l}(h:gP w F v l)(c:∀b,F b->b<w->cm w' b=w.heap[b]?):gP w' F v l:=bS.V h c λ _ _ _ a=>a.V c
def gP.M{l}(h:gP w F v l)(c:oF w F G):gP w G v l:=bS.M h c λ _ _ _ a=>a.M c
def gP.B{l}(h:gP w F v l)(a:bi w w w'):gP w' F v l:=h.V (fW a)
end
end
section
open _root_.Go.RowKit yj
def asr{P w w1 F g j C t ts ty e i z h o n m v x a news}(q:Bw P ts e)(r:xv P e i)(s:C3 i z)(u:i.size=h)(y:i.bytes=o)(A:z.cells.size=h)(B:F g)(b:w.heap[g]?=some (.cells C t (0,0)))(D:C[j]?=some v)(p:Sl w (zv F g) e h v n a)(l:bi w w w1)(E:jn w1 h x m news)(G:n+m<=pJ)(H:C2 (n+m) o):∃d f c,zw P (pV #[ts,ts] ty #[v,x]) w1= .ok (.slice d (n+m) f) c/\c.cell? ⟨g,j,none⟩=v/\c.frozen? (oi g j)=false/\g<c/\(c.setCell ⟨g,j,none⟩ (.slice d (n+m) f)).heap[g]?=some (.cells (C.setIfInBounds j (.slice d (n+m) f)) t (0,0))/\Sl (c.setCell (oi g j) (.slice d (n+m) f)) (λ k=>((F k/\k<w)\/w<=k)/\k≠g) e h (.slice d (n+m) f) (n+m) (a++news)/\aA w (c.setCell (oi g j) (.slice d (n+m) f)) F:=by have C:=aQ b;have I:=nU l b C;have x:Sl w1 (λ k=>(F k/\k≠g)/\k<w) e h v n a:=(p.M (λ k a b=>⟨b,a⟩)).V λ k C _=>l.block k C.2;obtain⟨K,c,J,b,p⟩:=Fu ts ty e i z h o q r s u y A x E G H;obtain⟨d,f,rfl,_,_⟩:=b.E;have o:∀k,v.ownBlock=some k->(F k/\k≠g)/\k<w:=λ k C=>(zm x C).1;have h:=p.heap I (λ a=>(o g a).1.2 rfl);refine⟨d,f,c,J,aO h D,kZ h j,aQ h,heap_setCell_same h _,?_,?_⟩;refine(b.M (G:=λ k=>((F k/\k<w.heap.size)\/w.heap.size<=k)/\k≠g) λ k _ C=>?_).V λ k C _=>Ly _ _ _ _ C.2;have:=l.size;grind;exact((aA.bR l F oo).J p (λ k _ a=>(o k a).1.1)).setCell (λ _=>B) _
def bC(l:List UInt8):List eQ:=l.map λ c=> Bv c.toNat
def agv(a b):bC (a++b)=bC a++bC b:=by simp[bC]
def Tryz.agw:(am.info? 5).map (λ i=>(i.zero,i.size,i.bytes))=some (some (.int .u8 0),1,1):=kk
def gQ(w:cJ)(F:Nat->Prop)(g:Nat)(l:List UInt8):Prop:=F g/\∃v,w.heap[g]?=some (.cells #[v] 223 (0,0))/\Sl w (zv F g) 5 1 v l (bC l)
def gQ.aG{w w' F S g l}(h:gQ w F g l)(a:aA w w' S)(b:Al F S):gQ w' F g l:=by obtain⟨l,v,c,d⟩:=h;exact⟨l,v,a.heap c (b g l),d.aG a (λ k a=>b k a.1)⟩
def gQ.M{w F G g l}(h:gQ w F g l)(a:oF w F G):gQ w G g l:=by obtain⟨F,v,l,b⟩:=h;exact⟨a g (aQ l) F,v,l,b.M oV⟩
def gQ.B{w w' F g l}(h:gQ w F g l)(a:bi w w w'):gQ w' F g l:=by obtain⟨F,v,l,b⟩:=h;exact⟨F,v,nU a l (aQ l),Jf b a .Y⟩
def eT(n:Int):List UInt8:=pW (n%4294967296).toNat
def jO(l:List Int):List UInt8:=l.flatMap eT
def pX(n:Int):Bool:=decide (Jb n)&&decide (n<=2147483647)
def agx(l):(jO l)=4*l.length:=by induction l with|nil=>rfl|cons x l a=>show(eT x++jO l).length=_;rw[da,a,pn];show 4+_=_;omega
def YR(n w):eE am 208 #[bs n] w λ e a=>e=pX n/\w=a:=by
 unfold pX;by_cases e: -2147483648<=n;·by_cases a:n<=2147483647;(·rw[Rk e,Rk a];go_enter func208,ntmps208;go_wp2_with fail;go_ret;exact oK);·rw[Rk e,RA a];go_enter func208,ntmps208;go_wp2_with fail;go_ret;exact oK
 ·rw[RA e];go_enter func208,ntmps208;go_wp2_with fail;go_ret;exact oK
def ass{w}{F}{g}{l}(h:gQ w F g l)(n)(i)(s:l.length=i)(J:i<=100000000)(a b c d)(t:[a,b,c,d].map (nR .u8)=bC (eT n)):∃j m o v p f,w.cell? ⟨g,0,none⟩=some (.slice j i m)/\zw am (pV #[221,221] 221 #[.slice j i m,xf w 0 4]) (w.alloc (.cells #[Bv a,Bv b,Bv c,Bv d] 5))= .ok (.slice o v p) f/\f.cell? ⟨g,0,none⟩=some (.slice j i m)/\f.frozen? (oi g 0)=false/\g<f/\gQ (f.setCell (oi g 0) (.slice o v p)) (E2 F w) g (l++eT n)/\aA w (f.setCell (oi g 0) (.slice o v p)) F:=by
 subst s;obtain⟨q,v,k,r⟩:=h;obtain⟨j,m,rfl,_,_⟩:=r.E;obtain⟨K,x,y,z,A⟩:=sB Tryz.agw;obtain⟨o,p,f,B,C,D,E,G,H,I⟩:=asr (P:=am) (ts:=221) (ty:=221) (w1:=w.alloc (.cells #[.int .u8 a,.int .u8 b,.int .u8 c,.int .u8 d] 5)) (j:=0) Lh x y z A rfl q k rfl r ((bi.refl _ _).alloc (kg _) _) (jn.laid (m:=4) (c:=4) (rC w _) rfl (by intro u e;simp at e;rcases e with rfl|rfl|rfl|rfl<;>rfl)) (by unfold pJ;omega) oo;refine⟨j,m,o,_,p,f,aO k rfl,B,C,D,E,⟨.N ⟨q,aQ k⟩,_,G,?_⟩,I⟩;have e:(l++eT n).length=l.length+4:=by rw[da];rfl
 rw[e,agv,<-t];exact H
end
section
open _root_.Go.RowKit yj
def ast(n)(f: Jb n)(g:n<=2147483647):∃U:Nat,U<4294967296/\IntKind.i32.wrap n=n/\IntKind.u32.wrap n=U/\[(U:Int)/16777216,U/65536%256,U/256%256,U%256].map (nR .u8)=bC (eT n):=by refine⟨(n%4294967296).toNat,oo,?_,?_,?_⟩;simp[IntKind.wrap,IntKind.bits,IntKind.signed];omega;simp[IntKind.wrap,IntKind.bits,IntKind.signed];omega;obtain⟨U,a⟩:∃U,(n%4294967296).toNat=U:=ax;have h:U<4294967296:=oo;simp only[eT,a,pW,bC,tj,AC,UInt8.toNat_ofNat',Nat.reducePow];have b:U/16777216=((U/16777216%256:Nat):Int):=oo;have c:U/65536%256=((U/65536%256%256:Nat):Int):=oo;have d:U/256%256=((U/256%256%256:Nat):Int):=oo;have e:U%256=((U%256%256:Nat):Int):=oo;rw[b,c,d,e]
def asu{b:Type}(p)(l:List b)(h:¬l.all p=true):∃(m:Nat)(y:b),l[m]?=y/\p y=false/\∀(i)x,i<m->l[i]?=some x->p x=true:=by induction l with|nil=>exact QU rfl h|cons a l c=>by_cases d:p a=true;have e:¬l.all p=true:=oV;obtain⟨m,y,f,g,j⟩:=c e;refine⟨m+1,y,(az f),g,λ i x k n=>?_⟩;grind;exact⟨0,a,rfl,(az d),oo⟩
def QN(g)(l)(ns)(F G)(w)(v)(h:gQ w F g l)(hx:Ints w G v ns)(hG:Al G F)(hl:l+4*ns.length≤100000000):
  eE am 121 #[g,v] w fun e w'=>e= .returned (bs (if ns.all pX then 0 else 2))∧gQ w' (E2 F w) g (if ns.all pX then l++jO ns else l)∧aA w w' F:=by
 obtain⟨n,hn⟩:∃n,ns.length=n:=⟨_,rfl⟩
 have asv:n≤100000000:=by omega
 have HX:=Lib.H hx
 obtain⟨ao,cap,rfl,_,_⟩:=hx.E
 rw [hn]
 have HN:=Lib.H hn
 have HH:=Lib.H h
 have HG:=Lib.H hG
 have aLe:g<w.heap.size:=by obtain⟨_,v,hg,_⟩:=h;exact aQ hg
 have CH:HO (∀(i:Nat) (w':cJ),aA w w' F→i<n→∃b off x,ns[i]? =some x∧ao=some ⟨b,off,none⟩∧w'.cell? ⟨b,off+i,none⟩=some (.int .i64 x)):=fun i w' hc hi=>by
  obtain⟨x,NQ⟩:∃x,ns[i]? =some x:=⟨_,List.getElem?_eq_getElem (by omega)⟩
  obtain⟨b,off,cap',cs,e,Fw,hlt,_,hR,hcell⟩:=hx.at NQ (by omega)
  simp only [cL] at e
  obtain⟨rfl,-,-⟩:=e
  have:=hcell 0 _ (by rw [hR];rfl)
  rw [Qg,PI] at this
  exact⟨b,off,x,NQ,rfl,(hc.Z hlt (hG b Fw)).J this⟩
 clear hx hn h hG
 by_cases hall:ns.all pX=true
 ·rw [QJ hall,QJ hall]
  have UP:HO (∀(i:Nat) x,ns[i]? =some x→ -2147483648≤x∧x≤2147483647):=fun i x hi=>by
   have:=KD.1 hall x (fx hi)
   unfold pX at this
   rw [mB,decide_eq_true_eq,decide_eq_true_eq] at this
   exact this
  clear hall
  go_enter func121,ntmps121
  go_wp2_with fail
  go_loop [14] (fun i=>∃j:Nat,j≤n∧i= .int .i64 j) (fun i=>n-(intOf i).toNat)
  case atStart=>exact⟨0,by omega,rfl⟩
  case round=>
   obtain⟨j,hj,rfl⟩:=hrel
   by_cases hlt:j<n
   ·obtain⟨b,off,x,hx,rfl,hc⟩:=CH.U j w (aA.Y _ _) hlt
    have HF:=YR x w
    have D9:=UP.U j x hx
    have e:pX x=true:=by unfold pX;rw [Rk D9.1,Rk D9.2];rfl
    rw [e] at HF
    have QO:=Lib.H HF
    clear HF D9 e hx
    go_wp2_with fail
    refine QO.U.M ?_
    rintro e w' ⟨rfl,rfl⟩
    go_wp2_with fail
    go_round
    case rel=>exact⟨j+1,by omega,by go_num⟩
    case measure=>simp [intOf];omega
   ·go_wp2_with fail
    go_loopw [24] (fun i wr=>∃j:Nat,j≤n∧i= .int .i64 j∧HO (gQ wr (fun k=>(F k∧k<w.heap.size)∨w.heap.size≤k) g (l++jO (ns.take j)))∧HO (aA w wr F)) (fun i _=>n-(intOf i).toNat)
    case atStart=>exact⟨0,by omega,rfl,(by rw [List.take_zero];show gQ _ _ _ (l++[]);rw [uV];exact HH.U.M (fun k a b=> .N ⟨b,a⟩)),aA.Y _ _⟩
    case round=>
     obtain⟨i,hi,rfl,HW,HC⟩:=hrel
     by_cases asw:i<n
     ·obtain⟨b,off,x,hx,rfl,hc⟩:=CH.U i wr HC.U asw
      obtain⟨h1,h2⟩:=UP.U i x hx
      obtain⟨U,hU,e1,e2,e3⟩:=ast x h1 h2
      obtain⟨ln,mM⟩:∃ln,(l++jO (ns.take i)).length=ln:=⟨_,rfl⟩
      obtain⟨a0,p0,a1,n1,p1,w3,k1,hrun,k2,k3,k4,k5,k6⟩:=ass HW.U x ln mM (by rw [da,agx,pS] at mM;have:=HN.U;omega) _ _ _ _ e3
      have kL:=Lib.H hrun
      have HW2:HO (gQ (w3.setCell ⟨g,0,none⟩ (.slice a1 n1 p1)) (fun k=>(F k∧k<w.heap.size)∨w.heap.size≤k) g (l++jO (ns.take (i+1)))):=by
       have e:ns.take (i+1)=ns.take i++[x]:=by rw [uk,hx];rfl
       rw [e]
       have:=k5.M (G:=fun k=>(F k∧k<w.heap.size)∨w.heap.size≤k) (fun k _ a=>by
        have:=HC.U.size
        rcases a with⟨a,_⟩|a
        ·exact a
        ·exact .I (by omega))
       rw [pB] at this
       have e9:jO (ns.take i++[x])=jO (ns.take i)++eT x:=by simp [jO]
       rw [e9];exact this
      have qE:HO (aA w (w3.setCell ⟨g,0,none⟩ (.slice a1 n1 p1)) F):=HC.U.J k6 (fun k hk a=>by
       rcases a with a|a
       ·exact a.1
       ·omega)
      clear hrun k5 k6 e3 hx HW HC mM
      go_wp2_with (at_builtin;refine Aw rfl rfl rfl rfl kL.U ?_)
      go_roundw
      case rel=>exact⟨i+1,by omega,by go_num,HW2.U,qE.U⟩
      case measure=>simp [intOf];omega
     ·obtain rfl:i=n:=by omega
      go_wp2_with fail
      go_ret
      refine⟨rfl,?_,HC.U⟩
      have:=HW.U
      rw [GA (by have:=HN.U;omega)] at this
      exact this
 ·rw [QI hall,QI hall]
  have hex:=asu pX ns hall
  obtain⟨m,y,iX,uP,Fx⟩:=hex
  have xo:m<n:=by have:=(List.getElem?_eq_some_iff.1 iX).1;have:=HN.U;omega
  have HM1:=Lib.H iX
  have UQ:=Lib.H uP
  have YS:=Lib.H Fx
  clear hall iX uP Fx
  go_enter func121,ntmps121
  go_wp2_with fail
  go_loop [14] (fun i=>∃j:Nat,j≤m∧i= .int .i64 j) (fun i=>n-(intOf i).toNat)
  case atStart=>exact⟨0,by omega,rfl⟩
  case round=>
   obtain⟨j,hj,rfl⟩:=hrel
   have hlt:j<n:=by omega
   obtain⟨b,off,x,hx,rfl,hc⟩:=CH.U j w (aA.Y _ _) hlt
   by_cases zq:j=m
   ·subst zq
    have e:y=x:=by have:=HM1.U;rw [hx] at this;exact(AI this).S
    subst e
    have HF:=YR y w
    rw [UQ.U] at HF
    have QO:=Lib.H HF
    clear HF hx
    go_wp2_with fail
    refine QO.U.M ?_
    rintro e w' ⟨rfl,rfl⟩
    go_wp2_with fail
    go_ret
    exact⟨rfl,HH.U.M (fun k a b=> .N ⟨b,a⟩),aA.Y _ _⟩
   ·have HF:=YR x w
    rw [YS.U j x (by omega) hx] at HF
    have QO:=Lib.H HF
    clear HF hx
    go_wp2_with fail
    refine QO.U.M ?_
    rintro e w' ⟨rfl,rfl⟩
    go_wp2_with fail
    go_round
    case rel=>exact⟨j+1,by omega,by go_num⟩
    case measure=>simp [intOf];omega
def NR(g l F w)(h:gQ w F g l):eE am 124 #[g] w λ e d=>ea e (.string ⟨l⟩)/\w=d:=by
 obtain⟨_,v,i,d⟩:=h;obtain⟨f,c,rfl,_,_⟩:=d.E;have p:w.cell? ⟨g,0,none⟩=some (.slice f _ c):=aO i rfl;have q:zw am (convert 221 9 (.slice f l.length c)) w= .ok (.string ⟨l.toArray⟩) w:=by by_cases s:0<l.length;obtain⟨b,k,r,e,_,_,_,_,m⟩:=d.at s;simp only[cL]at e;obtain⟨rfl,-,rfl⟩:=e;refine run_convert_bytes_back w 221 9 5 ⟨b,k,none⟩ c l Lh QM Li λ j n=>?_;rw[Hq];exact(m j _ (by simp[bC,List.getElem?_eq_getElem n])).1;·have o:l=[]:=oV;subst o;cases f with|none=>simp[convert,Conv.bytesToString];rfl|some a=>exact run_convert_bytes_back w 221 9 5 a c [] Lh QM Li λ j n=>by simp at n
 generalize l.length=n at*;generalize(⟨l.toArray⟩:ByteArray)=s at*;clear i d;go_enter func124,ntmps124;go_wp2_with fail;go_ret;exact⟨rfl,rfl⟩
end
section
open _root_.Go.RowKit yj
def asz{P:xm}{w:cJ}{g o}{cur}{e}(c:w.heap[g]?=some (.cells cur e (0,0)))(news)(f:o+news.length<=cur.size)(d:hJ news):w.setCells g o news=w.setRow g (cur.toList.take o++news++cur.toList.drop (o+news)).toArray:=by have a:=run_storeCells_at P g o e _ 0 cur w c (az f) d;have b:=run_storeCells_cells (P:=P) g o _ 0 w (λ j h=>by rw[PI,ta w g _ cur e _ c,Array.getElem?_eq_getElem oo];rfl) (λ j h=>kZ c _) d;grind
def asA{P w F}(t l r e i z G)(x:Bw P t e)(H:Hp P l .string)(y:xv P e i)(L:C3 i z)(o:i.size=1)(M:i.bytes=G)(N:z.cells.size=1){v n b}(s)(h:Sl w F e 1 v n b)(A:n+s.size<=pJ)(I:C2 (n+s.size) G):∃m q,zw P (pV #[t,l] r #[v,.string s]) w= .ok m q/\Sl q (λ k=>(F k/\k<w)\/k=w) e 1 m (n+s.size) (b++byteCells s)/\aA w q (λ k=>v.ownBlock=k):=by
 subst M;have q:Src P i.size l (.string s) s.size (byteCells s) w:=by rw[o];exact Src.ofString w H s
 have O:=q.O;obtain⟨m,B⟩:∃m,s.size=m:=ax;have Q:(byteCells s).length=m:=by rw[byteCells_length,B]
 rw[B]at q A I⊢;have C:(b++byteCells s).length=(n+m)*1:=by rw[da,h.1,Q];omega
 have R:((n+m:Nat):Int)<=9223372036854775807:=by simp only[pJ]at A;omega
 obtain⟨D,c,rfl,Y,S⟩:=h.E;by_cases J:n+m<=c;·rcases h.2 with⟨f,K⟩|⟨g,d,T,a,f,U,u,_,_,Z,V⟩;(·simp at f;obtain⟨rfl,-,rfl⟩:=f;have p:m=0:=oo;subst p;have j:b=[]:=oV;have E:byteCells s=[]:=oV;(have W:s=oR:=by have:s.data.size=0:=B;have X:s.data=#[]:=oV;cases s;subst X;rfl);refine⟨.slice none 0 0,w,?_,?_,aA.Y ..⟩;subst W K;have X:oR.size=0:=rfl;simp[pV,oZ x,oZ H,Oy,IS,y,Builtin.lenOf,Builtin.firstCells,X];subst j K;rw[E];exact lg);simp only[cL]at f;obtain⟨rfl,-,rfl⟩:=f;have W:d+n*1+(byteCells s).length<=a.size:=oo;have p:=run_append_room_src w t l r e i x y g d n c _ m (byteCells s) q J (λ j E=>by rw[o,ta w g _ a e _ u,Array.getElem?_eq_getElem oo];rfl) (λ j E=>kZ u _);rw[o]at p;rw[asz (P:=P) u (byteCells s) W O]at p;refine⟨_,_,p,⟨C,.I ⟨g,d,c,_,rfl,.N ⟨U,aQ u⟩,OB w g a _ e _ u,J,S,?_,?_⟩⟩,⟨rfl,rfl,rfl,by simp,λ k _ X=>PY w g k _ (λ e=>X (by simp[ON,e]))⟩⟩;grind;(have k:(a.toList.take (d+n*1)).drop d=b:=by rw[List.drop_take,show d+n*1-d=n*1 by omega];exact V);grind
 ·(have k:(Builtin.firstCells i.size n (.slice D n c)).run P w.drew= .ok b.toArray w.drew:=by rw[o];by_cases K:0<n;obtain⟨g,d,T,f,_,_,_,_,U⟩:=h.at K;simp only[cL]at f;obtain⟨rfl,-,rfl⟩:=f;exact run_firstCells_some _ 1 n ⟨g,d,none⟩ n c b h.1 (λ j u E=>by rw[Hq];exact(U j u E).1);·obtain rfl:n=0:=oo;have:=wI (nX h);subst this;cases D with|none=>exact oK|some a=>exact oK);have p:=run_append_grow_src w t l r e i z x y L D n c b k _ m (byteCells s) q oo R (growslice_fits oo I);have f:=grownCap_ge w (n+m) c e;have g:=grownCap_le_maxLen w _ c e A;refine⟨_,_,p,⟨C,.I ⟨w,0,_,_,rfl,.I rfl,rC _ _,f,g,?_,?_⟩⟩,((aA.Y w _).drew).alloc _⟩;simp only[Array.size_append,NP,size_zeroCells,N,C];omega;grind
def asB{P w K b o a Q}(c:o.guard=none){s x t t2}(d:o.op= .call {callee:= .builtin .append,args:=#[s,x],argTypes:=#[t,t2]}){v u v' w'}(e:a.eval s=v)(f:a.eval x=u)(g:zw P (pV #[t,t2] o.type #[v,u]) w= .ok v' w')(h:wpList P K Q b (a.put o.dst v') w'):wpList P K Q (o::b) a w:=by refine wpList_plain c λ K c=>?_;unfold Oper.wp;simp[execOp,d,resolve,invoke,builtin,e,f,g];exact c _ _ h
def agz(g)(l)(F)(w s)(h:gQ w F g l)(V:s.size<=1048576)(W:l.length<=50000000):eE am 177 #[g,.string s] w λ e c=>e= .returned (bs 0)/\gQ c (E2 F w) g (l++eT s.size++s.data.toList)/\aA w c F:=by
 obtain⟨d,q⟩:∃d,w.alloc (.cells #[.int .i64 s.size] 3)=d:=ax;obtain⟨X,z⟩:∃X,w.heap.size=X:=ax;have r:bi w w d:=by rw[<-q];exact(bi.refl ..).alloc .Y _
 have H:d.heap[X]?=some (.cells _ 3):=(mm q z w)
 have I:Ints d (λ k=>k=X) (.slice _ 1 1) [s.size]:=⟨_,1,[.int _ _],rfl,.Y,et,⟨_,[],rfl,rfl,rfl,rfl⟩,pj,λ j u a=>by have t:=(List.getElem?_eq_some_iff.1 a).1;simp at t;subst t;simp at a;subst a;exact⟨X,0,rfl,rfl,aO H rfl⟩⟩;have A:[(s.size:Int)].all pX=true:=by simp only[List.all_cons,List.all_nil,pX,Bool.and_true,mB,decide_eq_true_eq];omega
 have J:gQ d (λ k=>F k/\k<X) g l:=(h.M (λ k a b=>⟨b,oo⟩)).B r;have t:=QN g l _ _ _ d _ J I oo (ik);rw[QJ A,QJ A]at t;have K:l++jO [s.size]=l++eT s.size:=by simp[jO]
 rw[K]at t;have L:=Lib.H t;have M:HO (∀c,aA d c (λ k=>F k/\k<X)->aA w c F):=λ c j=>(aA.bR r F oo).J j (λ _ _ a=>a.1);have N:HO (∀c,gQ c _ g _->d<=c.heap.size->∃j n b f m i u,c.cell? ⟨g,0,none⟩=some (.slice j n b)/\zw _ (pV _ 221 #[.slice j n b,.string s]) c= .ok (.slice f m i) u/\u.cell? ⟨g,0,none⟩=some (.slice j n b)/\u.frozen? ⟨g,0,none⟩=false/\g<u/\gQ (u.setCell ⟨g,0,none⟩ (.slice f m i)) (λ k=>(F k/\k<X)\/X<=k) g _/\aA c (u.setCell ⟨g,0,none⟩ (.slice f m i)) (λ k=>(F k/\k<X)\/X<=k)):=λ c O Y=>by obtain⟨Z,v,B,x⟩:=O;obtain⟨j,b,rfl,_,_⟩:=x.E;obtain⟨P,Q,R,S,T⟩:=sB Tryz.agw;have aI:=r.size;(have C:(l++eT s.size).length=l.length+4:=by rw[da];rfl);obtain⟨v',u,y,D,E⟩:=asA 221 9 221 5 P _ 1 Lh Li Q R S T rfl s x (by rw[C];unfold pJ;omega) (pG C);obtain⟨f,i,rfl,_,_⟩:=D.E;have U:∀k,(tf j _ b).ownBlock=some k->((((F k/\k<X)/\k<d)\/d<=k)/\k≠g)/\k<c:=λ k o=>zm x o;have p:=E.heap B (λ a=>(U g a).1.2 rfl);(have G:(F g/\g<X)\/X<=g:=by grind);refine⟨j,_,b,f,_,i,u,aO B rfl,y,aO p rfl,kZ p 0,aQ p,⟨G,_,heap_setCell_same (i:=0) p _,?_⟩,(E.M (λ k _ a=>?_)).setCell (λ _=>G) _⟩;(have e:(l++eT s.size++s.data.toList).length=(l++eT s.size).length+s.size:=by rw[da];rfl);rw[e,agv];refine(D.M (G:=λ k=>((F k/\k<X)\/X<=k)/\k≠g) λ k _ o=>?_).V λ k o _=>Ly _ _ _ _ o.2;grind;grind
 have v:HO _:=z;have Z:=h.1;have P:HO (∀a u:cJ,aA w a F->d<=a.heap.size->aA a u (λ k=>(F k/\k<X)\/X<=k)->aA w u F):=λ a u k _ x=>k.J x oV;go_enter func177,ntmps177;go_wp2_with fail;try rw[q]
 try rw[v.U]
 refine L.U.M ?_;rintro e a ⟨rfl,k,x⟩;have B:=x.size;obtain⟨j,n,b,f,m,i,u,D,y,E,U,o,Q,R⟩:=N.U a k B;have S:=Lib.H y;have T:=Lib.H Q;have C:HO _:=P.U a _ (M.U a x) B R;go_wp2_with(at_builtin;refine asB rfl rfl rfl rfl S.U ?_);go_ret;exact⟨rfl,by rw[v.U];exact T.U,C.U⟩
end
section
open _root_.Go.RowKit yj
def lf(w:cJ)(g:Nat)(l:List UInt8):Prop:=w.heap[g]?=some (.cells #[str l] 319 (0,0))
def YX(s w):eE am 125 #[.string s] w λ e a=>ea e (.pointer (some ⟨w,0,none⟩))/\lf a w s.data.toList/\bi w w a:=by go_enter func125,ntmps125;go_wp2_with fail;go_ret;exact⟨rfl,by unfold lf;rw[<-Jj];exact rC w _,lz⟩
def asM(g l w)(h:lf w g l):eE am 213 #[g] w λ e s=>ea e (.int .i64 (l:Nat))/\w=s:=by
 have a:w.cell? ⟨g,0,none⟩=some (.string ⟨l.toArray⟩):=aO h rfl;have e:(⟨l.toArray⟩:ByteArray).size=l.length:=by simp[ByteArray.size]
 rw[<-e];generalize(⟨l.toArray⟩:ByteArray)=s at*;clear h e;go_enter func213,ntmps213;go_wp2_with fail;go_ret;exact⟨rfl,rfl⟩
def asN(n c:Nat)(b:n<16777216)(d:c<256):bits .or .u32 (n*256) c=n*256+c:=by
 have a:=nat_join 8 (n*256) c (by omega) (by omega);have e:(n*256)=((n*256:Nat):Int):=by omega
 show IntKind.u32.wrap ((BitVec.ofInt 32 _|||BitVec.ofInt 32 _).toNat:Int)=_;rw[e,BitVec.toNat_or,ofInt_u32 _ (by omega),ofInt_u32 c (by omega),a];simp[IntKind.wrap,IntKind.bits,IntKind.signed];omega
def asO(l:List UInt8)(k)(a:k<=3):j5 (l.take k)<16777216:=agu ⟨l.toArray⟩ k a
def agG(l:List UInt8)(k)(a:k<=4):j5 (l.take k)<4294967296:=asn ⟨l.toArray⟩ k a
def wo(l:List UInt8):Int:=signed (j5 (l.take 4))
def asP(n:Nat)(h:n<4294967296):IntKind.i32.wrap n=signed n:=by unfold signed;simp[IntKind.wrap,IntKind.bits,IntKind.signed];split<;>omega
def YY(l): Jg (wo l):=by have:=agG l 4 oo;unfold wo signed;split<;>omega
def agH(n)(e: Jb n)(a:n<=2147483647)(l):wo (eT n++l)=n/\(eT n++l).drop 4=l/\4<=(eT n++l).length:=by
 obtain⟨U,a⟩:∃U,(n%4294967296).toNat=U:=ax;have e:U<4294967296:=oo;have e:(eT n++l).take 4=eT n:=rfl;have l:j5 (eT n)=U:=by simp only[eT,a,pW,j5,EQ,List.foldl_nil,UInt8.toNat_ofNat',Nat.reducePow];omega
 refine⟨?_,rfl,by simp[eT,pW]⟩;unfold wo signed;rw[e,l];split<;>omega
def agI(g l w)(h:lf w g l)(a:l.length<4):eE am 284 #[g] w λ e b=>e= .returned (.tuple #[bs 0,bs 3])/\w=b:=by
 have b:w.cell? ⟨g,0,none⟩=some (.string ⟨l.toArray⟩):=aO h rfl;have h:(⟨l.toArray⟩:ByteArray).size=l.length:=by exact oK
 rw[<-h]at a;generalize(⟨l.toArray⟩:ByteArray)=s at*;go_enter func284,ntmps284;exact rx
def agJ(g l w)(h:lf w g l)(v:4<=l.length)(y:l.length<=140737488351232):eE am 284 #[g] w λ e f=>e= .returned (.tuple #[wo l,bs 0])/\bi w w f:=by
 have I:w.cell? ⟨g,0,none⟩=some (.string ⟨l.toArray⟩):=aO h rfl;have f:(⟨l.toArray⟩:ByteArray).size=l.length:=by exact oK
 have z:str ((l.drop 0).take _)=OW _:=(UR ⟨l.toArray⟩ 0 4).S;obtain⟨x,A⟩:∃x,(⟨l.toArray⟩:ByteArray).extract 0 4=x:=ax;have d:x.data.toList=l.take 4:=by rw[<-A,data_extract];rfl
 have m:x.size=4:=by have:x.size=x.data.toList.length:=rfl;rw[this,d,pS];omega
 obtain⟨J,o,a,p,q,B,r,_⟩:=bytesOf w x;rw[m]at a p;have t:HO (∀(j:Nat),j<4->∃c:UInt8,l[j]?=some c/\o.cell? ⟨w,j,none⟩=some _):=λ j C=>by obtain⟨c,b⟩:∃c,l[j]?=some c:=qj;exact⟨c,b,r j c (by rw[d,List.getElem?_take,QJ C];exact b)⟩
 obtain⟨X,b⟩:∃X,w.heap.size=X:=ax;rw[b]at t a;have D:HO (bi X w o):=by rw[<-b];exact q
 rw[b];rw[<-f]at v y;generalize(⟨l.toArray⟩:ByteArray)=s at*;have E:HO (wo l=signed _):=rfl;have K:=YY l;generalize wo l=N at*;clear h f z r q B d m b p;go_enter func284,ntmps284;go_wp2_with fail;go_loop[4,24](λ u i=>∃k:Nat,k<=4/\i= .int .i64 k/\u= .int .u32 (j5 (l.take k):Nat))(λ _ i=>4-(intOf i).toNat);case atStart=>exact⟨0,by omega,rfl,rfl⟩
 case round=>obtain⟨k,L,rfl,rfl⟩:=hrel;by_cases u:k<4;(·obtain⟨c,i,M⟩:=t.U k u;have F:=asO l k (by omega);(have G:HO (j5 (l.take (k+1))=j5 (l.take k)*256+c.toNat):=by show _=_;(have e:l.take (k+1)=l.take k++[c]:=by rw[uk,i];rfl);rw[e,ags]);have e:c.toNat<256:=c.toNat_lt;generalize j5 (l.take k)=n at*;generalize c.toNat=H at*;have O:=asN n H F e;clear i;go_wp2_with fail;go_round;(case rel=>exact⟨k+1,by omega,by go_num,by rw[G.U];exact Ru _ (by omega)⟩);case measure=>simp[intOf];omega);·(obtain rfl:k=4:=by omega);have i:=agG l 4 (by omega);have e:=E.U;generalize j5 _=n at*;have a:=asP n i;rw[<-e]at a;clear e;go_wp2_with fail;go_ret2;exact⟨rfl,D.U⟩
def within(a b:Int)(l:List UInt8):Int×Int×List UInt8:=if l.length<4 then(0,3,l)else if wo l<a\/b<wo l then(0,2,l)else(wo l,0,l.drop 4)
def YZ(l:List UInt8)(k)(a:k<=l.length):OW ((⟨l⟩:ByteArray).extract k (⟨l⟩:ByteArray).size)=str (l.drop k):=by rw[agD _ _ _ .Y]
def agK{w g l l2}(h:lf w g l):(∃u,w.cell? ⟨g,0,none⟩=some u)/\w.frozen? (oi g 0)=false/\g<w/\lf (w.setCell (oi g 0) (str l2)) g l2/\aA w (w.setCell (oi g 0) (str l2)) (λ k=>k=g):=⟨⟨_,aO h rfl⟩,kZ h 0,aQ h,heap_setCell_same h _,(aA.Y w (λ k=>k=g)).setCell (λ _=>rfl) _⟩
def lf.B{w w' g l}(h:lf w g l)(a:bi w w w'):lf w' g l:=nU a h (aQ h)
def US(g l w c d)(h:lf w g l)(n:l.length<=140737488351232):eE am 210 #[g,bs c,bs d] w λ e b=>ea e (.tuple #[(within c d l).1,(within c d l).2.1])/\lf b g (within c d l).2.2/\vn w b g:=by
 unfold within;by_cases j:l.length<4;·rw[QJ j];have f:=(zt (agI g l w h j));have i:=Lib.H h;go_enter func210,ntmps210;go_wp2_with fail;refine f.U.M ?_;rintro e b ⟨rfl,rfl⟩;go_wp2_with fail;go_ret2;exact⟨rfl,i.U,aA.Y ..⟩
 ·rw[QI j];have f:=(zt (agJ g l w h oo n));have i:=Lib.H h;(have o:HO (∀b,bi _ w b->∃s:ByteArray,b.cell? ⟨g,0,none⟩=some (.string s)/\4<=s.size/\s.size<=140737488351232/\b.frozen? ⟨g,0,none⟩=false/\g<b/\lf (b.setCell ⟨g,0,none⟩ (.string (s.extract 4 _))) g _/\aA w (b.setCell ⟨g,0,none⟩ (.string (s.extract 4 _))) (λ k=>k=g)):=λ b k=>by have N:=h.B k;obtain⟨_,m,p,q,r⟩:=agK (l2:=l.drop 4) N;(have t:(⟨l.toArray⟩:ByteArray).size=l.length:=by exact oK);refine⟨⟨l.toArray⟩,aO N rfl,oo,oo,m,p,?_,?_⟩;rw[YZ l 4 oo];exact q;rw[YZ l 4 oo];exact(aA.bR k _ oo).J r (pm));generalize wo l=N at*;by_cases m:N<c\/d<N;(·rw[QJ m];by_cases p:N<c;(·go_enter func210,ntmps210;go_wp2_with fail;refine f.U.M ?_;rintro e b ⟨rfl,k⟩;have a:=Lib.H k;go_wp2_with fail;go_ret2;exact⟨rfl,i.U.B a.U,aA.bR a.U _ oo⟩);·have q:d<N:=oo;go_enter func210,ntmps210;go_wp2_with fail;refine f.U.M ?_;rintro e b ⟨rfl,k⟩;have a:=Lib.H k;go_wp2_with fail;go_ret2;exact⟨rfl,i.U.B a.U,aA.bR a.U _ oo⟩);·rw[QI m];have p:c<=N:=oo;have q:N<=d:=oo;go_enter func210,ntmps210;go_wp2_with fail;refine f.U.M ?_;rintro e b ⟨rfl,k⟩;obtain⟨s,t,u,v,x,y,r,a⟩:=o.U b k;have z:=Lib.H r;have A:=Lib.H a;exact rx
def UT(g l w)(h:lf w g l)(b:l.length<=140737488351232):eE am 329 #[g] w λ e a=>ea e (.tuple #[(within (-2147483648) 2147483647 l).1,(within (-2147483648) 2147483647 l).2.1])/\lf a g (within (-2147483648) 2147483647 l).2.2/\vn w a g:=by have k:=(zt (US g l w (-2147483648) 2147483647 h b));generalize within _ _ l=r at*;go_enter func329,ntmps329;go_wp2_with fail;refine k.U.M ?_;rintro e a ⟨rfl,l,b⟩;have h:=Lib.H l;have l:=Lib.H b;exact rx
def uR(a:Int)(l:List UInt8):List UInt8×Int×List UInt8:=if l.length<4 then([],3,l)else if wo l<0\/a<wo l then([],2,l)else if(l.length:Int)-4<wo l then([],3,l)else((l.drop 4).take (wo l).toNat,0,(l.drop 4).drop (wo l).toNat)
def asT(g l w f)(h:lf w g l)(p:l.length<=140737488351232):eE am 253 #[g,bs f] w λ e b=>ea e (.tuple #[str (uR f l).1,(uR f l).2.1])/\lf b g (uR f l).2.2/\vn w b g:=by
 unfold uR;by_cases i:l.length<4;·rw[QJ i];have d:=(zt (agI g l w h i));have r:=Lib.H h;clear h i p;go_enter func253,ntmps253;go_wp2_with fail;refine d.U.M ?_;rintro e b ⟨rfl,rfl⟩;go_wp2_with fail;go_ret2;exact⟨rfl,r.U,aA.Y ..⟩
 ·rw[QI i];have d:=(zt (agJ g l w h oo p));have r:=Lib.H h;have q:HO (∀b,bi _ w b->lf b g l/\aA w b (λ k=>k=g)):=λ b c=>⟨h.B c,(lW c)⟩;have F:=YY l;(have j:(⟨l.toArray⟩:ByteArray).size=l.length:=by exact oK);obtain⟨s,n⟩:∃s:ByteArray,⟨l.toArray⟩=s:=ax;(have t:HO (∀b,bi _ w b->b.cell? ⟨g,0,none⟩=some (.string s)/\b.frozen? ⟨g,0,none⟩=false/\g<b):=λ b c=>by have N:=h.B c;rw[<-n];exact⟨aO N rfl,kZ N 0,aQ N⟩);(have u:HO (∀k:Nat,k+4<=l.length->str ((l.drop 4).take k)= .string (s.extract 4 (4+k))/\∀b,bi _ w b->lf (b.setCell ⟨g,0,none⟩ (.string (s.extract (4+k) s.size))) g ((l.drop 4).drop k)/\aA w (b.setCell ⟨g,0,none⟩ (.string (s.extract (4+k) s.size))) (λ k=>k=g)):=λ k G=>by subst n;refine⟨?_,λ b c=>?_⟩;rw[UR];congr 2;omega;have N:=h.B c;obtain⟨_,_,_,o,m⟩:=agK (l2:=(l.drop 4).drop k) N;rw[YZ l _ oo];rw[List.drop_drop]at o m⊢;exact⟨o,(aA.bR c _ oo).J m (pm)⟩);rw[n]at j;have H:s.size<=140737488351232:=oo;have I:4<=s.size:=oo;have C:=Lib.H j;generalize wo l=N at*;clear h p i n;by_cases o:N<0\/f<N;(·rw[QJ o];clear j;by_cases v:N<0;(·go_enter func253,ntmps253;go_wp2_with fail;refine d.U.M ?_;rintro e b ⟨rfl,c⟩;have a:=Lib.H c;clear c d;go_wp2_with fail;go_ret2;exact(qs (q.U _ a.U)));·have D:f<N:=oo;clear o;go_enter func253,ntmps253;go_wp2_with fail;refine d.U.M ?_;rintro e b ⟨rfl,c⟩;have a:=Lib.H c;clear c d;go_wp2_with fail;go_ret2;exact(qs (q.U _ a.U)));·rw[QI o];have v:0<=N:=oo;have D:N<=f:=oo;obtain⟨k,rfl⟩:=Int.eq_ofNat_of_zero_le v;rw[<-j,ux];clear o j;have J:IR.wrap _=s.size-4:=Er;by_cases x:s.size-4<(k:Int);(·rw[QJ x];go_enter func253,ntmps253;go_wp2_with fail;refine d.U.M ?_;rintro e b ⟨rfl,c⟩;obtain⟨E,-,-⟩:=t.U b c;have a:=Lib.H c;clear c d;go_wp2_with fail;go_ret2;exact(qs (q.U _ a.U)));·rw[QI x];obtain⟨y,z⟩:=u.U k (by have:=C.U;omega);rw[y];have A:=Lib.H z;obtain⟨m,B⟩:∃m,4+k=m:=ax;(have K:IR.wrap (4+k)=m:=by rw[Np _ (by omega)];omega);(have L:m<=s.size:=by omega);(have M:4<=m:=by omega);rw[B]at A⊢;clear y z u B;go_enter func253,ntmps253;go_wp2_with fail;refine d.U.M ?_;rintro e b ⟨rfl,c⟩;obtain⟨E,O,P⟩:=t.U b c;have a:=Lib.H c;clear c d;go_wp2_with fail;go_ret2;exact(qs (A.U _ a.U))
end
section
open _root_.Go.RowKit _root_.Go.Shelf
variable {P:xm} {ρ:Ren} {α:Type}
def idxOf(p:α->Bool):List α->Int|[]=> -1|x::l=>if p x then 0 else if idxOf p l<0 then-1 else idxOf p l+1
def idxOf_hit(p)(l:List α)(k x)(h:l[k]?=some x)(b:p x=true)(a:∀(j:Nat)y,j<k->l[j]?=some y->p y=false):idxOf p l=k:=by induction l generalizing k with|nil=>simp at h|cons y l c=>cases k with|zero=>simp at h;subst h;simp[idxOf,b]|succ k=>have d:=a 0 y oo rfl;have:=c k (by simpa using h) (λ j z f e=>a (j+1) z oo (by simpa using e));simp only[idxOf,d,this,xn,Rv];omega
def idxOf_miss(p)(l:List α)(a:∀(j:Nat)y,l[j]?=some y->p y=false):idxOf p l= -1:=by induction l with|nil=>rfl|cons y l b=>have c:=a 0 y rfl;have:=b (λ j z d=>a (j+1) z (by simpa using d));simp[idxOf,c,this]
def agM(p)(l:List α):l.any p=decide (0<=idxOf p l):=by
 have b:l.any p=true↔0<=idxOf p l:=by induction l with|nil=>simp[idxOf]|cons y l a=>rw[List.any_cons,Bool.or_eq_true,a];show _↔0<=(if p y then(0)else if idxOf p l<0 then-1 else idxOf p l+1);grind
 grind
def UU(P:xm)(g:Nat)(e:Array eQ)(R:cJ->α->eQ->Prop)(l:List α)(p:α->Bool)(w:cJ):Prop:=∀(W)(x)(u),bi w w W->x∈l->R W x u->eE P g (#[u]++e) W λ e R=>e=p x/\bi W W R
def Y0(L:Proofs.SlLaysH0.n6 P ρ)(k)(hk:0<k)(aE:∀w,(isAgg (ρ.t 23)).run P w= .ok true w)(zE:∀w,sa (Go.sizeOf (ρ.t 23)) P w k)(R:cJ→α→List eQ→Prop)(hR:∀w w' x cs,bi w.heap.size w w'→R w x cs→R w' x cs)(l)(F)(v)(w)(h:bS w F k (R w) v l)
  (p) (g:Nat) (lb) (eg:∀args w,(callFunc g args).run P w= .ok (.enter g args) w) (hp:UU P g lb (fun W x u=>∃cs,u= .agg cs.toArray∧cs.length=k∧R W x cs) l p w):
  eE P (ρ.f 6) #[v,LW g lb] w fun e w'=>e=idxOf p l∧bi w w w':=by
 have mixed:=L.mixed;have t0:=L.t0;have a0:=L.a0;have z0:=L.z0;have v0:=L.v0;have t3:=L.t3;have a3:=L.a3;have z3:=L.z3;have v3:=L.v3;have t4:=L.t4;have a4:=L.a4;have z4:=L.z4;have v4:=L.v4;have t22:=L.t22;have a22:=L.a22;have z22:=L.z22;have v22:=L.v22;have t25:=L.t25;have a25:=L.a25;have z25:=L.z25;have v25:=L.v25
 obtain⟨ao,cap,rfl,h1,h2⟩:=h.E
 have QS:HO (∀(W:cJ),bi w.heap.size w W→∀(j:Nat) x,l[j]? =some x→∃b off cs,ao=some ⟨b,off,none⟩∧cs.length=k∧R W x cs∧zw P (loadCellsFrom ⟨b,off+j*k,none⟩ 0 k #[]) W= .ok cs.toArray W):=fun W hW j x hj=>by
  obtain⟨b,off,cap',cs,e,_,hb,hl,hr,hc⟩:=h.at hj hk
  simp only [cL] at e
  obtain⟨rfl,-,-⟩:=e
  exact⟨b,off,cs,rfl,hl,hR _ _ _ _ hW hr,run_loadCellsFrom_list P _ _ cs k hl (fun i u hi=>by
   rw [Hq,hW.Z (p:=⟨b,off+j*k+i,none⟩) hb]
   exact hc i u hi)⟩
 obtain⟨n,hn⟩:∃n,l.length=n:=⟨_,rfl⟩
 have HN:=Lib.H hn
 have HP:=Lib.H hp
 rw [hn] at h1 ⊢
 have Hb:n≤9223372036854775807:=by unfold pJ at h2;omega
 clear h hn hp hR h1 h2
 obtain⟨_,_,FG⟩:=L.f6
 go_enter FG,SlBodyH.n6_ntmps ρ
 go_wp2
 go_loopg [5,8] n (fun gg _ s8 wr=>∃kk:Nat,kk≤n∧n-kk≤gg∧s8= .int .i64 kk∧HO (bi w.heap.size w wr)∧HO (∀(j:Nat) y,j<kk→l[j]? =some y→p y=false))
 case atStart=>exact⟨0,fy _,by omega,rfl,bi.refl _ w,fun j y hj=>QU hj (Nat.not_lt_zero _)⟩
 case round=>
  obtain⟨kk,qX,hg,rfl,BW,A⟩:=hrel
  by_cases hlt:kk<n
  ·have Y1:(kk:Int)<(n:Int):=by omega
   obtain⟨x,hx⟩:∃x,l[kk]? =some x:=⟨_,List.getElem?_eq_getElem (by have:=HN.U;omega)⟩
   obtain⟨b,off,cs,rfl,dt,hr,l2⟩:=QS.U wr BW.U kk x hx
   have Hd:=HP.U wr x _ BW.U (fx hx) ⟨cs,rfl,dt,hr⟩
   have hz:=BW.U.size
   have HX:=Lib.H hx
   clear QS HP hr dt hx
   generalize cs.toArray=ca at*
   cases hq:p x with
   |true=>
    rw [hq] at Hd
    have HQ:=Lib.H hq
    clear hq
    go_wp2_with (go_at_fn g;refine Hd.M ?_;rintro e w' ⟨rfl,hb'⟩)
    go_ret
    exact⟨by rw [idxOf_hit p l kk x HX.U HQ.U A.U];rfl,BW.U.J (hb'.M hz)⟩
   |false=>
    rw [hq] at Hd
    have HQ:=Lib.H hq
    clear hq
    go_wp2_with (go_at_fn g;refine Hd.M ?_;rintro e w' ⟨rfl,hb'⟩)
    go_roundg (n-(kk+1))
    case measure=>omega
    case rel=>
     refine⟨kk+1,by omega,by omega,by go_num,BW.U.J (hb'.M hz),(show HO _ from fun j y hj hy=>?_)⟩
     by_cases e:j=kk
     ·subst e
      have:=HX.U
      rw [hy] at this
      rw [AI this];exact HQ.U
     ·exact A.U j y (by omega) hy
  ·have Y1:¬(kk:Int)<(n:Int):=by omega
   have:kk=n:=by omega
   subst this
   go_wp2
   go_ret
   refine⟨?_,BW.U⟩
   rw [idxOf_miss p l (fun j y hy=>A.U j y (by have:=(List.getElem?_eq_some_iff.1 hy).1;have:=HN.U;omega) hy)]
   rfl
def NT(L:Proofs.SlLaysH0.n8 P ρ)(k)(i:0<k)(j:∀w,(isAgg (ρ.t 23)).run P w= .ok true w)(o:∀w,sa (Go.sizeOf (ρ.t 23)) P w k)(R:cJ->α->List eQ->Prop)(d:∀w w' x a,bi w.heap.size w w'->R w x a->R w' x a)(l)(F)(v)(w)(h:bS w F k (R w) v l)(p)(g:Nat)(c)(q:∀b w,(callFunc g b).run P w= .ok (.enter g b) w)(f:UU P g c (λ W x u=>∃a,u= .agg a.toArray/\a.length=k/\R W x a) l p w):eE P (ρ.f 8) #[v,LW g c] w λ e w'=>e=l.any p/\bi w w w':=by rw[agM];have y:=L.mixed;have z:=L.t0;have A:=L.a0;have B:=L.z0;have C:=L.v0;have D:=L.t3;have E:=L.a3;have G:=L.z3;have H:=L.v3;have I:=L.t4;have J:=L.a4;have K:=L.z4;have M:=L.v4;have N:=L.t22;have O:=L.a22;have Q:=L.z22;have S:=L.v22;have T:=L.t25;have U:=L.a25;have V:=L.z25;have X:=L.v25;have Y:∀b w,(callFunc _ b).run P w= .ok _ w:=L.f6.enters rfl;obtain⟨Z,aI,rfl,_,_⟩:=id h.E;have r:=Lib.H (Y0 {L with} k i j o R d l F _ w h p g c q f);generalize l.length=n at*;generalize idxOf p l=m at*;clear h f d;obtain⟨_,_,s⟩:=L.f8;go_enter s,SlBodyH.n8_ntmps ρ;go_wp2_with(go_at_fn(ρ.f 6);refine r.U.M ?_;rintro e w' ⟨rfl,t⟩);go_ret;exact⟨rfl,t⟩
def asV(L:Proofs.SlLaysH.n6 P ρ)(enc:α→eQ)(l)(F)(v)(w)(h:bS w F 1 (Flat fun x=>[enc x]) v l)
  (p) (g:Nat) (lb) (eg:∀args w,(callFunc g args).run P w= .ok (.enter g args) w) (hp:UU P g lb (fun _ x u=>u=enc x) l p w):
  eE P (ρ.f 6) #[v,LW g lb] w fun e w'=>e=idxOf p l∧bi w w w':=by
 have mixed:=L.mixed;have t0:=L.t0;have a0:=L.a0;have z0:=L.z0;have v0:=L.v0;have t3:=L.t3;have a3:=L.a3;have z3:=L.z3;have v3:=L.v3;have t4:=L.t4;have a4:=L.a4;have z4:=L.z4;have v4:=L.v4;have t22:=L.t22;have a22:=L.a22;have z22:=L.z22;have v22:=L.v22;have a23:=L.a23;have z23:=L.z23;have t25:=L.t25;have a25:=L.a25;have z25:=L.z25;have v25:=L.v25
 obtain⟨ao,cap,rfl,h1,h2⟩:=h.E
 have QS:HO (∀(W:cJ),bi w.heap.size w W→∀(j:Nat) x,l[j]? =some x→∃b off,ao=some ⟨b,off,none⟩∧W.cell? ⟨b,off+j,none⟩=some (enc x)):=fun W hW j x hj=>by
  obtain⟨b,off,cap',cs,e,_,hb,hl,hr,hc⟩:=h.at hj (by omega)
  simp only [cL] at e
  obtain⟨rfl,-,-⟩:=e
  refine⟨b,off,rfl,?_⟩
  rw [hW.Z (p:=⟨b,off+j,none⟩) hb]
  have:=hc 0 (enc x) (by rw [hr];rfl)
  rw [Qg,PI] at this;exact this
 obtain⟨n,hn⟩:∃n,l.length=n:=⟨_,rfl⟩
 have HN:=Lib.H hn
 have HP:=Lib.H hp
 rw [hn] at h1 ⊢
 have Hb:n≤9223372036854775807:=by unfold pJ at h2;omega
 clear h hn hp h1 h2
 obtain⟨_,_,FG⟩:=L.f6
 go_enter FG,SlBodyH.n6_ntmps ρ
 go_wp2
 go_loopg [5,8] n (fun gg _ s8 wr=>∃kk:Nat,kk≤n∧n-kk≤gg∧s8= .int .i64 kk∧HO (bi w.heap.size w wr)∧HO (∀(j:Nat) y,j<kk→l[j]? =some y→p y=false))
 case atStart=>exact⟨0,fy _,by omega,rfl,bi.refl _ w,fun j y hj=>QU hj (Nat.not_lt_zero _)⟩
 case round=>
  obtain⟨kk,qX,hg,rfl,BW,A⟩:=hrel
  by_cases hlt:kk<n
  ·have Y1:(kk:Int)<(n:Int):=by omega
   obtain⟨x,hx⟩:∃x,l[kk]? =some x:=⟨_,List.getElem?_eq_getElem (by have:=HN.U;omega)⟩
   obtain⟨b,off,rfl,l2⟩:=QS.U wr BW.U kk x hx
   have Hd:=HP.U wr x _ BW.U (fx hx) rfl
   have hz:=BW.U.size
   have HX:=Lib.H hx
   clear QS HP hx
   generalize enc x=ca at*
   cases hq:p x with
   |true=>
    rw [hq] at Hd
    have HQ:=Lib.H hq
    clear hq
    go_wp2_with (go_at_fn g;refine Hd.M ?_;rintro e w' ⟨rfl,hb'⟩)
    go_ret
    exact⟨by rw [idxOf_hit p l kk x HX.U HQ.U A.U];rfl,BW.U.J (hb'.M hz)⟩
   |false=>
    rw [hq] at Hd
    have HQ:=Lib.H hq
    clear hq
    go_wp2_with (go_at_fn g;refine Hd.M ?_;rintro e w' ⟨rfl,hb'⟩)
    go_roundg (n-(kk+1))
    case measure=>omega
    case rel=>
     refine⟨kk+1,by omega,by omega,by go_num,BW.U.J (hb'.M hz),(show HO _ from fun j y hj hy=>?_)⟩
     by_cases e:j=kk
     ·subst e
      have:=HX.U
      rw [hy] at this
      rw [AI this];exact HQ.U
     ·exact A.U j y (by omega) hy
  ·have Y1:¬(kk:Int)<(n:Int):=by omega
   have:kk=n:=by omega
   subst this
   go_wp2
   go_ret
   refine⟨?_,BW.U⟩
   rw [idxOf_miss p l (fun j y hy=>A.U j y (by have:=(List.getElem?_eq_some_iff.1 hy).1;have:=HN.U;omega) hy)]
   rfl
def QT(L:Proofs.SlLaysH.n8 P ρ)(b:α->eQ)(l)(F)(v)(w)(h:bS w F 1 (Flat λ x=>[b x]) v l)(p)(g:Nat)(c)(i:∀a w,(callFunc g a).run P w= .ok (.enter g a) w)(d:UU P g c (λ _ x u=>u=b x) l p w):eE P (ρ.f 8) #[v,LW g c] w λ e f=>e=l.any p/\bi w w f:=by rw[agM];have q:=L.mixed;have r:=L.t0;have s:=L.a0;have t:=L.z0;have y:=L.v0;have z:=L.t3;have A:=L.a3;have B:=L.z3;have C:=L.v3;have D:=L.t4;have E:=L.a4;have G:=L.z4;have H:=L.v4;have I:=L.t22;have J:=L.a22;have K:=L.z22;have M:=L.v22;have N:=L.a23;have O:=L.z23;have Q:=L.t25;have R:=L.a25;have S:=L.z25;have T:=L.v25;have U:∀a w,(callFunc _ a).run P w= .ok _ w:=L.f6.enters rfl;obtain⟨V,W,rfl,_,_⟩:=id h.E;have j:=Lib.H (asV {L with} b l F _ w h p g c i d);generalize l.length=n at*;generalize idxOf p l=m at*;clear h d;obtain⟨_,_,k⟩:=L.f8;go_enter k,SlBodyH.n8_ntmps ρ;go_wp2_with(go_at_fn(ρ.f 6);refine j.U.M ?_;rintro e f ⟨rfl,o⟩);go_ret;exact⟨rfl,o⟩
end
section
open _root_.Go.RowKit yj
def ym(a:Int):Int×Int×Bool:=if a=1\/a=2 then(-524288,524287,true)else if a=4\/a=5 then(0,1,true)else if a=15\/a=16 then(1,24,true)else(0,0,false)
def atm(a w):eE am 367 #[bs a] w λ e b=>ea e (.tuple #[(ym a).1,(ym a).2.1,(ym a).2.2])/\w=b:=by
 by_cases b:a=1;·subst b;go_enter func367,ntmps367;go_wp2_with fail;go_ret3;exact oK
 have b:(a==1)=false:=by grind
 by_cases b:a=2;·subst b;go_enter func367,ntmps367;go_wp2_with fail;go_ret3;exact oK
 have b:(a==2)=false:=by grind
 by_cases b:a=4;·subst b;go_enter func367,ntmps367;go_wp2_with fail;go_ret3;exact oK
 have b:(a==4)=false:=by grind
 by_cases b:a=5;·subst b;go_enter func367,ntmps367;go_wp2_with fail;go_ret3;exact oK
 have b:(a==5)=false:=by grind
 by_cases b:a=15;·subst b;go_enter func367,ntmps367;go_wp2_with fail;go_ret3;exact oK
 have b:(a==15)=false:=by grind
 by_cases b:a=16;·subst b;go_enter func367,ntmps367;go_wp2_with fail;go_ret3;exact oK
 have b:(a==16)=false:=by grind
 have e:ym a=(0,0,false):=by unfold ym;rw[QI oo,QI oo,QI oo]
 rw[e];go_enter func367,ntmps367;go_wp2_with fail;go_ret3;exact oK
def isRight(i:Is):Bool:=decide (0<=i.op)&&decide (i.op<18)&&decide ((ym i.op).1<=i.a)&&decide (i.a<=(ym i.op).2.1)
def Iy(a:Is):zs (isRight a=true):=.m
def atn(i w):eE am 336 #[.agg #[i.op,i.a]] w λ e b=>e=isRight i/\bi w w b:=by
 obtain⟨c,a⟩:=i;have d:=Lib.H (λ v=>atm c v);unfold isRight;simp only;obtain⟨v,g⟩:∃v,(ym c).1=v:=⟨_,rfl⟩;obtain⟨f,h⟩:∃f,(ym c).2.1=f:=⟨_,rfl⟩;obtain⟨j,k⟩:∃j,(ym c).2.2=j:=⟨_,rfl⟩;rw[g,h,k]at d;rw[g,h];by_cases g:0<=c;·rw[Rk g];by_cases h:c<18;(·rw[Rk h];by_cases j:v<=a;(·rw[Rk j];by_cases c:a<=f;(·rw[Rk c];go_enter func336,ntmps336;go_wp2_with fail;refine(d.U _).M ?_;rintro e b ⟨rfl,rfl⟩;go_wp2_with fail;go_ret;exact⟨by exact oK,(bi.refl ..).alloc .Y _⟩);·rw[RA c];go_enter func336,ntmps336;go_wp2_with fail;refine(d.U _).M ?_;rintro e b ⟨rfl,rfl⟩;go_wp2_with fail;go_ret;exact⟨by first|rfl|(simp only[RA c];rfl)|simp[c],(bi.refl ..).alloc .Y _⟩);·rw[RA j];go_enter func336,ntmps336;go_wp2_with fail;refine(d.U _).M ?_;rintro e b ⟨rfl,rfl⟩;go_wp2_with fail;go_ret;exact⟨by exact oK,(bi.refl ..).alloc .Y _⟩);·rw[RA h];go_enter func336,ntmps336;go_wp2_with fail;refine(d.U _).M ?_;rintro e b ⟨rfl,rfl⟩;go_wp2_with fail;go_ret;exact⟨by exact oK,(bi.refl ..).alloc .Y _⟩
 ·rw[RA g];go_enter func336,ntmps336;go_wp2_with fail;refine(d.U _).M ?_;rintro e b ⟨rfl,rfl⟩;go_wp2_with fail;go_ret;exact⟨by exact oK,(bi.refl ..).alloc .Y _⟩
def qF(p:List Is):Bool:=decide (p.length<=24)&&! p.any λ i=>! isRight i
def ato(i w):eE am 335 #[.agg #[i.op,i.a]] w λ e c=>e=! isRight i/\bi w w c:=by have d:=Lib.H (λ v=>atn i v);generalize isRight i=b at*;obtain⟨v,a⟩:=i;simp only at d⊢;go_enter func335,ntmps335;go_wp2_with fail;refine(d.U _).M ?_;rintro e c ⟨rfl,d⟩;have e:HO _:=((bi.refl ..).alloc .Y _).J (d.M (by simp));go_wp2_with fail;go_ret;exact oK
def Y2(p F v w)(h:lL w F v p):eE am 283 #[v] w λ e c=>e=qF p/\bi w w c:=by
 obtain⟨g,j,rfl,_,d⟩:=id h.E;have f:=NT Tryz.as1 2 oo isAgg158 sizeOf158 (λ _=>Flat wm) (λ _ _ _ _ _ a=>a) p F _ w h _ 335 #[] (Qh func335 kk rfl) (λ W x u a _⟨k,n,_,b⟩=>by rw[n,b];exact ato x W);have u:=Lib.H f;unfold qF;obtain⟨n,x⟩:∃n,p.length=n:=⟨_,rfl⟩;rw[x]at u⊢;generalize(p.any _)=b at*;have k:n<=9223372036854775807:=by unfold pJ at d;omega
 by_cases i:n<=24;·rw[Rk i];go_enter func283,ntmps283;go_wp2_with fail;refine u.U.M ?_;rintro e c ⟨rfl,a⟩;have W:=Lib.H a;go_wp2_with fail;go_ret;exact oK
 ·rw[RA i];go_enter func283,ntmps283;go_wp2_with fail;go_ret;exact⟨rfl,bi.refl ..⟩
end
section
open _root_.Go.RowKit yj
def QW(a:List Int):a.flatMap iC=a.map (nR .i64):=by induction a with|nil=>rfl|cons n a b=>rw[vL,b];rfl
def agS(g)(l)(c:List Int)(F)(w)(h:gQ w F g l)(q:l+4*c.length<=100000000)(n)(r:c.length=n):eE am 121 #[g,xf w 0 n] (w.alloc (.cells (c.map (nR .i64)) 3)) λ e f=>e= .returned (bs (if c.all pX then 0 else 2))/\gQ f (E2 F w) g (if c.all pX then l++jO c else l)/\aA w f F:=by
 subst r;obtain⟨d,i⟩:∃d,w.alloc (.cells (c.map (nR .i64)) 3)=d:=ax;obtain⟨X,m⟩:∃X,w.heap.size=X:=ax;have o:bi w w d:=by rw[<-i];exact(bi.refl ..).alloc .Y _
 have p:d.heap[X]?=some _:=(mm i m w)
 have v:=aQ p;have s:Ints d (λ k=>k=X) (.slice X c c) c:=by refine⟨_,c,c.map (nR .i64),rfl,.Y,et,?_,VK,λ j u a=>⟨X,0,rfl,rfl,?_⟩⟩;have:=oh (k:=1) (enc:=iC) (λ _=>rfl) c;rw[QW]at this;exact this;exact Hs p
 have u:gQ d (λ k=>F k/\k<X) g l:=(h.M (λ k a b=>⟨b,oo⟩)).B o;rw[i,m];refine(QN g l c (λ k=>F k/\k<X) (λ k=>k=X) d _ u s oo q).M λ e f ⟨j,b,t⟩=>⟨j,b.M (λ k _ a=>?_),(aA.bR o F oo).J t (λ _ _ a=>a.1)⟩;grind
def Br(i:Is):List UInt8:=eT i.op++eT i.a
def xx(p:List Is):List UInt8:=eT (p:Nat)++p.flatMap Br
def agT{i}(h:Iy i):pX i.op=true/\pX i.a=true:=by unfold isRight ym at h;simp at h;obtain⟨⟨⟨a,b⟩,c⟩,d⟩:=h;unfold pX;simp ;grind
def Y3{p}(h:qF p=true):p.length<=24/\∀i∈p,Iy i:=by unfold qF at h;grind
def atp(p:List Is):(p.flatMap Br)=8*p.length:=by induction p with|nil=>rfl|cons x p a=>rw[vL,da,a,pn];show 8+_=_;omega
def atq(g)(l)(p)(F G)(w)(v)(h:gQ w F g l)(hx:lL w G v p)(hG:Al G F)(hl:l.length≤50000000):
  eE am 209 #[g,v] w fun e w'=>e= .returned (bs (if qF p then 0 else 1))∧gQ w' (E2 F w) g (if qF p then l++xx p else l)∧aA w w' F:=by
 have HF:=Lib.H (Y2 p G v w hx)
 by_cases hf:qF p=true
 ·rw [hf] at HF
  rw [QJ hf,QJ hf]
  let⟨ny,hall⟩:=Y3 hf
  have UP:=Lib.H hall
  obtain⟨ao,cap,rfl,_,_⟩:=id hx.E
  obtain⟨n,hn⟩:∃n,p.length=n:=ax
  have HN:=Lib.H hn
  have CH:HO (∀(j:Nat) (w':cJ),aA w w' F→j<n→∃b off i,p[j]? =some i∧ao=some ⟨b,off,none⟩∧w'.cell? ⟨b,off+j*2,none⟩=some (.int .i64 i.op)∧w'.cell? ⟨b,off+j*2+1,none⟩=some (.int .i64 i.a)):=fun j w' hc hj=>by
   obtain⟨i,hi⟩:∃i,p[j]? =some i:=⟨_,List.getElem?_eq_getElem (by omega)⟩
   obtain⟨b,off,cap',cs,e,Fw,hlt,_,hR,hcell⟩:=hx.at hi (by omega)
   simp only [cL] at e
   obtain⟨rfl,-,-⟩:=e
   have k0:=hcell 0 i.op (by rw [hR];rfl)
   have k1:=hcell 1 i.a (by rw [hR];rfl)
   exact⟨b,off,i,hi,rfl,(hc.Z hlt (hG b Fw)).J k0,(hc.Z hlt (hG b Fw)).J k1⟩
  have hw0:∀w0,bi w.heap.size w w0→gQ w0 (fun k=>(F k∧k<w)∨w≤k) g l∧aA w w0 F:=fun w0 hb=>⟨(h.M (fun k a b=> .N ⟨b,a⟩)).B hb,aA.bR hb F (fun i a b=>by omega)⟩
  have UY:=Lib.H hw0
  have j6:pX (n:Int)=true:=by unfold pX;rw [Rk (by omega),Rk (by omega)];rfl
  have HFL:=Lib.H j6
  rw [hn] at HF ⊢
  rw [hn] at ny
  have HPB:HO (xx p=eT (n:Nat)++(p.take n).flatMap Br):=by unfold xx;rw [hn,GA (by omega)];rfl
  have att:HO (∀w5:cJ,gQ w5 (fun k=>(F k∧k<w.heap.size)∨w.heap.size≤k) g (l++eT (n:Nat)++(p.take n).flatMap Br)→gQ w5 (fun k=>(F k∧k<w)∨w≤k) g (l++xx p)):=fun w5 h5=>by rw [HPB.U,←pB];exact h5
  clear hall hn h hx hG hw0 j6 HPB
  go_enter func209,ntmps209
  go_wp2_with fail
  refine HF.U.M ?_
  rintro e w0 ⟨rfl,hb0⟩
  obtain⟨h0,c0⟩:=UY.U w0 hb0
  have z0:=hb0.size
  have Ax:=agS g l [(n:Int)] _ w0 h0 (ik) 1 rfl
  rw [show [(n:Int)].all pX=true by simp [HFL.U]] at Ax
  simp only [RC] at Ax
  have Jh:=Lib.H Ax
  have HC0:=Lib.H c0
  clear hb0 h0 c0 Ax HF UY
  go_wp2_with fail
  refine Jh.U.M ?_
  rintro e w1 ⟨rfl,h1,c1⟩
  have Ll:HO (gQ w1 (fun k=>(F k∧k<w)∨w≤k) g (l++eT (n:Nat))):=by
   have:=h1.M (G:=fun k=>(F k∧k<w.heap.size)∨w.heap.size≤k) (fun k _ a=>by
    rcases a with⟨a,_⟩|a
    ·exact a
    ·exact .I (by omega))
   exact(by simpa [jO] using this:gQ w1 (fun k=>(F k∧k<w.heap.size)∨w.heap.size≤k) g (l++eT (n:Nat)))
  have CK:HO (aA w w1 F):=HC0.U.J c1 (fun k hk a=>by
   rcases a with a|a
   ·exact a.1
   ·omega)
  clear h1 c1 Jh HC0
  go_wp2_with fail
  go_loopw [21] (fun i wr=>∃j:Nat,j≤n∧i= .int .i64 j∧HO (gQ wr (fun k=>(F k∧k<w)∨w≤k) g (l++eT (n:Nat)++(p.take j).flatMap Br))∧HO (aA w wr F)) (fun i _=>n-(intOf i).toNat)
  case atStart=>exact⟨0,by omega,rfl,(by simpa using Ll.U:gQ w1 _ g _),CK.U⟩
  case round=>
   obtain⟨j,hj,rfl,HW,HC⟩:=hrel
   clear Ll CK
   by_cases hlt:j<n
   ·obtain⟨b,off,⟨op,a⟩,hi,rfl,k0,k1⟩:=CH.U j wr HC.U hlt
    simp only at k0 k1
    obtain⟨f1,f2⟩:=agT (UP.U _ (fx hi))
    obtain⟨wb,gh⟩:∃wb,wr.alloc (.cells #[op,a] 158)=wb:=ax
    have oX:bi wr wr wb:=by rw [←gh];exact(bi.refl _ _).alloc (kg _) _
    obtain⟨X,hX⟩:∃X,wr.heap.size=X:=ax
    have qW:wb.heap[X]? =some (.cells #[op,a] 158):=by rw [←gh,←hX];exact aap wr
    have m0:wb.cell? ⟨X,0,none⟩=some (.int .i64 op):=aO qW rfl
    have m1:wb.cell? ⟨X,1,none⟩=some (.int .i64 a):=aO qW rfl
    have mM:(l++eT (n:Nat)++(p.take j).flatMap Br).length≤50000400:=by
     rw [da,da,atp,pS]
     have:(eT (n:Nat)).length=4:=rfl
     omega
    have Ax:=agS g _ [op,a] _ wb (HW.U.B oX) (by have:[op,a].length=2:=rfl;omega) 2 rfl
    rw [show [op,a].all pX=true by simp only [List.all_cons,List.all_nil,f1,f2,Bool.and_true]] at Ax
    simp only [RC] at Ax
    have Jh:=Lib.H Ax
    have hzr:=HC.U.size
    have hzb:=oX.size
    have HK:HO (∀w5,gQ w5 (fun k=>(((F k∧k<w)∨w≤k)∧k<wb)∨wb≤k) g (l++eT (n:Nat)++(p.take j).flatMap Br++jO [op,a])→aA wb w5 (fun k=>(F k∧k<w.heap.size)∨w.heap.size≤k)→
      gQ w5 (fun k=>(F k∧k<w.heap.size)∨w.heap.size≤k) g (l++eT (n:Nat)++(p.take (j+1)).flatMap Br)∧aA w w5 F):=fun w5 h5 c5=>by
     have e:p.take (j+1)=p.take j++[⟨op,a⟩]:=by rw [uk,hi];rfl
     rw [e,vG,←pB]
     refine⟨h5.M (fun k _ q=>?_),(HC.U.J ((aA.bR oX (fun k=>(F k∧k<w.heap.size)∨w.heap.size≤k) (fun i q1 q2=>by omega)).J c5 (fun _ _ q=>q)) (fun k hk q=>?_))⟩
     ·rcases q with⟨q,_⟩|q
      ·exact q
      ·exact .I (by omega)
     ·rcases q with q|q
      ·exact q.1
      ·omega
    clear Ax hi f1 f2 oX qW mM HW HC
    go_wp2_with fail
    try rw [gh]
    try rw [hX]
    go_wp2_with fail
    refine Jh.U.M ?_
    rintro e w5 ⟨rfl,h5,c5⟩
    have HK5:=Lib.H (HK.U w5 h5 c5)
    clear h5 c5 Jh HK
    go_wp2_with fail
    go_roundw
    case rel=>exact⟨j+1,by omega,by go_num,HK5.U.1,HK5.U.2⟩
    case measure=>simp [intOf];omega
   ·obtain rfl:j=n:=by omega
    go_wp2_with fail
    go_ret
    exact⟨rfl,att.U _ HW.U,HC.U⟩
 ·rw [QI hf,QI hf]
  rw [Bool.eq_false_iff.2 hf] at HF
  have UY:HO (∀w0,bi w.heap.size w w0→gQ w0 (fun k=>(F k∧k<w)∨w≤k) g l∧aA w w0 F):=fun w0 hb=>⟨(h.M (fun k a b=> .N ⟨b,a⟩)).B hb,aA.bR hb F (fun i a b=>by omega)⟩
  obtain⟨ao,cap,rfl,_,_⟩:=id hx.E
  generalize p.length=n at*
  clear h hx hG hf
  go_enter func209,ntmps209
  go_wp2_with fail
  refine HF.U.M ?_
  rintro e w0 ⟨rfl,hb0⟩
  have HB:=Lib.H (UY.U w0 hb0)
  clear hb0
  go_wp2_with fail
  go_ret
  exact⟨rfl,HB.U.1,HB.U.2⟩
end
section
open _root_.Go.RowKit yj
def agX{P w F ts ty e i z c l n v b}(q:Bw P ts e)(r:xv P e i)(s:C3 i z)(t:i.size=c)(x:i.bytes=l)(y:z.cells.size=c)(m:Sl w F e c v n b)(a)(C:a.size=c)(A:hJ a.toList)(B:n+1<=pJ)(D:C2 (n+1) l):∃d f h j g,v= .slice d n f/\zw P (pV #[ts,ts] ty #[.slice d n f,xf w 0 1]) (w.alloc (.cells a e))= .ok (.slice h (n+1) j) g/\Sl g (E2 F w) e c (.slice h (n+1) j) (n+1) (b++a.toList)/\aA w g F/\w<g.heap.size:=by obtain⟨d,f,rfl,_,_⟩:=m.E;have o:(w.alloc (.cells a e)).heap.size=w+1:=World.size_alloc ..;have o:Sl (w.alloc (.cells a e)) (λ k=>F k/\k<w) e c _ n b:=(m.M (hP)).V λ k b _=>Jm _ _ _ b.2;obtain⟨G,g,E,m,p⟩:=Fu ts ty e i z c l q r s t x y o (jn.laid (c:=1) (rC w _) (pG C) A) B D;obtain⟨h,j,rfl,_,_⟩:=m.E;have D:∀k,(tf d n f).ownBlock=some k->F k/\k<w:=λ k b=>(zm o b).1;refine⟨d,f,h,j,g,rfl,E,m.M λ k _ b=>?_,((aA.Y w F).alloc _).J p (λ k _ a=>(D k a).1),qk oo p.size⟩;grind
def atu:am.underlying 38=some (.slice 158):=kk
def Tryz.agY:(am.info? 158).map (λ i=>(i.zero,i.size,i.bytes))=some (some (.agg #[bs 0,bs 0]),2,16):=kk
def agZ(l:List Is):hJ (l.flatMap wm):=by intro u a;obtain⟨x,_,l⟩:=He.1 a;simp only[wm,us,xz,or_false]at l;rcases l with rfl|rfl<;>rfl
def Ay:Nat->List Is->List UInt8->List Is×Int×List UInt8|0,a,l=>if qF a then(a,0,l)else([],4,l)|k+1,a,l=>if(within 0 17 l).2.1=0 then(if(within (-2147483648) 2147483647 (within 0 17 l).2.2).2.1=0 then Ay k (a++[⟨(within 0 17 l).1,(within (-2147483648) 2147483647 (within 0 17 l).2.2).1⟩]) (within (-2147483648) 2147483647 (within 0 17 l).2.2).2.2 else([],(within (-2147483648) 2147483647 (within 0 17 l).2.2).2.1,(within (-2147483648) 2147483647 (within 0 17 l).2.2).2.2))else([],(within 0 17 l).2.1,(within 0 17 l).2.2)
def wu(l:List UInt8):List Is×Int×List UInt8:=if(within 0 24 l).2.1=0 then Ay (within 0 24 l).1.toNat [] (within 0 24 l).2.2 else([],(within 0 24 l).2.1,(within 0 24 l).2.2)
def Lm(a b l):(within a b l).2.2<=l.length:=by unfold within;grind
def NU{a b l}(h:(within a b l).2.1=0):f9 a ((within a b l).1) b:=by
 unfold within at*;split at h;·cases h
 rename_i c;rw[QI c];grind
def atv(g)(l)(w)(h:lf w g l)(hm:l.length≤140737488351232):eE am 285 #[g] w fun e w'=>
  ∃v,ea e (.tuple #[v,(wu l).2.1])∧lL w' (fun k=>w≤k) v (wu l).1∧lf w' g (wu l).2.2∧vn w w' g:=by
 have fD:=aQ h
 have HW:=(zt (US g l w 0 24 h hm))
 obtain⟨R,hR⟩:∃R,wu l=R:=ax
 have HR:=Lib.H hR
 rw [hR]
 unfold wu at hR
 have uS:=Lm 0 24 l
 have Jn:=@NU 0 24 l
 generalize within 0 24 l=r0 at*
 obtain⟨n,e0,l0⟩:=r0
 simp only at hR uS Jn HW
 by_cases he:e0=0
 ·subst he
  rw [QJ rfl] at hR
  obtain⟨sU,mO⟩:=Jn rfl
  obtain⟨m,rfl⟩:=Int.eq_ofNat_of_zero_le sU
  rw [ux] at hR
  have Ha:=Lib.H hR
  clear h hR Jn
  go_enter func285,ntmps285
  go_wp2_with fail
  refine HW.U.M ?_
  rintro e w1 ⟨rfl,h1,c1⟩
  have NV:=Lib.H h1
  have CK:=Lib.H c1
  clear h1 c1 HW
  go_wp2_with fail
  go_loopg [6,19] m (fun kk v6 i wr=>∃(j:Nat) (acc:List Is) (l1:List UInt8),j+kk=m∧i= .int .i64 j∧HO (lf wr g l1)∧HO (Sl wr (fun k=>w.heap.size≤k) 158 2 v6 j (acc.flatMap wm))∧HO (aA w wr (fun k=>k=g))∧HO (Ay kk acc l1=R)∧HO (acc.length=j∧l1.length≤140737488351232))
  case atStart=>exact⟨0,[],l0,by omega,rfl,NV.U,lg,CK.U,Ha.U,rfl,by omega⟩
  case round=>
   clear NV CK Ha
   obtain⟨wq,QX⟩:∃wq:cJ,wq=wr:=ax
   rw [←QX] at hrel ⊢
   clear QX
   obtain⟨j,acc,l1,hj,rfl,QY,Az,HC,HG,HL⟩:=hrel
   by_cases hlt:j<m
   ·obtain⟨k2,rfl⟩:∃k2,gk=k2+1:=⟨gk-1,by omega⟩
    have hg:=HG.U
    unfold Ay at hg
    have Bs:=US g l1 wq 0 17 QY.U HL.U.2
    have atw:=Lm 0 17 l1
    have atx:=@NU 0 17 l1
    generalize within 0 17 l1=r1 at*
    obtain⟨op,e1,l2⟩:=r1
    simp only at hg Bs atw atx
    have Ll:=Lib.H Bs
    have hzq:=HC.U.size
    clear Bs
    obtain⟨ao,cap,rfl,_,_⟩:=id Az.U.E
    by_cases xy:e1=0
    ·subst xy
     rw [QJ rfl] at hg
     go_wp2_with fail
     refine Ll.U.M ?_
     rintro e w2 ⟨rfl,h2,c2⟩
     have mO:=UT g l2 w2 h2 (by have:=HL.U.2;omega)
     have atz:=Lm (-2147483648) 2147483647 l2
     generalize within _ _ l2=r2 at*
     obtain⟨a,e2,l3⟩:=r2
     simp only at hg mO atz
     have UZ:=Lib.H mO
     have qE:HO _:=HC.U.J c2 (fun _ _ q=>q)
     have ag1:HO (Sl w2 _ 158 2 _ j _):=Az.U.aG c2 (fun k q=>by omega)
     clear h2 c2 mO Ll QY HC Az HG
     by_cases he2:e2=0
     ·subst he2
      rw [QJ rfl] at hg
      have HG2:=Lib.H hg
      clear hg
      go_wp2_with fail
      refine UZ.U.M ?_
      rintro e w3 ⟨rfl,h3,c3⟩
      obtain⟨i0,hi,hz0,hz1,hz2⟩:=sB Tryz.agY
      have ag3:=ag1.U.aG c3 (fun k q=>by omega)
      obtain⟨Bt,AA,vD,Y4,w4,e9,hrun,s4,c4,z4⟩:=agX (ty:=38) atu hi hz0 hz1 hz2 rfl ag3 #[op,a] rfl (FN) (et) (by omega)
      simp  at e9
      obtain⟨rfl,rfl⟩:=e9
      have kL:=Lib.H hrun
      have hz3:=c3.size
      have Y5:HO _:=(qE.U.J c3 (fun _ _ q=>q)).J (c4.M (fun _ _ q=>q)) (If)
      have HS4:HO (Sl w4 (fun k=>w≤k) 158 2 (.slice vD (j+1) Y4) (j+1) ((acc++[(⟨op,a⟩:Is)]).flatMap wm)):=by
       rw [vG]
       have aLu:=qE.U.size
       exact s4.M fun k _ q=>by
        rcases q with q|q
        ·exact q.1
        ·omega
      have HR4:HO (lf w4 g l3):=c4.heap h3 (fun q=>by omega)
      have HL4:HO ((acc++[(⟨op,a⟩:Is)]).length=j+1∧l3.length≤140737488351232):=⟨by rw [da,HL.U.1];rfl,by have:=HL.U.2;omega⟩
      clear h3 c3 hrun s4 c4 ag3 UZ qE ag1 hi hz0 hz1 hz2
      go_wp2_with (at_builtin;refine (yq kL ?_))
      go_roundg k2
      case measure=>omega
      case rel=>exact⟨j+1,acc++[⟨op,a⟩],l3,by omega,by go_num,HR4,HS4,Y5,HG2,HL4⟩
     ·rw [QI he2] at hg
      subst hg
      clear HL
      go_wp2_with fail
      refine UZ.U.M ?_
      rintro e w3 ⟨rfl,h3,c3⟩
      have Y6:=Lib.H h3
      have rQ:HO _:=qE.U.J c3 (fun _ _ q=>q)
      clear h3 c3 UZ qE
      go_wp2_with fail
      go_ret2
      exact⟨_,rfl,kO,Y6.U,rQ.U⟩
    ·rw [QI xy] at hg
     subst hg
     clear HL
     go_wp2_with fail
     refine Ll.U.M ?_
     rintro e w3 ⟨rfl,h3,c3⟩
     have Y6:=Lib.H h3
     have rQ:HO _:=HC.U.J c3 (fun _ _ q=>q)
     clear h3 c3 Ll HC
     go_wp2_with fail
     go_ret2
     exact⟨_,rfl,kO,Y6.U,rQ.U⟩
   ·obtain rfl:gk=0:=by omega
    obtain rfl:j=m:=by omega
    have hg:=HG.U
    unfold Ay at hg
    have vF:lL wq _ u6 acc:=Sl.rows (by rw [HL.U.1];exact Az.U) (oh (enc:=wm) (fun _=>rfl) acc) (agZ acc) (by omega)
    have HF:=(zt (Y2 acc _ _ wq vF))
    have HRW:=Lib.H vF
    have hzq:=HC.U.size
    have hgq:=aQ QY.U
    obtain⟨ao,cap,rfl,_,_⟩:=id Az.U.E
    clear vF HG Az HL
    by_cases hf:qF acc=true
    ·rw [QJ hf] at hg
     subst hg
     rw [hf] at HF
     go_wp2_with fail
     refine HF.U.M ?_
     rintro e w3 ⟨rfl,hb3⟩
     have jv:=Lib.H hb3
     clear hb3 HF
     go_wp2_with fail
     go_ret2
     exact⟨_,rfl,HRW.U.vB jv.U .Y,QY.U.B jv.U,HC.U.J (aA.bR jv.U (fun _=>False) (If)) (fun _ _ q=>q.F)⟩
    ·rw [QI hf] at hg
     subst hg
     rw [Bool.eq_false_iff.2 hf] at HF
     go_wp2_with fail
     refine HF.U.M ?_
     rintro e w3 ⟨rfl,hb3⟩
     have jv:=Lib.H hb3
     clear hb3 HF
     go_wp2_with fail
     go_ret2
     exact⟨_,rfl,kO,QY.U.B jv.U,HC.U.J (aA.bR jv.U (fun _=>False) (If)) (fun _ _ q=>q.F)⟩
 ·rw [QI he] at hR
  subst hR
  clear h Jn
  go_enter func285,ntmps285
  go_wp2_with fail
  refine HW.U.M ?_
  rintro e w1 ⟨rfl,h1,c1⟩
  have NV:=Lib.H h1
  have CK:=Lib.H c1
  clear h1 c1 HW
  go_wp2_with fail
  go_ret2
  exact⟨_,rfl,kO,NV.U,CK.U⟩
end
section
open _root_.Go.RowKit _root_.Go.Shelf
section
variable {P:xm} {ρ:Ren}
def QZ(L:Proofs.SlLaysE0.n41 P ρ)(d z b l)(p:xv P (ρ.t 23) d)(q:C3 d z)(r:d.size=b)(s:d.bytes=l)(t:z.cells.size=b)(M:0<b)(N:∀w,sa (Go.sizeOf (ρ.t 23)) P w b)(v n)(f)(w)(x:jn w b v n f)(O:n<=pJ)(y:C2 n l):eE P (ρ.f 41) #[v] w λ e g=>∃i,ea e i/\Sl g w (ρ.t 23) b i n f/\bi w w g:=by have Q:=L.mixed;have m:=L.t22;have R:∀(w:cJ)(a:Option _)(n c h j:Nat),(binOp _ _ _ _).run P w= .ok _ w:=λ w a n c h j=>Lib.run_eql_slice_nil w _ _ a n c h j L.t22;have S:=oZ m;obtain⟨o,A,B,c,rfl,C⟩:=id x;cases B with|none=>have j:n=0:=oV;subst j;obtain rfl:f=[]:=wI (by simpa using o);obtain⟨_,_,e⟩:=L.f41;go_enter e,Proofs.SlBodyN.n41_ntmps ρ;go_wp2;go_ret;exact⟨_,rfl,Sl.nil ..,bi.refl ..⟩|some a=>have D:Sl _ (λ k=>k=w) (ρ.t 23) b _ 0 []:=⟨by simp,.I ⟨w,0,0,#[],rfl,rfl,rC w _,by simp,by omega,by simp,by simp⟩⟩;have E:jn (w.alloc (.cells #[] (ρ.t 23))) b _ n f:=⟨o,A,some a,c,rfl,λ F=>by obtain⟨G,H,I⟩:=C F;refine⟨G,H,λ j u J=>?_⟩;have h:=I j u J;rw[cJ.cell?_of_block (Jm _ _ _ (uK h))];exact h⟩;obtain⟨i,g,G,j,H⟩:=Fu _ (ρ.t 22) _ d z b l m p q r s t D E oo (by rw[KW];exact y);rw[KW,xe]at j;have I:=Lib.H G;(have J:HO (Sl g w _ b i n f):=j.M λ k _ u=>by rcases u with⟨rfl,_⟩|rfl;omega;simp);have K:HO _:=(((aA.Y w _).alloc _).J H (λ k u h=>by simp[ON]at h;omega)).B .Y (λ _ _ h=>h);obtain⟨_,_,e⟩:=L.f41;go_enter e,Proofs.SlBodyN.n41_ntmps ρ;go_wp2_with(at_builtin;refine Aw rfl rfl rfl rfl I.U ?_);go_ret;exact⟨_,rfl,J.U,K.U⟩
end
def Tryz.Fy:(am.info? 3).map (λ i=>(i.zero,i.size,i.bytes))=some (some (.int .i64 0),1,8):=kk
def Lo(l:List Int):hJ (l.flatMap iC):=by intro u a;obtain⟨x,_,l⟩:=He.1 a;simp only[iC,xd]at l;subst l;rfl
def U0(l)(F)(v w)(h:Ints w F v l)(p:l.length<=1000000):eE am 164 #[v] w λ e b=>∃a,ea e a/\Sl b w 3 1 a l (l.flatMap iC)/\Ints b w a l/\bi w w b:=by obtain⟨d,f,g,i,j⟩:=sB Tryz.Fy;obtain⟨q,k,m⟩:=h.news oo;obtain rfl:=k.flat;exact(QZ Tryz.as8 d _ 1 8 f g i j rfl oo sizeOf3 v _ _ w m (by unfold pJ;omega) oo).M λ e b ⟨a,n,c,o⟩=>⟨a,n,c,c.rows k (Lo l) oo,o⟩
def ag4(l)(F)(v w)(h:lL w F v l)(p:l.length<=1000000):eE am 170 #[v] w λ e b=>∃a,ea e a/\lL b w a l/\bi w w b:=by obtain⟨c,d,f,g,i⟩:=sB Tryz.agY;obtain⟨q,k,j⟩:=h.news oo;obtain rfl:=k.flat;exact(QZ Tryz.ata c _ 2 16 d f g i rfl oo sizeOf158 v _ _ w j (by unfold pJ;omega) oo).M λ e b ⟨a,m,n,o⟩=>⟨a,m,n.rows k (agZ l) oo,o⟩
end
def eight{l:List Int}(h:l.length=8):∃a b c d e f g i,l=[a,b,c,d,e,f,g,i]:=by match l,h with|[a,b,c,d,e,f,g,i],_=>grind
def ag5(x F cs w)(h:fw w F x cs)(hf:x.bA.length<=1000000)(hp:x.prog.length<=1000000):eE am 93 #[cs] w λ e z=>∃J,ea e (.agg J.toArray)/\fw z w x J/\bi w w z:=by
 have aL:am.follows .mixedOrders=true:=kk;obtain⟨vf,vp,rfl,hr,J,L⟩:=h;obtain⟨b,c,G,M,d,aW⟩:=x;simp only at hr J L hf hp;obtain⟨f,g,i,j,l,m,o,p,rfl⟩:=eight hr;obtain⟨y,A,rfl,_,_⟩:=J.E;obtain⟨r,s,rfl,_,_⟩:=L.E;have CK:HO _:=λ v X=>U0 G F _ v (uh J X) hf;have qE:HO _:=λ v X=>ag4 M F _ v (uh L X) hp;obtain⟨v,nz⟩:∃n,G.length=n:=ax;obtain⟨a,oH⟩:∃n,M.length=n:=ax;have aI:=Lib.H nz;have aJ:=Lib.H oH;simp only[ij,tj,AC];rw[nz]at CK⊢;rw[oH]at qE⊢;obtain⟨X,hX⟩:∃X,w.heap.size=X:=ax;obtain⟨H,R⟩:∃H,w.alloc (.cells #[b,c,.slice y v A,.slice r a s,d,f,g,i,j,l,m,o,p] 41)=H:=ax;obtain⟨Y,S⟩:∃Y,H.heap.size=Y:=ax;obtain⟨n,N⟩:∃n,H.alloc (.cells #[.int .i64 0,.int .i64 0,.slice none 0 0,.slice none 0 0,.int .i64 0,.int .i64 0,.int .i64 0,.int .i64 0,.int .i64 0,.int .i64 0,.int .i64 0,.int .i64 0,.int .i64 0] 41)=n:=ax;have ga:H.heap[X]?=some (.cells #[b,c,.slice y v A,.slice r a s,d,f,g,i,j,l,m,o,p] 41 _):=(mm R hX w)
 have yn:bi w w H:=by rw[<-R];exact(bi.refl ..).alloc .Y _
 have T:n.heap[X]?=some (.cells #[b,c,.slice y v A,.slice r a s,d,f,g,i,j,l,m,o,p] 41 (0,0)):=by rw[<-N];exact qC ga _
 have gy:n.heap[Y]?=some (.cells #[.int _ 0,.int _ 0,.slice _ 0 0,.slice _ 0 0,.int _ 0,.int _ 0,.int _ 0,.int _ 0,.int _ 0,.int _ 0,.int _ 0,.int _ 0,.int _ 0] 41 _):=(mm N S H)
 have oX:bi w w n:=by rw[<-N];exact yn.alloc yn.size _
 have U:HO _:=oX.drew;have QP:HO (n.drew.heap[X]?=some _):=T;have V:HO (n.drew.heap[Y]?=some _):=gy;have B:(λ z=>z.cell? ⟨X,2,none⟩=some (.slice y v A)/\z.cell? ⟨X,3,none⟩=some (.slice r a s)) n.drew:=⟨aO T rfl,aO T rfl⟩;have NW:=aQ V.U;have bt:X<Y:=by rw[<-S];exact aQ ga
 go_enter func93,ntmps93;go_wp2_with fail;try rw[R]
 try rw[hX]
 try rw[N]
 try rw[S]
 refine pZ.region (m:=λ k=>k==7||k==8||k==9) (S:=λ z=>z.cell? ⟨X,2,none⟩=some (.slice y v A)/\z.cell? ⟨X,3,none⟩=some (.slice r a s)) aL ?_;refine pZ.take (i:=0) (v:=?vo0) rfl kk kk kk kk (λ _ _ _ h=>h) (Or.N ⟨kk,?hyo0⟩) B ?aLA;case hyo0=>(intro z I;go_simp;try(with_reducible rfl))
 try simp only[zO,qr,qy,mV,pP,nn]
 refine pZ.take (i:=1) (v:=?vo1) rfl kk kk kk kk (λ _ _ _ h=>h) (Or.N ⟨kk,?hyo1⟩) B ?aLC;case hyo1=>(intro z I;obtain⟨C,K⟩:=I;go_simp;try(with_reducible rfl))
 try simp only[zO,qr,qy,sN,mV,pP,nn]
 refine pZ.take (i:=3) (v:=?vo3) rfl kk kk kk kk (λ _ _ _ h=>h) (Or.N ⟨kk,?hyo3⟩) B ?aLE;case hyo3=>(intro z I;go_simp;try(with_reducible rfl))
 try simp only[zO,qr,qy,sN,mV,pP,nn]
 refine pZ.take (i:=4) (v:=?vo4) rfl kk kk kk kk (λ _ _ _ h=>h) (Or.N ⟨kk,?hyo4⟩) B ?aLG;case hyo4=>(intro z I;obtain⟨C,K⟩:=I;go_simp;try(with_reducible rfl))
 try simp only[zO,qr,qy,sN,mV,pP,nn]
 refine pZ.step (i:=2) kk rfl (λ K C=>?_);go_simp;refine(CK.U _ U.U).M ?_;rintro e W ⟨v1,rfl,-,J,O⟩;obtain⟨t,u,rfl,_,_⟩:=id J.E;rw[aI.U];have H1:=Lib.H J;have YW:HO _:=O.size;have Z:HO _:=(rX U O);have g2:=nU O QP.U (aQ QP.U);have Zb:=Lib.H g2;have B:(λ z=>z.cell? ⟨X,2,none⟩=some (.slice y v A)/\z.cell? ⟨X,3,none⟩=some (.slice r a s)) W:=⟨aO g2 rfl,aO g2 rfl⟩;have Hf:=(zt (nU O V.U (aQ V.U)));have aM:=Z.U.size;go_wp2_with fail;refine C.U _ _ (λ _=>B) ?_;try simp only[zO,qr,qy,sN,mV,pP,nn]
 refine pZ.take (i:=6) (v:=?vo6) rfl kk kk kk kk (λ _ _ _ h=>h) (Or.N ⟨kk,?hyo6⟩) B ?aLI;case hyo6=>(intro z I;go_simp;try(with_reducible rfl))
 try simp only[zO,qr,qy,sN,mV,pP,nn]
 refine pZ.step (i:=5) kk rfl (λ K C=>?_);go_simp;refine(qE.U _ Z.U).M ?_;rintro e I ⟨v2,rfl,L,P⟩;obtain⟨D,E,rfl,_,_⟩:=id L.E;rw[aJ.U];have H2:=Lib.H (L.M (G:=λ k=>n.drew<=k) (λ k _ q=>by have:=YW.U;omega) (aH));have aP:=Lib.H (H1.U.vB P .Y);have jv:HO _:=Z.U.J (P.M aM);have g3:=nU P Zb.U (aQ Zb.U);have U1:=Lib.H g3;have B:(λ z=>z.cell? ⟨X,2,none⟩=some (.slice y v A)/\z.cell? ⟨X,3,none⟩=some (.slice r a s)) I:=⟨aO g3 rfl,aO g3 rfl⟩;have Q2:=(zt (nU P Hf.U (aQ Hf.U)));go_wp2_with fail;refine C.U _ _ (λ _=>B) ?_;try simp only[zO,qr,qy,sN,mV,pP,nn]
 have k2:=B.1;have bB:=kZ U1.U 2;have Q3:HO ((I.setCell ⟨X,2,none⟩ _).heap[X]?=some (.cells #[b,c,.slice t v u,.slice r a s,d,f,g,i,j,l,m,o,p] 41 _)):=heap_setCell_same U1.U _;have k3:=aO Q3.U (i:=3) (v:= .slice r a s) rfl;have bD:=kZ Q3.U 3;refine pZ.step (i:=7) kk rfl (λ K C=>?_);go_simp;refine C.U _ _ (λ z=>QU z dd) ?_;try simp only[zO,qr,qy,sN,mV,pP,nn]
 refine pZ.step (i:=8) kk rfl (λ K C=>?_);go_simp;refine C.U _ _ (λ z=>QU z dd) ?_;try simp only[zO,qr,qy,sN,mV,pP,nn]
 refine pZ.step (i:=9) kk rfl (λ K C=>?_);go_simp;refine C.U _ _ (λ z=>QU z dd) ?_;try simp only[zO,qr,qy,sN,mV,pP,nn]
 refine pZ.done kk ?_;obtain⟨z,Q⟩:∃z,(I.setCell ⟨X,2,none⟩ (.slice t v u)).setCell ⟨X,3,none⟩ (.slice D a E)=z:=ax;rw[Q];have aS:HO (z.heap[X]?=some (.cells #[b,c,.slice t v u,.slice D a E,d,f,g,i,j,l,m,o,p] 41 (0,0))):=by rw[<-Q];exact heap_setCell_same Q3.U _
 have aK:HO (z.heap[Y]?=some (.cells #[.int .i64 0,.int .i64 0,.slice none 0 0,.slice none 0 0,.int .i64 0,.int .i64 0,.int .i64 0,.int .i64 0,.int .i64 0,.int .i64 0,.int .i64 0,.int .i64 0,.int .i64 0] 41 (0,0))):=by rw[<-Q];exact heap_setCell_other (heap_setCell_other Q2.U (show Y≠X by omega) _) (show Y≠X by omega) _
 have Lp:aA I z (λ k=>k=X):=by rw[<-Q];exact((aA.Y I (λ k=>k=X)).setCell (λ _=>rfl) _).setCell (λ _=>rfl) _
 have U2:aA z (z.setRow Y #[b,c,.slice t v u,.slice D a E,d,f,g,i,j,l,m,o,p]) _:=(vY z Y);have aU:=jv.U.size;have aV:HO _:=jv.U.J (((Lp.M oo).J (U2.M (T:=λ k=>X<=k) oo) (λ _ _ q=>q)).B aU oo);have NV:HO (Ints (z.setRow Y #[b,c,.slice t v u,.slice D a E,d,f,g,i,j,l,m,o,p]) w (.slice t G.length u) G):=by have bG:=jv.U.size;exact((aP.U.qD Lp oo).qD U2 oo).M oo (aH)
 have Ha:HO (lL (z.setRow Y #[b,c,.slice t v u,.slice D a E,d,f,g,i,j,l,m,o,p]) w (.slice D M.length E) M):=by exact((H2.U.qD Lp oo).qD U2 oo).M oo (aH)
 have k:(z.setRow Y #[b,c,.slice t v u,.slice D a E,d,f,g,i,j,l,m,o,p]).heap[Y]?=some _:=OB z Y _ _ _ _ aK.U;go_wp2_with(first|(refine wpList_load_row rfl 41 _ rfl X rfl 41 _ _ _ aS.U underlying41 rfl kk ?_)|(refine wpList_store_row rfl 41 _ _ rfl Y _ rfl rfl 41 _ aK.U kk rfl kk ?_));refine bodyPost_ret (results_cell_row rfl _ _ Y 41 _ _ _ rfl k underlying41 rfl kk) rfl (⟨_,rfl,⟨_,_,rfl,rfl,?_,?_⟩,aV.U⟩);have:=NV.U;rw[aI.U]at this;exact this;have:=Ha.U;rw[aJ.U]at this;exact this
def NX:am.underlying 22=some (.slice 41):=kk
def Tryz.Q5:(am.info? 41).map (λ i=>(i.zero,i.size,i.bytes))=some (some (.agg #[bs 0,bs 0,it,it,bs 0,bs 0,bs 0,bs 0,bs 0,bs 0,bs 0,bs 0,bs 0]),13,136):=kk
def wv(w:cJ)(B Z:Nat)(v:eQ)(l:List Nd):Prop:=∃(D:Nat->Prop)(a:List eQ),Sl w D 41 13 v l a/\Cs 13 (fw w (λ k=>B<=k/\¬D k)) l a/\∀k,D k->B<=k/\k<Z
def eJ(x:Nd):Prop:=x.bA.length<=1000000/\x.prog.length<=1000000
def lV(a:List Nd):zs (∀b∈a,eJ b):=.m
def Jo(a:List Sp):zs (∀b∈a,eJ b.node):=.m
def U3{k}{R}(c:∀x a,R x a->hJ a){l:List Nd}{b}(h:Cs k R l b):hJ b:=by induction l generalizing b with|nil=>simp only[Cs]at h;subst h;simp|cons x l d=>obtain⟨a,e,rfl,_,f,g⟩:=h;grind
def wv.rows{w B Z v l}(h:wv w B Z v l):dj w (λ k=>B<=k) v l:=by obtain⟨D,j,d,e,f⟩:=h;have c:=e.M (S:=fw w (λ k=>B<=k)) (λ x g _ a=>a.M nw);exact(d.M λ k _ b=>(f k b).1).rows c (U3 (λ x g a=>a.O) c) oo
def wv.B{w w' B Z v l}(h:wv w B Z v l)(a:bi w w w'):wv w' B Z v l:=by obtain⟨D,l,Z,B,c⟩:=h;exact⟨D,l,Jf Z a .Y,B.M λ x Z _ B=>B.V (fW a),c⟩
def wv.nil(w B Z):wv w B Z it []:=⟨λ _=>False,[],lg,rfl,λ _ h=>h.F⟩
def wv.push{w B Z v}{l}{n}(h:wv w B Z v l)(t:l.length=n)(d:n<=1000000)(x C)(f:fw w (λ k=>Z<=k) x C.toList)(K:B<=Z)(L:Z<=w):∃g j m o a,v= .slice g n j/\zw am (pV #[22,22] 22 #[.slice g n j,xf w 0 1]) (w.alloc (.cells C 41))= .ok (.slice m (n+1) o) a/\wv a B a (.slice m (n+1) o) (l++[x])/\bi B w a:=by obtain⟨D,M,u,A,p⟩:=h;rw[t]at u;obtain⟨N,z,E,F,G⟩:=sB Tryz.Q5;obtain⟨g,j,m,o,a,e,H,I,s,O⟩:=agX (ty:=22) NX z E F G rfl u C (by have:=f.length;simpa using this) f.O (et) oo;have P:=s.size;refine⟨g,j,m,o,a,e,H,⟨_,_,by rw[da,t];exact I.M (G:=λ k=>(D k/\k<w.heap.size)\/(w.heap.size<=k/\k<a.heap.size)) oV,Cs.append (A.M λ y Q _ J=>?_) (Cs.O f.length ?_),λ k c=>?_⟩,s.B oo (λ i z q=>by have:=p i q;omega)⟩;refine(J.M (G:=λ k=>(B<=k/\¬D k)/\k<w.heap.size) (λ b i q=>⟨q,i⟩)).V (w':=a) (λ b i d=>s.block b d i.1.2)|>.M (λ b _ q=>⟨q.1.1,λ r=>?_⟩);obtain r|r:=r;exact q.1.2 r.1;omega;refine(f.M (G:=λ k=>Z<=k/\k<w.heap.size) (λ b i q=>⟨q,i⟩)).V (w':=a) (λ b i d=>s.block b d (λ r=>by have:=p b r;omega))|>.M (λ b _ q=>⟨oo,λ r=>?_⟩);obtain r|r:=r;have:=p b r.1;omega;omega;obtain c|c:=c;have:=p k c.1;omega;exact⟨oo,c.2⟩
def atM(l)(F)(v)(w)(h:dj w F v l)(hs:lV l)(hl:l.length≤1000)(S:Nat)(Q)
  (ahb:∀(w1) (v1),wv w1 w w1 v1 l→bi w w w1→eE am 105 #[v1,.func (.func 106) #[] #[]] w1 fun e w2=>e=()∧Q v1 w2):
  eE am 44 #[v] w Q:=by
 obtain⟨ao,cap,rfl,_,_⟩:=id h.E
 have CH:HO (∀(j:Nat) (wr:cJ),bi w.heap.size w wr→j<l→∃b off x vf vp,ao=some ⟨b,off,none⟩∧l[j]? =some x∧fw wr F x (ij x vf vp)∧(ij x vf vp).length=13∧∀i u,(ij x vf vp)[i]? =some u→wr.cell? ⟨b,off+j*13+i,none⟩=some u):=fun j wr hb hj=>by
  obtain⟨x,hx⟩:∃x,l[j]? =some x:=(eB hj)
  obtain⟨b,off,cap',cs,e,_,hlt,hlen,hr,hc⟩:=h.at hx (by omega)
  simp only [cL] at e
  obtain⟨rfl,-,-⟩:=e
  have hr2:=hr.V (w':=wr) (fun b _ hl=>hb.block b hl)
  obtain⟨vf,vp,rfl,h2,h3,h4⟩:=hr2
  exact⟨b,off,x,vf,vp,rfl,hx,⟨vf,vp,rfl,h2,h3,h4⟩,hlen,fun i u hi=>(hb.Z hlt).J (hc i u hi)⟩
 have U4:=Lib.H hs
 have HSO:=Lib.H ahb
 obtain⟨n,hn⟩:∃n,l.length=n:=ax
 have HN:=Lib.H hn
 rw [hn] at CH hl ⊢
 clear h hs ahb hn
 go_enter func44,ntmps44
 go_wp2_with fail
 go_loopw [3,8] (fun v3 i wr=>∃(j Z:Nat),j≤n∧i= .int .i64 j∧HO (wv wr w Z v3 (l.take j))∧HO (bi w w wr)∧w≤Z∧Z≤wr) (fun _ i _=>n-(intOf i).toNat)
 case atStart=>exact⟨0,w,by omega,rfl,wv.nil _ _ _,bi.refl _ _,kg _,kg _⟩
 case round=>
  obtain⟨j,Z,hj,rfl,HM,HB,jo,uT⟩:=hrel
  obtain⟨wq,QX⟩:∃wq:cJ,wq=wr:=ax
  rw [←QX] at HM HB uT ⊢
  clear QX
  by_cases hlt:j<n
  ·obtain⟨b,off,x,vf,vp,rfl,hx,hr,hlen,hc⟩:=CH.U j wq HB.U hlt
   have hsm:=U4.U x (fx hx)
   have hxt:l.take (j+1)=l.take j++[x]:=by rw [uk,hx];rfl
   have HXT:=Lib.H hxt
   have Jr:=Lib.H hr
   obtain⟨_,_,he,kE,hr1,hr2⟩:=hr
   have Lq:(l.take j)=j:=by rw [pS,HN.U];omega
   have HLJ:=Lib.H Lq
   obtain⟨ni,nk,bA,prog,nq,route⟩:=x
   simp only at kE hr1 hr2
   obtain⟨r0,r1,r2,r3,r4,r5,r6,r7,rfl⟩:=eight kE
   simp only [ij,tj,AC,List.cons.injEq,true_and] at he
   obtain⟨rfl,rfl,-⟩:=he
   obtain⟨af,cf,rfl,_,_⟩:=id hr1.E
   obtain⟨ap,cp,rfl,_,_⟩:=id hr2.E
   obtain⟨nf,nz⟩:∃n,bA.length=n:=ax
   obtain⟨np,oH⟩:∃n,prog.length=n:=ax
   rw [nz,oH] at hc Jr
   have k0:wq.cell? ⟨b,off+j*13,none⟩=some (.int .i64 ni):=hc 0 _ rfl
   have k1:wq.cell? ⟨b,off+j*13+1,none⟩=some (.int .i64 nk):=hc 1 _ rfl
   have k2:wq.cell? ⟨b,off+j*13+2,none⟩=some (.slice af nf cf):=hc 2 _ rfl
   have k3:wq.cell? ⟨b,off+j*13+3,none⟩=some (.slice ap np cp):=hc 3 _ rfl
   have k4:wq.cell? ⟨b,off+j*13+4,none⟩=some (.int .i64 nq):=hc 4 _ rfl
   have k5:wq.cell? ⟨b,off+j*13+5,none⟩=some (.int .i64 r0):=hc 5 _ rfl
   have k6:wq.cell? ⟨b,off+j*13+6,none⟩=some (.int .i64 r1):=hc 6 _ rfl
   have k7:wq.cell? ⟨b,off+j*13+7,none⟩=some (.int .i64 r2):=hc 7 _ rfl
   have k8:wq.cell? ⟨b,off+j*13+8,none⟩=some (.int .i64 r3):=hc 8 _ rfl
   have k9:wq.cell? ⟨b,off+j*13+9,none⟩=some (.int .i64 r4):=hc 9 _ rfl
   have eG:wq.cell? ⟨b,off+j*13+10,none⟩=some (.int .i64 r5):=hc 10 _ rfl
   have jJ:wq.cell? ⟨b,off+j*13+11,none⟩=some (.int .i64 r6):=hc 11 _ rfl
   have jP:wq.cell? ⟨b,off+j*13+12,none⟩=some (.int .i64 r7):=hc 12 _ rfl
   obtain⟨wb,gh⟩:∃wb,wq.alloc (.cells #[ni,nk,.slice af nf cf,.slice ap np cp,nq,r0,r1,r2,r3,r4,r5,r6,r7] 41)=wb:=ax
   obtain⟨X,hX⟩:∃X,wq.heap.size=X:=ax
   have oX:bi wq wq wb:=by rw [←gh];exact(bi.refl _ _).alloc (kg _) _
   have gX:wb.heap[X]? =some (.cells #[ni,nk,.slice af nf cf,.slice ap np cp,nq,r0,r1,r2,r3,r4,r5,r6,r7] 41 (0,0)):=by rw [←gh,←hX];exact aap wq
   have Js:=Lib.H gX
   have hown:=ag5 ⟨ni,nk,bA,prog,nq,[r0,r1,r2,r3,r4,r5,r6,r7]⟩ F _ wb (Jr.U.V fun b _ hl=>oX.block b hl) hsm.1 hsm.2
   simp only [ij,tj,AC] at hown
   have ahd:=Lib.H hown
   have UQ:=Lib.H (HM.U.B oX)
   have iw:HO (bi w.heap.size w wb):=HB.U.J (oX.M (by omega))
   have hzb:=oX.size
   clear hown hc hr1 hr2 kE hx HM HB oX gX Lq hxt hsm hlen Jr
   go_wp2_with (first|(refine wpList_load_row rfl 41 _ rfl X rfl 41 _ _ _ Js.U underlying41 rfl (by kernel_rfl) ?_))
   refine ahd.U.M ?_
   rintro e w2 ⟨qZ,rfl,h2,hb2⟩
   obtain⟨vf2,vp2,rfl,-,g1,g2⟩:=id h2
   obtain⟨NY,NZ,rfl,_,_⟩:=id g1.E
   obtain⟨N0,Jt,rfl,_,_⟩:=id g2.E
   simp only at g1 g2
   rw [nz,oH] at h2
   have hz2:=hb2.size
   let⟨N1,ahe,ao4,Fz,w3,hv3,hrun,Fx,hb3⟩:=(UQ.U.B hb2).push HLJ.U (by omega) _ (ij ⟨ni,nk,bA,prog,nq,[r0,r1,r2,r3,r4,r5,r6,r7]⟩ (.slice NY nf NZ) (.slice N0 np Jt)) (h2.M fun k _ q=>by omega) jo (by omega)
   simp only [ij,tj,AC] at hrun
   subst hv3
   have kL:=Lib.H hrun
   have YS:HO (wv w3 w w3 (.slice ao4 (j+1) Fz) (l.take (j+1))):=by rw [HXT.U];exact Fx
   have jv:HO (bi w.heap.size w w3):=(iw.U.J (hb2.M (by omega))).J hb3
   have hz3:=jv.U.size
   simp only [ij,tj,AC,nz,oH]
   clear hrun Fx hb3 h2 g1 g2 hb2 ahd UQ iw nz oH
   go_wp2_with (at_builtin;refine Aw rfl rfl rfl rfl kL.U ?_)
   go_roundw
   case rel=>exact⟨j+1,w3,by omega,by go_num,YS,jv,hz3,kg _⟩
   case measure=>simp [intOf];omega
  ·obtain rfl:j=n:=by omega
   have hm:=HM.U
   rw [GA (by have:=HN.U;omega)] at hm
   have uP:wv wq w wq u3 l:=by
    obtain⟨D,xs,q1,q2,q3⟩:=hm
    exact⟨D,xs,q1,q2,fun k hk=>by have:=q3 k hk;omega⟩
   have HS:=Lib.H (HSO.U wq u3 uP HB.U)
   obtain⟨_,_,dS,_⟩:=uP
   obtain⟨N1,ahe,rfl,_,_⟩:=dS.E
   rw [HN.U] at HS
   rw [HN.U]
   clear dS hm HM
   go_wp2_with fail
   refine HS.U.M ?_
   rintro e w2 ⟨rfl,hq⟩
   have HQ:=Lib.H hq
   clear hq HS
   go_wp2_with fail
   exact HQ.U
section
open _root_.Go.RowKit _root_.Go.Sort
structure NC where
 nd:Nd
 vf:eQ
 vp:eQ
 r8:nd.ur.length=8
 of:vf.oneCell'=true
 op:vp.oneCell'=true
instance:Inhabited NC:=⟨⟨⟨0,0,[],[],0,[0,0,0,0,0,0,0,0]⟩,.slice none 0 0,.slice none 0 0,rfl,rfl,rfl⟩⟩
def NC.C(x:NC):List eQ:=ij x.nd x.vf x.vp
def NC.length(x:NC):x.C.length=13:=by simp[NC.C,ij,x.r8]
def NC.O(x:NC):hJ x.C:=by intro u v;simp only[NC.C,ij,us,GS]at v;obtain rfl|rfl|rfl|rfl|rfl|⟨_,_,rfl⟩:=v<;>first|rfl|exact x.of|exact x.op
def Ou(a b:Int):Int:=if a<b then-1 else if b<a then 1 else 0
def Ep(x y:NC):Int:=Ou x.nd.id y.nd.id
def FO(x y:Nd):Bool:=decide (Ou x.id y.id<0)
instance:Inhabited Nd:=⟨⟨0,0,[],[],0,[0,0,0,0,0,0,0,0]⟩⟩
def dc(l:List Nd):List Nd:=(insertionSort FO l 0 l).toList
section
variable {α β:Type} [Inhabited α] [Inhabited β] (f:α→β) (hf:f default=default) (la:α→α→Bool) (lb:β→β→Bool) (hl:∀x y,la x y=lb (f x) (f y))
include hf in
def VC(d:Array α)(i:Nat):(d.map f)[i]! =f d[i]! :=by
 simp only [getElem!_def,Array.getElem?_map]
 cases d[i]? with
 |none=>exact hf.S
 |some x=>rfl
include hf in
def avc(d)(i j):swp (d.map f) i j=(swp d i j).map f:=by unfold swp;rw[VC f hf,VC f hf];apply Array.ext_getElem?;intro k;simp only[Array.getElem?_setIfInBounds,Array.getElem?_map,Array.size_setIfInBounds,Array.size_map];grind
include hf hl in
def avd(a j)(d):insInner lb a j (d.map f)=(insInner la a j d).map f:=by induction j generalizing d with|zero=>rfl|succ j b=>rw[insInner,insInner,VC f hf,VC f hf,<-hl];split;rw[avc f hf,b];rfl
include hf hl in
def ave(a b n i)(e:b-i<=n)(d):insOuter lb a b i (d.map f)=(insOuter la a b i d).map f:=by induction n generalizing i d with|zero=>rw[insOuter_stop _ _ _ _ _ oo,insOuter_stop _ _ _ _ _ oo]|succ n c=>by_cases h:i<b;rw[insOuter_go _ _ _ _ _ h,insOuter_go _ _ _ _ _ h,avd f hf la lb hl,c _ oo];grind
end
def ah3{b}[Inhabited b](c:b->b->Bool)(a j d):(insInner c a j d).size=d.size:=by induction j generalizing d with|zero=>rfl|succ j e=>rw[insInner];split;rw[e,size_swp];rfl
def ah4{c}[Inhabited c](e:c->c->Bool)(a b n i)(g:b-i<=n)(d):(insOuter e a b i d).size=d.size:=by induction n generalizing i d with|zero=>rw[insOuter_stop _ _ _ _ _ oo]|succ n f=>by_cases h:i<b;rw[insOuter_go _ _ _ _ _ h,f _ oo,ah3];grind
def CS(l):(dc l)=l.length:=by unfold dc insertionSort;rw[yJ,ah4 _ _ _ l _ oo];simp
def avf{b}[Inhabited b](p:b->Prop)(c)(a j d)(g:j<d.size)(h:∀x∈d,p x):∀x∈insInner c a j d,p x:=by induction j generalizing d with|zero=>exact h|succ j e=>rw[insInner];split;refine e _ (by rw[size_swp];omega) λ x f=>?_;unfold swp at f;grind;exact h
def ah5{c}[Inhabited c](p:c->Prop)(e)(a b n i)(k:b-i<=n)(d)(f:b<=d.size)(h:∀x∈d,p x):∀x∈insOuter e a b i d,p x:=by induction n generalizing i d with|zero=>rw[insOuter_stop _ _ _ _ _ oo];exact h|succ n g=>by_cases j:i<b;rw[insOuter_go _ _ _ _ _ j];exact g _ oo _ (by rw[ah3];exact f) (avf p e a i d oo h);grind
def CT(p:Nd->Prop){l}(h:∀x∈l,p x):∀x∈dc l,p x:=by intro x a;exact ah5 p FO 0 l l 1 oo l (by simp) (az h) x (Array.mem_toList_iff.1 a)
def VD{c}[Inhabited c]{b k}(f:∀x,(b x)=k)(i:0<k)(d:List c):(flatK b k d).toList=d.flatMap b:=by have g:=oh f d;have n:=g.length;apply wj;intro t;by_cases a:t<d*k;have h:=Nat.div_lt_of_lt_mul (by rw[Nat.mul_comm];exact a);have j:t%k<k:=Nat.mod_lt _ i;let⟨o,p,l,m⟩:=g.at (List.getElem?_eq_getElem h);have e:=m (t%k) _ (List.getElem?_eq_getElem oo);rw[show t/k*k+t%k=t by rw[Nat.mul_comm];exact Nat.div_add_mod t k]at e;rw[e,Array.getElem?_toList,Array.getElem?_eq_getElem (by simpa using a)];have:=get_flatK b k d t (az a);rw[getElem!_pos _ _ (by simpa using a)]at this;rw[this,getElem!_pos _ (t/k) (by simpa using h)];simp only[qr];rw[getElem!_pos _ _ (by rw[f];exact j)];subst l;rfl;rw[List.getElem?_eq_none (by rw[yJ,size_flatK];simpa using a),List.getElem?_eq_none oo]
def ZK{w F e a n g off cap t}(h:Sl w F e a (nx g off n cap) n t)(A)(b:A.size=n*a):Sl (putRow id w g off A) F e a (nx g off n cap) n A.toList:=by refine⟨(az b),?_⟩;rcases h.2 with⟨b,_⟩|⟨F,F,F,t,h,c,d,F,f,i,j⟩;simp at b;simp only[cL,BY,KH]at h;obtain⟨⟨rfl,rfl,-⟩,-,rfl⟩:=h;refine .I ⟨g,off,cap,putCells id off A t,rfl,c,?_,F,f,by simpa[putCells]using i,?_⟩;simp[putRow,mapBlock,Array.getElem?_modify,d,onCells];have A:n*a<=cap*a:=Nat.mul_le_mul_right _ F;apply wj;intro t;rw[List.getElem?_take];by_cases A:t<n*a;rw[QJ A,List.getElem?_drop,Array.getElem?_toList,Array.getElem?_toList];simp only[putCells,Array.getElem?_mapIdx];grind;grind
def ah6(w:cJ)(A B):(w.alloc A).alloc B=grow (w.drewN 0) #[A,B]:=by exact oK
def avh(x y w):eE am 106 #[x.C,y.C] w λ e b=>e=Ep x y/\∃q r,b=grow (w.drewN q) r:=by
 obtain⟨⟨b,r,P,Q,s,R⟩,t,u,H,S,T⟩:=x;obtain⟨⟨a,c,U,V,d,W⟩,f,g,I,Z,g2⟩:=y;simp only at H I;obtain⟨v,z,A,B,C,D,E,F,rfl⟩:=eight H;obtain⟨h,i,j,k,l,m,n,o,rfl⟩:=eight I;simp only[NC.C,ij,tj,AC,Ep,Ou];obtain⟨X,J⟩:∃X,w.heap.size=X:=ax;obtain⟨q,G⟩:∃q,w.alloc (.cells #[b,r,t,u,s,v,z,A,B,C,D,E,F] 41)=q:=ax;obtain⟨Y,K⟩:∃Y,q.heap.size=Y:=ax;obtain⟨e,p⟩:∃e,q.alloc (.cells #[a,c,f,g,d,h,i,j,k,l,m,n,o] 41)=e:=ax;have M:q.heap[X]?=some _:=(mm G J w)
 have L:=qC M (.cells #[a,c,f,g,d,h,i,j,k,l,m,n,o] 41);rw[p]at L;have N:e.heap[Y]?=some _:=(mm p K q)
 have cx:e.cell? ⟨X,0,none⟩=some (.int _ b):=aO L rfl;have cy:e.cell? ⟨Y,0,none⟩=some (.int _ a):=aO N rfl;have O:HO (e=grow (w.drewN 0) #[.cells #[b,r,t,u,s,v,z,A,B,C,D,E,F] 41,.cells #[a,c,f,g,d,h,i,j,k,l,m,n,o] 41]):=by show e=_;rw[<-p,<-G];exact ah6 ..
 go_enter func106,ntmps106;go_wp2_with fail;try rw[G]
 try rw[J]
 try rw[p]
 try rw[K]
 all_goals go_ret
 all_goals exact⟨rfl,0,_,O.U⟩
def ncs{w G l y}(h:Cs 13 (fw w G) l y):∃d:List NC,d.map NC.nd=l/\y=d.flatMap NC.C/\∀x∈d,Ints w G x.vf x.nd.bA/\lL w G x.vp x.nd.prog:=by induction l generalizing y with|nil=>exact⟨[],rfl,h,by simp⟩|cons x l y=>obtain⟨b,a,rfl,_,l,G⟩:=h;obtain⟨d,rfl,rfl,h⟩:=y G;obtain⟨h,y,rfl,G,a,b⟩:=l;refine⟨⟨x,h,y,G,?_,?_⟩::d,rfl,rfl,λ y h=>?_⟩;obtain⟨_,_,rfl,_⟩:=a.E;rfl;obtain⟨_,_,rfl,_⟩:=b.E;rfl;grind
def avk{w G}(d:List NC)(h:∀x∈d,Ints w G x.vf x.nd.bA/\lL w G x.vp x.nd.prog):Cs 13 (fw w G) (d.map NC.nd) (d.flatMap NC.C):=by induction d with|nil=>rfl|cons x d G=>exact⟨x.C,d.flatMap _,vL,x.length,⟨x.vf,x.vp,rfl,x.r8,h x (by simp)⟩,oV⟩
def avl{w}{D}{g off cap n}(d:List NC)(i:d.length=n)(h:Sl w D 41 13 (nx g off n cap) n (d.flatMap NC.C))(l:0<n)(v:n<20):eE am 255 #[nx g off n cap,bs 0,bs n,Kw 106] w λ e b=>e=()/\Sl b D 41 13 (nx g off n cap) n ((insertionSort (ltOf Ep) d 0 n).toList.flatMap NC.C)/\vn w b g:=by
 subst i;obtain⟨z,A,B,e,_,o,_,_,p⟩:=h.at l;simp only[cL,BY,KH]at e;obtain⟨⟨rfl,rfl,-⟩,-,rfl⟩:=e;have q:HoldsK _ 13 w g off _:=λ j c=>by refine p j _ ?_;rw[<-VD NC.length (by omega) d,Array.getElem?_toList,Array.getElem?_eq_getElem c,getElem!_pos _ j c];rfl
 have r:CmpLays _ 106 #[] _ 13 Ep g off d.toArray.size w:=λ m a s _ x y=>by rw[Array.append_empty];exact avh x y _
 have:=AnyQ.insertionSortCmpFunc Tryz.avb 13 isAgg41 sizeOf41 _ NC.length NC.O Ep 106 #[] g off cap 0 d _ w (Qh func106 kk rfl) r q o (fy _) .Y (ik);refine eE.mono this ?_;rintro e b ⟨rfl,m,a,rfl⟩;have s:(insertionSort (ltOf Ep) d 0 d).size=d:=by unfold insertionSort;rw[ah4 _ _ _ d _ oo];simp
 have t:Sl (Go.Sort.ahead w m) D 41 13 ..:=oJ;have x:=ZK t (flatK NC.C 13 _) (by rw[size_flatK,s]);have y:=VD NC.length oo (insertionSort (ltOf Ep) d 0 d).toList;rw[Array.toArray_toList]at y;rw[y]at x;refine⟨rfl,x.V λ k _ f=>?_,⟨rfl,rfl,rfl,?_,λ k f u=>?_⟩⟩;show((putRow id _ g off _).heap++a)[k]?=_;grind;exact size_sortWorldK_c _ 13 w g off m _ a;show((putRow id _ g off _).heap++a)[k]?=_;rw[Array.getElem?_append_left (by rw[size_putRow];exact f)];simp only[putRow,mapBlock,Array.getElem?_modify];rw[QI (CB u)];rfl
def avm(e cap w):eE am 255 #[.slice e 0 cap,bs 0,bs 0,Kw 106] w λ e i=>e=()/\i=w:=by go_enter func255,ntmps255;go_wp2_with fail;go_loopw[8](λ i e=>i= .int .i64 1/\e=w)(λ _ _=>0);exact oK;case round=>obtain⟨rfl,rfl⟩:=hrel;exact Fq
def ah7(c)(n cap w)(k:n<20)(Q:cJ->Prop)(f:eE am 255 #[.slice c n cap,bs 0,bs n,Kw 106] w λ e w'=>e=()/\Q w'):eE am 105 #[.slice c n cap,.func (.func 106) #[] #[]] w λ e w'=>e=()/\Q w':=by
 have g:=Lib.H f;have h:eE am 186 #[.slice c n cap,.int .i64 n,.func (.func 106) #[] #[]] w λ e w'=>e=()/\Q w':=by go_enter func186,ntmps186;have l:¬(20:Int)<=n:=oo;go_wp2_with fail;go_loopw[7,8](λ a b d=>a= .int .i64 0/\b= .int .i64 20/\d=w)(λ _ _ _=>0);exact oK;case round=>obtain⟨rfl,rfl,rfl⟩:=hrel;go_wp2_with fail;refine g.U.M ?_;rintro e j ⟨rfl,a⟩;have b:=Lib.H a;go_wp2_with fail;go_loopw[6](λ i d=>i= .int .i64 20/\HO (Q d))(λ _ _=>0);exact oK;case round=>obtain⟨rfl,b⟩:=hrel;exact Fq
 have d:=Lib.H h;go_enter func105,ntmps105;go_wp2_with fail;refine d.U.M ?_;rintro e j ⟨rfl,a⟩;have b:=Lib.H a;exact Fq
def avn{B Z v}{l}{w}(h:wv w B Z v l)(q:B<=w)(f:l.length<20):eE am 105 #[v,.func (.func 106) #[] #[]] w λ e a=>e=()/\wv a B Z v (dc l)/\bi B w a:=by
 obtain⟨D,C,c,r,j⟩:=h;obtain⟨d,rfl,rfl,s⟩:=ncs r;obtain⟨m,n,rfl,_,_⟩:=c.E;rw[rW]at c f⊢;by_cases o:0<d.length;obtain⟨g,E,F,e,p,G,_⟩:=c.at o;simp only[cL]at e;obtain⟨rfl,-,-⟩:=e;refine eE.mono (ah7 _ _ _ w f _ (avl d rfl c o f)) ?_;rintro e a ⟨rfl,t,i⟩;have u:dc (d.map NC.nd)=(insertionSort (ltOf Ep) d 0 d).toList.map NC.nd:=by (have e:(d.map NC.nd)=d.toArray.map NC.nd:=by simp);unfold dc insertionSort;rw[rW,e,show 0+1=1 from rfl,ave NC.nd rfl (ltOf Ep) FO (λ _ _=>rfl) 0 d d 1 oo,Array.toList_map]
 refine⟨rfl,⟨D,_,by rw[CS,rW];exact t,?_,j⟩,i.B q oV⟩;rw[u];refine avk _ λ x y=>?_;obtain⟨z,A⟩:=ah5 (λ x:NC=>Ints w (λ k=>B<=k/\¬D k) x.vf x.nd.bA/\lL w (λ k=>B<=k/\¬D k) x.vp x.nd.prog) (ltOf Ep) 0 d d 1 oo d (by simp) (az s) x (Array.mem_toList_iff.1 y);exact⟨z.qD i λ b k e=>k.2 (e▸p),A.qD i λ b k e=>k.2 (e▸p)⟩;obtain rfl:d=[]:=oV;refine eE.mono (ah7 m 0 n w oo (λ a=>a=w) (avm m n w)) ?_;rintro e a ⟨rfl,rfl⟩;have k:dc (List.map NC.nd [])=[]:=by unfold dc insertionSort;rw[insOuter_stop _ _ _ _ _ (by simp)];rfl
 rw[k];exact⟨rfl,⟨D,[],c,rfl,j⟩,bi.refl _ _⟩
def AJ(l F v w)(h:dj w F v l)(k:lV l)(a:l.length<20):eE am 44 #[v] w λ e x=>∃D,ea e D/\wv x w x D (dc l)/\bi w w x:=by refine atM l F v w h k oo 0 _ λ l k F h=>(eE.mono (avn F h.size a) ?_);rintro e c ⟨rfl,⟨D,a,l,x,b⟩,F⟩;refine⟨rfl,k,rfl,⟨D,a,l,x,λ k a=>?_⟩,h.J F⟩;have:=b k a;exact kM F
end
section
open _root_.Go.RowKit _root_.Go.Sort
def VE(l:List Int)(j)(a:j<l.length):(l.flatMap iC)[j]?=some (.int .i64 (l.getD j 0)):=by rw[QW,List.getElem?_map,List.getElem?_eq_getElem a];simp[a]
def VF(l F v w)(h:Ints w F v l)(x):eE am 89 #[v,bs x] w λ e a=>e=decide (x∈l)/\a=w:=by
 obtain⟨d,a,m,rfl,n,o,f,_,c⟩:=h;obtain rfl:=f.flat;by_cases g:0<l.length;obtain⟨b,i,rfl,_,_⟩:=c 0 _ (VE l 0 g);have p:pJ<=9223372036854775807:=et
 have:=Any.slices_Contains_int Tryz.ah8 b i _ a l x w .Y oo λ j k=>by obtain⟨q,r,e,_,s⟩:=c j _ (VE l j k);grind
 refine eE.mono this ?_;grind;obtain rfl:l=[]:=oV;refine eE.mono (Any.slices_Contains_int_empty Tryz.ah8 d a x w) ?_;grind
def avu{a}[Inhabited a](b:a->eQ)(w g off d):putRow b w g off d=putRow id w g off (d.map b):=by unfold putRow;refine mapBlock_congr _ _ _ _ λ c e f _=>?_;unfold putCells;grind
def aib{a}[Inhabited a](b:a->eQ)(w m g off d c):aA w (grow (putRow b (Go.Sort.ahead w m) g off d) c) (λ k=>k=g):=⟨rfl,rfl,rfl,by rw[size_grow,size_putRow];exact Nat.le_add_right ..,λ k f h=>by show((putRow b _ g off _).heap++c)[k]?=_;rw[Array.getElem?_append_left (by rw[size_putRow];exact f)];simp only[putRow,mapBlock,Array.getElem?_modify];rw[QI (CB h)];rfl⟩
def aic{w D g off cap}{l:List Int}(h:Sl w D 3 1 (nx g off l cap) l (l.flatMap iC)):Holds (nR .i64) w g off l:=λ j D=>by simp at D;obtain⟨b,c,d,e,_,f,_,_,a⟩:=h.at oo;simp only[cL,BY,KH]at e;obtain⟨⟨rfl,rfl,-⟩,-,rfl⟩:=e;have:=a j _ (VE l j D);grind
def j8(l:List Int):List Int:=l.mergeSort λ x y=>decide (x<=y)
def FR(l):(j8 l)=l.length:=List.length_mergeSort l
def ZM{w}{D}{v}{l}(h:Sl w D 3 1 v l.length (l.flatMap iC))(s:l.length<=1000000):eE am 165 #[v] w λ e a=>e=()/\Sl a D 3 1 v l.length ((j8 l).flatMap iC)/\aA w a D:=by
 obtain⟨n,c,rfl,_,_⟩:=h.E;by_cases o:0<l.length;obtain⟨g,b,t,e,p,q,_⟩:=h.at o;simp only[cL]at e;obtain⟨rfl,-,rfl⟩:=e;refine eE.mono (Any.slices_Sort_int Tryz.ah9 g b c l w (aic h) q oo) ?_;rintro e a ⟨rfl,m,f,rfl⟩;refine⟨rfl,?_,(aib _ w m g b _ f).M λ k _ e=>e▸p⟩;have r:Sl (Go.Sort.ahead w m) D 3 1 _ _ _:=oJ;have d:=ZK r ((j8 l).toArray.map (nR .i64)) (by simp[FR]);rw[<-avu]at d;have e:((j8 l).toArray.map (nR .i64)).toList=(j8 l).flatMap iC:=by apply wj;intro j;by_cases i:j<(j8 l).length;rw[VE _ j i];simp[i];have:=(oh (enc:=iC) (k:=1) (λ _=>rfl) (j8 l)).length;grind
 rw[e]at d;refine d.V λ k _ j=>?_;show((putRow _ _ g b (j8 l).toArray).heap++f)[k]?=_;grind;obtain rfl:l=[]:=oV;refine eE.mono (Any.slices_Sort_int_none Tryz.ah9 n c w) ?_;rintro e a ⟨rfl,rfl⟩;exact⟨rfl,by simpa[j8]using h,aA.Y ..⟩
def xE(l:List Int):Bool:=decide ((Lib.compact (j8 l))=l.length)
def avv{w}{D}{v}{l}(h:Sl w D 3 1 v l.length (l.flatMap iC))(n:l.length<=1000000):eE am 166 #[v] w λ e c=>∃b a,ea e (.slice b (Lib.compact l) a)/\aA w c D:=by obtain⟨b,a,rfl,f,_⟩:=h.E;by_cases i:0<l.length;obtain⟨g,d,o,e,j,p,_⟩:=h.at i;simp only[cL]at e;obtain⟨rfl,-,rfl⟩:=e;refine eE.mono (Any.slices_Compact_int Tryz.aia g d a l w (aic h) oo f) ?_;rintro e c ⟨rfl,m,rfl⟩;have:=aib (nR .i64) w m g d (Lib.compact l++eM (l.length-(Lib.compact l).length) 0).toArray #[];rw[grow_empty]at this;exact⟨_,_,rfl,this.M λ k _ e=>e▸j⟩;obtain rfl:l=[]:=oV;refine eE.mono (Any.slices_Compact_int_empty Tryz.aia b a w) ?_;rintro e c ⟨rfl,rfl⟩;exact⟨b,a,rfl,aA.Y ..⟩
def aid(l F v w)(h:Ints w F v l)(a:l.length<=1000000):eE am 88 #[v] w λ e b=>e=xE l/\bi w w b:=by
 obtain⟨A,B,rfl,_,_⟩:=id h.E;have b:=(zt (U0 l F _ w h a));obtain⟨n,c⟩:∃n,l.length=n:=ax;have d:=Lib.H c;rw[c]at b⊢;have f:=Lib.H a;go_enter func88,ntmps88;go_wp2_with fail;refine b.U.M ?_;rintro e C ⟨D,rfl,g,E,o⟩;obtain⟨G,H,rfl,_,_⟩:=id g.E;have p:=Lib.H (ZM (by rw[d.U];exact g) f.U);have i:=Lib.H o;go_wp2_with fail;refine p.U.M ?_;rintro e I ⟨rfl,q,r⟩;have s:=i.U.J (r.B i.U.size oo);have t:=Lib.H (avv (by rw[FR];exact q) (by rw[FR];exact f.U));have j:=Lib.H s;have u:=j.U.size;go_wp2_with fail;refine t.U.M ?_;rintro e J ⟨K,L,rfl,x⟩;have y:=(zt (j.U.J (x.B u oo)));obtain⟨m,k⟩:∃m,(Lib.compact (j8 l)).length=m:=ax;have z:HO (xE l=decide (m=n)):=by show _=_;unfold xE;rw[k,d.U]
 rw[k];go_wp2_with fail;go_ret;refine⟨?_,y.U⟩;rw[z.U];show Db (.bool _)=_;rw[show(m==(n:Int))=decide (m=n)by grind]
end
def aie{y}(p l):(idxOf p l<0/\l.find? p=none)\/∃(k:Nat)(x:y),idxOf p l=k/\l[k]?=x/\l.find? p=some x:=by induction l with|nil=>exact .N ⟨by simp[idxOf],rfl⟩|cons x l y=>by_cases l:p x=true;exact .I ⟨0,x,by simp[idxOf,l],rfl,(qg l)⟩;obtain⟨x,a⟩|⟨k,y,x,a,b⟩:=y;exact .N ⟨by simp[idxOf,l,x],by simp[l,a]⟩;exact .I ⟨k+1,y,by simp only[idxOf,l,x];simp;omega,(az a),by simp[l,b]⟩
def gn(l:List Nd)(i:Int):Option Nd:=l.find? λ x=>x.id==i
def Gy(a:List Nd)(b:Int):zs ((gn a b).getD default):=.m
def aif{P}{e}{p q:Tmp}{a}(h:e.results=#[.cell p a,.tmp q])(b:Array eQ)(w)(g:Nat)(t)(c)(f)(d)(i:b.getD p undef=g)(j:w.heap[g]?=some (.cells c t f))(k:Hp P a d)(l:(match d with| .struct _| .array _ _=>true|_=>false)=true)(m:(P.info? a).map (·.size)=c.size):(results e b).run P w= .ok (.tuple #[.agg c,b.getD q undef]) w:=by
 have n:b[p]?.getD _= g:=(az i)
 simp[results,h,n,asAddr,run_loadVar_row w g t a c f d j k l m]
def avw(x F e w)(h:fw w F x e)(X i)(a:w.cell? ⟨X,0,none⟩=some (.int .i64 i)):eE am 92 #[e,X] w λ e F=>ea e (x.id==i)/\bi w w F:=by
 obtain⟨b,c,rfl,e,_,_⟩:=h;obtain⟨h,d,F,p,f,Y⟩:=x;simp only at e;obtain⟨g,j,k,l,m,n,o,p,rfl⟩:=eight e;simp only[ij,tj,AC];obtain⟨Y,F⟩:∃Y,w.heap.size=Y:=ax;obtain⟨x,e⟩:∃x,w.alloc (.cells #[h,d,b,c,f,g,j,k,l,m,n,o,p] 41)=x:=ax;have q:x.heap[Y]?=some _:=(mm e F w)
 have p:x.cell? ⟨Y,0,none⟩=some (.int _ h):=aO q rfl;have h:bi w w x:=by rw[<-e];exact(bi.refl ..).alloc .Y _
 have p:=(rU h a);have a:=Lib.H h;go_enter func92,ntmps92;go_wp2_with fail;try rw[e]
 try rw[F]
 go_ret;exact⟨rfl,by first|exact a.U|(rw[<-F];exact a.U)⟩
def CU(l F v w)(h:dj w F v l)(hs:lV l)(f:l.length<=1000)(i):eE am 39 #[v,bs i] w λ e u=>∃z,ea e (.tuple #[.agg z.toArray,(gn l i).isSome])/\fw u w (Gy l i) z/\bi w w u:=by
 obtain⟨ao,aW,rfl,_,_⟩:=id h.E;obtain⟨X,Q⟩:∃X,w.heap.size=X:=ax;obtain⟨g,ug⟩:∃g,w.alloc (.cells #[i] 3)=g:=ax;obtain⟨Y,hY⟩:∃Y,g.heap.size=Y:=ax;obtain⟨m,R⟩:∃m,g.alloc (.cells #[.int .i64 0,.int .i64 0,.slice none 0 0,.slice none 0 0,.int .i64 0,.int .i64 0,.int .i64 0,.int .i64 0,.int .i64 0,.int .i64 0,.int .i64 0,.int .i64 0,.int .i64 0] 41)=m:=ax;have ga:g.heap[X]?=some (.cells #[i] 3 (0,0)):=by rw[<-ug,<-Q];exact aap w
 have gx:=qC ga (.cells #[.int .i64 0,.int .i64 0,.slice none 0 0,.slice none 0 0,.int .i64 0,.int .i64 0,.int .i64 0,.int .i64 0,.int .i64 0,.int .i64 0,.int .i64 0,.int .i64 0,.int .i64 0] 41);rw[R]at gx;have gy:m.heap[Y]?=some (.cells #[.int .i64 0,.int .i64 0,.slice none 0 0,.slice none 0 0,.int .i64 0,.int .i64 0,.int .i64 0,.int .i64 0,.int .i64 0,.int .i64 0,.int .i64 0,.int .i64 0,.int .i64 0] 41 (0,0)):=by rw[<-R,<-hY];exact aap g
 have cx:m.cell? ⟨X,0,none⟩=some (.int _ i):=aO gx rfl;have yn:bi w w g:=by rw[<-ug];exact(bi.refl ..).alloc .refl _
 have d:bi w w m:=by rw[<-R];exact yn.alloc yn.size _
 have bU:w<=Y:=by rw[<-hY];exact yn.size
 have aS:Y<m:=aQ gy;have hq:=Y0 Tryz.agP 13 oo isAgg41 sizeOf41 (λ W=>fw W F) (λ w u x z d h=>h.V (fW d)) l F _ m (h.B d) _ 92 #[X] (Qh func92 kk rfl) (λ W x u j _ y=>by obtain⟨z,rfl,_,S⟩:=y;exact avw x F z W S X i ((j.Z (uK cx)).J cx));have CH:HO (∀(j:Nat)(y:cJ),bi _ w y->j<l->∃b a x p q,ao=some ⟨b,a,none⟩/\l[j]?=some x/\fw y F x (ij x p q)/\(ij x p q).length=13/\∀i u,(ij x p q)[i]?=some u->y.cell? ⟨b,a+j*13+i,none⟩=some u):=λ j y d hj=>by obtain⟨x,hx⟩:∃x,l[j]?=some x:=(eB hj);obtain⟨b,a,r,z,e,_,aI,aK,T,c⟩:=h.at hx (by omega);simp only[cL]at e;obtain⟨rfl,-,-⟩:=e;have U:=T.V (fW d);obtain⟨p,q,rfl,A,o,n⟩:=U;exact⟨b,a,x,p,q,rfl,hx,⟨p,q,rfl,A,o,n⟩,aK,λ i u W=>(d.Z aI).J (c i u W)⟩
 have U4:=Lib.H hs;have HB:=Lib.H d;have Rx:=Lib.H gy;have VH:=aie (λ x:Nd=>x.id==i) l;have HF:HO (l.find? _=gn l i):=rfl;obtain⟨z,hz⟩:∃z,idxOf (λ x:Nd=>x.id==i) l=z:=ax;rw[hz]at hq VH;rw[HF.U]at VH;have HQ:=Lib.H hq;have VI:=Lib.H VH;obtain⟨o,ho⟩:∃o,gn l i=o:=ax;rw[ho]at VI⊢;obtain⟨n,S⟩:∃n,l.length=n:=ax;rw[S]at CH HQ f⊢;have Rw:=Lib.H (λk(x:Nd)(e:l[k]?=x)=>(by rw[<-S];exact(List.getElem?_eq_some_iff.1 e).1:k<n));go_enter func39,ntmps39;go_wp2_with fail;try rw[ug]
 try rw[Q]
 try rw[R]
 try rw[hY]
 refine HQ.U.M ?_;rintro e W ⟨rfl,aL⟩;have r:=Lib.H (HB.U.J (aL.M HB.U.size));have B:=Lib.H (nU aL Rx.U aS);obtain⟨bt,rfl⟩|⟨k,x,rfl,s,rfl⟩:=VI.U;·have gr:(W.setRow Y #[.int .i64 0,.int .i64 0,.slice none 0 0,.slice none 0 0,.int .i64 0,.int .i64 0,.int .i64 0,.int .i64 0,.int .i64 0,.int .i64 0,.int .i64 0,.int .i64 0,.int .i64 0]).heap[Y]?=some _:=OB W Y _ _ _ _ B.U;have c:aA W (W.setRow Y #[.int .i64 0,.int .i64 0,.slice none 0 0,.slice none 0 0,.int .i64 0,.int .i64 0,.int .i64 0,.int .i64 0,.int .i64 0,.int .i64 0,.int .i64 0,.int .i64 0,.int .i64 0]) _:=(vY W Y);have jv:=Lib.H (r.U.J (c.B r.U.size oo));go_wp2_with(first|(refine wpList_store_row rfl 41 _ _ rfl Y _ rfl rfl 41 _ B.U kk rfl kk ?_));refine bodyPost_ret (aif rfl _ _ Y 41 _ _ _ rfl gr underlying41 rfl kk) rfl ?_;subst Q;exact⟨[.int _ 0,.int _ 0,.slice _ 0 0,.slice _ 0 0,.int _ 0,.int _ 0,.int _ 0,.int _ 0,.int _ 0,.int _ 0,.int _ 0,.int _ 0,.int _ 0],rfl,⟨.slice _ 0 0,.slice _ 0 0,rfl,rfl,bS.nil ..,bS.nil ..⟩,jv.U⟩
 ·have aI:=Rw.U k x s;obtain⟨b,a,V,p,q,rfl,hx,T,aK,c⟩:=CH.U k W r.U aI;(obtain rfl:V=x:=by grind);have aM:=U4.U V (fx s);have Jr:=Lib.H (ag5 V F _ W T aM.1 aM.2);obtain⟨_,_,he,kE,aP,U⟩:=T;obtain⟨C,D,bA,aU,E,bB⟩:=V;simp only at kE aP U;obtain⟨G,H,I,J,K,L,M,N,rfl⟩:=eight kE;simp only[ij,List.cons.injEq,true_and]at he;obtain⟨rfl,rfl,-⟩:=he;obtain⟨af,cf,rfl,_,_⟩:=id aP.E;obtain⟨ap,cp,rfl,_,_⟩:=id U.E;obtain⟨O,nz⟩:∃n,bA.length=n:=ax;obtain⟨P,oH⟩:∃n,aU.length=n:=ax;simp only[ij,tj,AC]at Jr;rw[nz,oH]at c Jr;have k0:W.cell? ⟨b,a+k*13,none⟩=some (.int _ C):=c 0 _ rfl;have k1:W.cell? ⟨b,a+k*13+1,none⟩=some (.int _ D):=c 1 _ rfl;have k2:=c 2 _ rfl;have k3:=c 3 _ rfl;have k4:W.cell? ⟨b,a+k*13+4,none⟩=some (.int _ E):=c 4 _ rfl;have k5:=c 5 _ rfl;have k6:=c 6 _ rfl;have k7:=c 7 _ rfl;have k8:=c 8 _ rfl;have k9:=c 9 _ rfl;have eG:=c 10 _ rfl;have jJ:=c 11 _ rfl;have jP:=c 12 _ rfl;go_wp2_with fail;refine Jr.U.M ?_;rintro e t ⟨qZ,rfl,A,aJ⟩;obtain⟨bD,bG,rfl,-,g1,g2⟩:=id A;obtain⟨Z,NZ,rfl,_,_⟩:=id g1.E;obtain⟨N0,Jt,rfl,_,_⟩:=id g2.E;simp only at g1 g2;rw[nz,oH]at A;simp only[ij,tj,AC,nz,oH];have Q2:=Lib.H (nU aJ B.U (aQ B.U));have gr:(t.setRow Y #[C,D,.slice Z O NZ,.slice N0 P Jt,E,G,H,I,J,K,L,M,N]).heap[Y]?=some (.cells #[C,D,.slice Z O NZ,.slice N0 P Jt,E,G,H,I,J,K,L,M,N] 41 _):=OB t Y _ _ _ _ Q2.U;have LH:aA t (t.setRow Y #[C,D,.slice Z O NZ,.slice N0 P Jt,E,G,H,I,J,K,L,M,N]) _:=(vY t Y);have aV:=aJ.size;have jv:=Lib.H ((r.U.J (aJ.M r.U.size)).J (LH.B (lI r.U.size aV) oo));have BI:=aQ B.U;have HN:=Lib.H (((A.V (w':=t.setRow Y #[C,D,.slice Z O NZ,.slice N0 P Jt,E,G,H,I,J,K,L,M,N]) λ b d f=>LH.block b f oo)).M (G:=w) oo);simp only[ij,tj,AC]at HN;go_wp2_with(first|(refine wpList_store_row rfl 41 _ _ rfl Y _ rfl rfl 41 _ Q2.U kk rfl kk ?_));refine bodyPost_ret (aif rfl _ _ Y 41 _ _ _ rfl gr underlying41 rfl kk) rfl ?_;subst Q;exact⟨_,rfl,HN.U,jv.U⟩
def Es(a t:Int):Bool:=decide (t<0)||decide (a<=t)
def BJ(x:Nd):Bool:=decide (1<=x.par)&&decide (x.par<=3)&&! x.ur.any (Es x.par)
def avx(t a X w)(b:w.cell? ⟨X,4,none⟩=some (.int .i64 a)):eE am 233 #[bs t,g6 X 0] w λ e X=>e=Es a t/\bi w w X:=by
 have a:=b;go_enter func233,ntmps233;go_wp2_with fail;all_goals go_ret
 all_goals refine⟨?_,bi.refl ..⟩
 all_goals simp_all[Es]
def avy (x F s w)(h:fw w F x s)(L:eJ x):eE am 162 #[s] w λ e t=>e=BJ x/\bi w w t:=by
 obtain⟨T,U,rfl,t,v,y⟩:=h;obtain⟨o,p,A,B,a,V⟩:=x;simp only at t v y L⊢;obtain⟨b,c,d,f,g,i,l,m,rfl⟩:=eight t;obtain⟨C,D,rfl,_,_⟩:=id v.E;obtain⟨E,G,rfl,_,_⟩:=id y.E;obtain⟨H,M⟩:∃n,A.length=n:=ax;obtain⟨I,N⟩:∃n,B.length=n:=ax;simp only[ij,tj,AC];rw[M,N];obtain⟨X,q⟩:∃X,w.heap.size=X:=ax;obtain⟨n,r⟩:∃n,w.alloc (.cells #[o,p,.slice C H D,.slice E I G,a,b,c,d,f,g,i,l,m] 41)=n:=ax;have J:n.heap[X]?=some (.cells #[o,p,.slice C H D,.slice E I G,a,b,c,d,f,g,i,l,m] 41 (0,0)):=by rw[<-r,<-q];exact aap w
 have O:bi w w n:=by rw[<-r];exact(bi.refl ..).alloc .refl _
 have K:n.cell? ⟨X,4,none⟩=some (.int _ a):=aO J rfl;have P:Ints n (λ k=>k=X) (.slice (some ⟨X,5,none⟩) 8 8) [b,c,d,f,g,i,l,m]:=by refine⟨_,8,[b,c,d,f,g,i,l,m].flatMap iC,rfl,by simp,et,oh (k:=1) (λ _=>rfl) _,by simp[iC,Value.oneCell'],λ j u z=>⟨X,5,rfl,rfl,aO J ?_⟩⟩;(have W:j<8:=by have:=(List.getElem?_eq_some_iff.1 z).1;simpa[iC]using this);match j,W with|0,_=>exact z|1,_=>exact z|2,_=>exact z|3,_=>exact z|4,_=>exact z|5,_=>exact z|6,_=>exact z|7,_=>exact z
 have k:=QT Tryz.QV _ _ _ _ n P _ 233 #[X] (Qh func233 kk rfl) (λ W x u j _ z=>by obtain rfl:=z;exact avx _ a X W ((j.Z (uK K)).J K));have j:=Lib.H k;have u:=Lib.H O;have W:HO (BJ ⟨o,p,A,B,a,[b,c,d,f,g,i,l,m]⟩=(decide (1<=a)&&decide (a<=3)&&!([b,c,d,f,g,i,l,m].any (Es a)))):=rfl;rw[W.U];obtain⟨z,Q⟩:∃z,[b,c,d,f,g,i,l,m].any (Es a)=z:=ax;rw[Q]at j⊢;go_enter func162,ntmps162;go_wp2_with fail;all_goals try rw[r]
 all_goals try rw[q]
 all_goals subst q
 all_goals first|(refine j.U.M ?_;rintro e Y ⟨rfl,R⟩;have S:=Lib.H (rX u R);go_wp2_with fail;go_ret;refine⟨?_,S.U⟩;simp_all)|(go_ret;refine⟨?_,u.U⟩;simp_all)
 all_goals(intros;omega)
def VJ(a:List Is->Bool):Prop:=∀(l)(F)(v)(w),lL w F v l->l.length<=1000000->eE am 232 #[v] w λ e v=>e=a l/\bi w w v
def kindOk(a:List Is->Bool)(x:Nd):Bool:=if x.kind=0 then decide (x.id=0)&&decide (x.bA.length=0)&&decide (x.prog.length=0)else if x.kind=1 then ! decide (x.id=0)&&decide (x.bA.length=1)&&a x.prog else if x.kind=2 then ! decide (x.id=0)&&decide (1<=x.bA.length)&&decide (x.bA.length<=3)&&xE x.bA&&decide (x.prog.length=0)else false
def avz (b)(H:VJ b)(x F f w)(h:fw w F x f)(k:eJ x):eE am 161 #[f] w λ e f=>e=kindOk b x/\bi w w f:=by
 obtain⟨B,g,rfl,i,l,f⟩:=h;obtain⟨h,y,c,d,m,B⟩:=x;simp only at i l f k⊢;obtain⟨o,p,q,r,s,t,u,v,rfl⟩:=eight i;obtain⟨A,B,rfl,_,_⟩:=id l.E;obtain⟨g,i,rfl,_,_⟩:=id f.E;obtain⟨z,C⟩:∃n,c.length=n:=ax;obtain⟨a,D⟩:∃n,d.length=n:=ax;simp only[ij,tj,AC];rw[C,D];obtain⟨X,E⟩:∃X,w.heap.size=X:=ax;obtain⟨x,j⟩:∃x,w.alloc (.cells #[h,y,.slice A z B,.slice g a i,m,o,p,q,r,s,t,u,v] 41)=x:=ax;have n:x.heap[X]?=some (.cells #[h,y,.slice A z B,.slice g a i,m,o,p,q,r,s,t,u,v] 41 (0,0)):=by rw[<-j,<-E];exact aap w
 have G:bi w w x:=by rw[<-j];exact(bi.refl ..).alloc .refl _
 have I:x.cell? ⟨X,0,none⟩=some (.int _ h):=aO n rfl;have J:x.cell? ⟨X,1,none⟩=some (.int _ y):=aO n rfl;have K:x.cell? ⟨X,2,none⟩=some (.slice A z B):=aO n rfl;have B:x.cell? ⟨X,3,none⟩=some (.slice g a i):=aO n rfl;have X:=Lib.H (H d F _ x (f.vB G .refl) k.2);have f:=Lib.H (aid c F _ x (l.vB G .refl) k.1);have F:=Lib.H G;have k:HO (kindOk b ⟨h,y,c,d,m,[o,p,q,r,s,t,u,v]⟩=(if y=0 then decide (h=0)&&decide (z=0)&&decide (a=0)else if y=1 then ! decide (h=0)&&decide (z=1)&&b d else if y=2 then ! decide (h=0)&&decide (1<=z)&&decide (z<=3)&&xE c&&decide (a=0)else false)):=by show _=_;unfold kindOk;simp only;rw[C,D]
 rw[k.U];rw[C]at f;rw[D]at X;obtain⟨z,h⟩:∃z,b d=z:=ax;obtain⟨y,b⟩:∃y,xE c=y:=ax;rw[h]at X⊢;rw[b]at f⊢;have k:=aQ n;go_enter func161,ntmps161;go_wp2_with fail;all_goals try rw[j]
 all_goals try rw[E]
 all_goals subst E
 all_goals first|(refine X.U.M ?_;rintro e c ⟨rfl,h⟩;have b:=Lib.H (rX F h);clear h X;go_wp2_with fail;(all_goals go_ret);all_goals refine⟨?_,b.U⟩)|(refine f.U.M ?_;rintro e c ⟨rfl,h⟩;have e:c.cell? ⟨w,3,none⟩=some _:=(h.Z k).J B;have b:=Lib.H (rX F h);clear h f X;go_wp2_with fail;(all_goals go_ret);all_goals refine⟨?_,b.U⟩)|(go_ret;refine⟨?_,F.U⟩)
 all_goals(try clear X)
 all_goals(try clear f)
 all_goals(clear F I J K B j)
 all_goals(try simp_all)
 all_goals grind
def BK(l:List Nd)(i:Int):Bool:=match gn l i with|none=>true|some m=>decide (m.kind=2)
def avA(l i):BK l i=(!(gn l i).isSome||decide (((gn l i).getD default).kind=2)):=by unfold BK;cases gn l i<;>rfl
def avB(l F v w)(h:dj w F v l)(O:lV l)(P:l.length<=1000)(i Y)(Q:w.cell? ⟨Y,0,none⟩=v):eE am 160 #[bs i,Y] w λ e C=>e=BK l i/\bi w w C:=by
 obtain⟨ao,aI,rfl,_,_⟩:=id h.E;have C:=CU l F _ w h O P i;rw[avA];obtain⟨x,R⟩:∃x,(gn l i).getD default=x:=ax;obtain⟨b,S⟩:∃b,(gn l i).isSome=b:=ax;rw[R,S]at C⊢;obtain⟨n,T⟩:∃n,l.length=n:=ax;rw[T]at C Q;have U:=Lib.H C;obtain⟨d,c,V,W,f,aJ⟩:=x;go_enter func160,ntmps160;go_wp2_with fail;refine U.U.M ?_;rintro e D ⟨cs,rfl,Z,E⟩;obtain⟨vf,vp,rfl,I,J,K⟩:=id Z;simp only at I J K;obtain⟨g,j,m,o,p,q,r,s,rfl⟩:=eight I;obtain⟨t,u,rfl,_,_⟩:=id J.E;obtain⟨y,z,rfl,_,_⟩:=id K.E;obtain⟨A,nz⟩:∃n,V.length=n:=ax;obtain⟨B,oH⟩:∃n,W.length=n:=ax;simp only[ij,tj,AC];rw[nz,oH];obtain⟨X,G⟩:∃X,D.heap.size=X:=ax;obtain⟨a,H⟩:∃a,D.alloc (.cells #[.int .i64 0,.int .i64 0,.slice none 0 0,.slice none 0 0,.int .i64 0,.int .i64 0,.int .i64 0,.int .i64 0,.int .i64 0,.int .i64 0,.int .i64 0,.int .i64 0,.int .i64 0] 41)=a:=ax;have L:a.heap[X]?=some (.cells #[.int _ 0,.int _ 0,.slice _ 0 0,.slice _ 0 0,.int _ 0,.int _ 0,.int _ 0,.int _ 0,.int _ 0,.int _ 0,.int _ 0,.int _ 0,.int _ 0] 41 _):=(mm H G D)
 have M:bi w w a:=by rw[<-H];exact E.alloc E.size _
 have gr:(a.setRow X #[d,c,.slice t A u,.slice y B z,f,g,j,m,o,p,q,r,s]).heap[X]?=some _:=OB a X _ _ _ _ L;have hc:aA a (a.setRow X #[d,c,.slice t A u,.slice y B z,f,g,j,m,o,p,q,r,s]) _:=(vY a X);have qW:w<=X:=by rw[<-G];exact E.size
 have k:=(zt (M.J (hc.B M.size oo)));have k1:(a.setRow X _).cell? ⟨X,1,none⟩=some (.int _ c):=aO gr rfl;have N:=Lib.H L;subst H G;go_wp2_with(first|(refine wpList_store_row rfl 41 _ _ rfl _ _ rfl rfl 41 _ N.U kk rfl kk ?_));all_goals go_ret
 all_goals refine⟨?_,k.U⟩
 all_goals clear k N k1
 all_goals(try simp_all)
 exact oK
def qH(a:List Is->Bool)(x:Nd)(l:List Nd):Bool:=decide (0<=x.id)&&decide (x.id<8)&&kindOk a x&&BJ x&&! x.bA.any (BK l)
def avC(c)(zD:VJ c)(x l F G f v w)(h:fw w F x f)(O:eJ x)(aI:dj w G v l)(hs:lV l)(D:l.length<=1000):eE am 87 #[f,v] w λ e X=>e=qH c x l/\bi w w X:=by
 obtain⟨E,H,rfl,_,_⟩:=id aI.E;have I:HO (∀X,bi _ w X->eE _ 161 _ X _):=λ X a=>avz c zD x F f X (h.V (fW a)) O;have J:HO (∀X,bi _ w X->eE _ 162 _ X _):=λ X a=>avy x F f X (h.V (fW a)) O;have oW:qH c x l=(decide _&&decide _&&kindOk c x&&BJ x&&! x.bA.any _):=rfl;obtain⟨n,hn⟩:∃n,l.length=n:=ax;have aK:HO _:=λ Y i X a K=>avB l G _ X (aI.B a) hs D i Y (rA hn K);obtain⟨vf,vp,rfl,kE,P,aJ⟩:=h;obtain⟨g,j,d,Q,k,bt⟩:=x;simp only at kE P aJ O oW;obtain⟨m,o,p,q,r,s,t,y,rfl⟩:=eight kE;obtain⟨A,B,rfl,_,_⟩:=id P.E;obtain⟨L,M,rfl,_,_⟩:=id aJ.E;have R:HO (∀(Y:Nat)(X:cJ),bi _ w X->X.cell? ⟨Y,0,none⟩=some _->eE _ 163 #[.slice A _ B,.func (.func 160) #[] _] X _):=λ Y X a K=>QT Tryz.QV _ d F _ X (uh P a) _ 160 #[Y] (Qh func160 kk rfl) (λ W x u z _ N=>by obtain rfl:=N;exact aK.U Y x W (a.J (z.M a.size)) (rU z K));obtain⟨K,nz⟩:∃n,d.length=n:=ax;obtain⟨N,oH⟩:∃n,Q.length=n:=ax;simp only[ij,tj,AC]at I J⊢;rw[nz]at I J R⊢;rw[oH]at I J⊢;rw[hn,oW];obtain⟨z1,aL⟩:∃z,kindOk c ⟨g,j,d,Q,k,[m,o,p,q,r,s,t,y]⟩=z:=ax;obtain⟨z2,aM⟩:∃z,BJ ⟨g,j,d,Q,k,[m,o,p,q,r,s,t,y]⟩=z:=ax;obtain⟨z3,aP⟩:∃z,d.any (BK l)=z:=ax;rw[aL]at I⊢;rw[aM]at J⊢;rw[aP]at R⊢;obtain⟨X,S⟩:∃X,w.heap.size=X:=ax;obtain⟨W,ug⟩:∃W,w.alloc (.cells #[g,j,.slice A K B,.slice L N M,k,m,o,p,q,r,s,t,y] 41)=W:=ax;obtain⟨Y,hY⟩:∃Y,W.heap.size=Y:=ax;obtain⟨i,T⟩:∃i,W.alloc (.cells #[.slice E n H] 22)=i:=ax;have ga:W.heap[X]?=some (.cells #[g,j,.slice A K B,.slice L N M,k,m,o,p,q,r,s,t,y] 41 _):=(mm ug S w)
 have z:=qC ga (.cells #[.slice E n H] 22);rw[T]at z;have gy:i.heap[Y]?=some (.cells _ 22 _):=(mm T hY W)
 have yn:bi w w W:=by rw[<-ug];exact(bi.refl ..).alloc .Y _
 have a:bi w w i:=by rw[<-T];exact yn.alloc yn.size _
 have k0:i.cell? ⟨X,0,none⟩=some (.int _ g):=aO z rfl;have k1:i.cell? ⟨X,1,none⟩=some (.int _ j):=aO z rfl;have k2:i.cell? ⟨X,2,none⟩=some (.slice A K B):=aO z rfl;have k3:i.cell? ⟨X,3,none⟩=some (.slice L N M):=aO z rfl;have k4:i.cell? ⟨X,4,none⟩=some (.int _ k):=aO z rfl;have k5:i.cell? ⟨X,5,none⟩=some (.int _ m):=aO z rfl;have k6:i.cell? ⟨X,6,none⟩=some (.int _ o):=aO z rfl;have k7:i.cell? ⟨X,7,none⟩=some (.int _ p):=aO z rfl;have k8:i.cell? ⟨X,8,none⟩=some (.int _ q):=aO z rfl;have k9:i.cell? ⟨X,9,none⟩=some (.int _ r):=aO z rfl;have eG:i.cell? ⟨X,10,none⟩=some (.int _ s):=aO z rfl;have jJ:i.cell? ⟨X,11,none⟩=some (.int _ t):=aO z rfl;have jP:i.cell? ⟨X,12,none⟩=some (.int _ y):=aO z rfl;have Js:=Lib.H z;have Rx:=Lib.H gy;have C:=Lib.H a;have FT:=(zt (I.U i a));go_enter func87,ntmps87;go_wp2_with fail;all_goals(try(go_ret;refine⟨?_,by first|exact C.U|(rw[<-S];exact C.U)⟩;simp_all;done))
 all_goals(try(go_ret;refine⟨?_,by first|exact C.U|(rw[<-S];exact C.U)⟩;simp_all;omega))
 refine FT.U.M ?_;rintro e b ⟨rfl,U⟩;have V:=Lib.H (rX C U);have u:=nU U Js.U (aQ Js.U);have aS:=nU U Rx.U (aQ Rx.U);have k0:b.cell? ⟨X,0,none⟩=some (.int _ g):=aO u rfl;have k1:b.cell? ⟨X,1,none⟩=some (.int _ j):=aO u rfl;have k2:b.cell? ⟨X,2,none⟩=some (.slice A K B):=aO u rfl;have k3:b.cell? ⟨X,3,none⟩=some (.slice L N M):=aO u rfl;have k4:b.cell? ⟨X,4,none⟩=some (.int _ k):=aO u rfl;have k5:b.cell? ⟨X,5,none⟩=some (.int _ m):=aO u rfl;have k6:b.cell? ⟨X,6,none⟩=some (.int _ o):=aO u rfl;have k7:b.cell? ⟨X,7,none⟩=some (.int _ p):=aO u rfl;have k8:b.cell? ⟨X,8,none⟩=some (.int _ q):=aO u rfl;have k9:b.cell? ⟨X,9,none⟩=some (.int _ r):=aO u rfl;have eG:b.cell? ⟨X,10,none⟩=some (.int _ s):=aO u rfl;have jJ:b.cell? ⟨X,11,none⟩=some (.int _ t):=aO u rfl;have jP:b.cell? ⟨X,12,none⟩=some (.int _ y):=aO u rfl;have Ha:=(zt (J.U b V.U));have ZN:=Lib.H u;have ZO:=Lib.H aS;cases z1;·go_wp2_with fail;go_ret;exact⟨by simp,by assumption⟩
 go_wp2_with fail;refine Ha.U.M ?_;rintro e w3 ⟨rfl,Z⟩;have jv:=Lib.H (rX V Z);have aU:=nU Z ZN.U (aQ ZN.U);have aV:=nU Z ZO.U (aQ ZO.U);have m2:w3.cell? ⟨X,2,none⟩=some (.slice A K B):=aO aU rfl;have rQ:=(zt (R.U Y w3 jv.U (aO aV rfl)));cases z2;·go_wp2_with fail;go_ret;exact⟨by simp,by assumption⟩
 go_wp2_with fail;refine rQ.U.M ?_;rintro e w4 ⟨rfl,aW⟩;have VG:=Lib.H (rX jv aW);go_wp2_with fail;all_goals go_ret
 all_goals refine⟨?_,by assumption⟩
 all_goals(try simp_all)
 all_goals(try(first|omega|(intros;omega)))
section
open _root_.Go.RowKit _root_.Go.Shelf
def isEq(x y:Is):Bool:=x.op==y.op&&x.a==y.a
def LI(x y:En):Bool:=x.node==y.node&&(x.key==y.key&&((x.c0.re==y.c0.re&&x.c0.im==y.c0.im)&&(x.c1.re==y.c1.re&&x.c1.im==y.c1.im)))
instance:Inhabited Vl:=⟨⟨0,0⟩⟩
instance:Inhabited Is:=⟨⟨0,0⟩⟩
instance:Inhabited En:=⟨⟨0,0,default,default⟩⟩
def isNe:NeqAt am 158 (λ x:Is=>wm x) isEq:=by refine⟨λ x y w=>?_,GuardAt.agg _ kk⟩;rw[run_neq_struct];simp only[wm];go_simp;unfold isEq;grind
def LJ(d:Nat)(e:zo)(k:Nat)(xs ys:Array eQ):List Nat→Sem Bool
 |[]=>pure true
 |i::l=>do
  if !(←Pa d e (←part e xs (i*k)) (←part e ys (i*k))) then return false
  LJ d e k xs ys l
def run_equalIn_array{P}(w d t n e k c g)(m:Hp P t (.array n e))(o:∀w,sa (Go.sizeOf e) P w k):(Pa (d+1) t (.agg c) (.agg g)).run P w=(LJ d e k c g (sD n)).run P w:=by simp only[Pa,rq,oZ m,nY,o];rw[Std.Legacy.Range.forIn_eq_forIn_range'];simp only[Std.Legacy.Range.size,Nat.sub_zero,Nat.add_sub_cancel,Nat.div_one,<-List.range_eq_range'];generalize sD n=l;induction l generalizing w with|nil=>simp[LJ]|cons f v p=>simp only[List.forIn_cons,LJ,rq,Sem.run_ite];generalize(part e c _).run P w=q;cases q with|ok a h=>simp only[nY];generalize(part e g _).run P h=s;(cases s with|ok b i=>simp only[nY];generalize(Pa d e a b).run P i=u;(cases u with|ok r j=>cases r;simp ;simp only[nY,Bool.not_true,xn,Rv,ws];exact p j|halt x j=>exact oK)|halt x i=>exact oK)|halt x h=>exact oK
def avE:NeqAt am 149 (λ x:En=>j4 x) LI:=by
 refine⟨λ x y w=>?_,GuardAt.agg _ kk⟩;rw[run_neq_struct];simp only[j4];have a:(zw am (Pa 9999 129 (.agg #[x.c0.re,x.c0.im,x.c1.re,x.c1.im]) (.agg #[y.c0.re,y.c0.im,y.c1.re,y.c1.im])) w)= .ok ((x.c0.re==y.c0.re&&x.c0.im==y.c0.im)&&(x.c1.re==y.c1.re&&x.c1.im==y.c1.im)) w:=by rw[run_equalIn_array w _ 129 2 128 2 _ _ underlying129 sizeOf128,show sD 2=[0,1]from rfl];simp only[LJ];go_simp;grind
 go_simp;unfold LI;by_cases w:x.node=y.node<;>by_cases a:x.key=y.key<;>simp[w,a];all_goals(by_cases w:x.c0.re=y.c0.re<;>by_cases a:x.c0.im=y.c0.im<;>by_cases b:x.c1.re=y.c1.re<;>by_cases c:x.c1.im=y.c1.im<;>simp[w,a,b,c])
def avF(e a n c m d w)(b:n≠m):eE am 135 #[.slice e n c,.slice a m d] w λ e d=>ea e (.bool false)/\d=w:=by have d:¬n=(m:Int):=oo;go_enter func135,ntmps135;exact mZ
def avG(e i c d w):eE am 135 #[.slice e 0 c,.slice i 0 d] w λ e i=>ea e (.bool true)/\i=w:=by go_enter func135,ntmps135;go_wp2_with fail;go_loopw[13](λ i d=>i= .int .i64 0/\d=w)(λ _ _=>0);exact oK;case round=>obtain⟨rfl,rfl⟩:=hrel;exact mZ
def avH(l m F G v u w)(h:Ints w F v l)(a:Ints w G u m):eE am 135 #[v,u] w λ e f=>e=CI (λ x y=>x==y) l m/\∃q,f=w.drewN q:=by
 obtain⟨f,g,q,I,J⟩:=h.E;obtain⟨i,k,d,K,L⟩:=a.E;by_cases n:l.length=m.length;by_cases s:0<l.length;obtain⟨x,t⟩:∃x,l[0]?=some x:=(eB s);obtain⟨y,z⟩:∃y,m[0]?=some y:=oV;obtain⟨A,B,M,_,rfl,_⟩:=h.at t oo;obtain⟨C,D,N,_,rfl,_⟩:=a.at z oo;have O:pJ<=9223372036854775807:=et
 simp only[cL]at q d;obtain⟨rfl,-,rfl⟩:=q;have p:∀{F:Nat->Prop}{b o c:Nat}{l:List Int}(h:Ints w F (.slice (some ⟨b,o,none⟩) l.length c) l)(j:Nat),j<l.length->w.cell? ⟨b,o+j,none⟩=some (.int _ l[j]!):=λ{F b o c l}h j r=>by obtain⟨P,Q,R,S,e,_,_,_,E,H⟩:=h.at (List.getElem?_eq_getElem r) oo;simp only[cL,BY,KH]at e;obtain⟨⟨rfl,rfl,-⟩,-,-⟩:=e;rw[getElem!_pos l j r];obtain rfl:=E;have:=H 0 _ rfl;simpa using this
 refine eE.mono (AnyE.slices_Equal Tryz.atj _ _ (NeqAt.int ..) A B _ _ C D _ _ l m w .Y .Y oo oo (p h) (p a)) ?_;grind;obtain rfl:l=[]:=oV;obtain rfl:m=[]:=oV;subst q d;exact (xM (avG f i g k w));subst q d;rw[Lib.allEq_len _ _ _ n];exact (xM (avF f i _ g _ k w n))
def avI(e a n c m d w)(b:n≠m):eE am 338 #[.slice e n c,.slice a m d] w λ e d=>ea e (.bool false)/\d=w:=by have d:¬n=(m:Int):=oo;go_enter func338,ntmps338;exact mZ
def avJ(e i c d w):eE am 338 #[.slice e 0 c,.slice i 0 d] w λ e i=>ea e (.bool true)/\i=w:=by go_enter func338,ntmps338;go_wp2_with fail;go_loopw[13](λ i d=>i= .int .i64 0/\d=w)(λ _ _=>0);exact oK;case round=>obtain⟨rfl,rfl⟩:=hrel;exact mZ
def avK(l m F G v u w)(h:lL w F v l)(a:lL w G u m):eE am 338 #[v,u] w λ e f=>e=CI isEq l m/\∃q,f=w.drewN q:=by
 obtain⟨f,g,q,J,K⟩:=h.E;obtain⟨k,n,d,L,M⟩:=a.E;by_cases p:l.length=m.length;by_cases t:0<l.length;obtain⟨x,z⟩:∃x,l[0]?=some x:=(eB t);obtain⟨y,A⟩:∃y,m[0]?=some y:=oV;obtain⟨B,C,N,_,rfl,_⟩:=h.at z oo;obtain⟨D,E,O,_,rfl,_⟩:=a.at A oo;have P:pJ<=9223372036854775807:=et
 simp only[cL]at q d;obtain⟨rfl,-,rfl⟩:=q;have r:∀{F:Nat->Prop}{b o c:Nat}{l:List Is}(h:lL w F (.slice (some ⟨b,o,none⟩) l.length c) l)(j:Nat),j<l.length->∀i v,(wm l[j]!)[i]?=some v->w.cell? ⟨b,o+j*2+i,none⟩=some v:=λ{F b o c l}h j s=>by obtain⟨Q,R,S,T,e,_,_,_,H,I⟩:=h.at (List.getElem?_eq_getElem s) oo;simp only[cL,BY,KH]at e;obtain⟨⟨rfl,rfl,-⟩,-,-⟩:=e;rw[getElem!_pos l j s];obtain rfl:=H;exact I
 refine eE.mono (AnyQ.slices_Equal Tryz.ath 2 isAgg158 sizeOf158 wm (λ _=>rfl) _ isNe B C _ _ D E _ _ l m w .Y .Y oo oo (r h) (r a)) ?_;grind;obtain rfl:l=[]:=oV;obtain rfl:m=[]:=oV;subst q d;exact (xM (avJ f k g n w));subst q d;rw[Lib.allEq_len _ _ _ p];exact (xM (avI f k _ g _ n w p))
def avL(e a n c m d w)(b:n≠m):eE am 314 #[.slice e n c,.slice a m d] w λ e d=>ea e (.bool false)/\d=w:=by have d:¬n=(m:Int):=oo;go_enter func314,ntmps314;exact mZ
def avM(e i c d w):eE am 314 #[.slice e 0 c,.slice i 0 d] w λ e i=>ea e (.bool true)/\i=w:=by go_enter func314,ntmps314;go_wp2_with fail;go_loopw[13](λ i d=>i= .int .i64 0/\d=w)(λ _ _=>0);exact oK;case round=>obtain⟨rfl,rfl⟩:=hrel;exact mZ
def avN(l m F G v u w)(h:lS w F v l)(a:lS w G u m):eE am 314 #[v,u] w λ e f=>e=CI LI l m/\∃q,f=w.drewN q:=by
 obtain⟨f,g,q,J,K⟩:=h.E;obtain⟨k,n,d,L,M⟩:=a.E;by_cases p:l.length=m.length;by_cases t:0<l.length;obtain⟨x,z⟩:∃x,l[0]?=some x:=(eB t);obtain⟨y,A⟩:∃y,m[0]?=some y:=oV;obtain⟨B,C,N,_,rfl,_⟩:=h.at z oo;obtain⟨D,E,O,_,rfl,_⟩:=a.at A oo;have P:pJ<=9223372036854775807:=et
 simp only[cL]at q d;obtain⟨rfl,-,rfl⟩:=q;have r:∀{F:Nat->Prop}{b o c:Nat}{l:List En}(h:lS w F (.slice (some ⟨b,o,none⟩) l.length c) l)(j:Nat),j<l.length->∀i v,(j4 l[j]!)[i]?=some v->w.cell? ⟨b,o+j*6+i,none⟩=some v:=λ{F b o c l}h j s=>by obtain⟨Q,R,S,T,e,_,_,_,H,I⟩:=h.at (List.getElem?_eq_getElem s) oo;simp only[cL,BY,KH]at e;obtain⟨⟨rfl,rfl,-⟩,-,-⟩:=e;rw[getElem!_pos l j s];obtain rfl:=H;exact I
 refine eE.mono (AnyQ.slices_Equal Tryz.atf 6 isAgg149 sizeOf149 j4 (λ _=>rfl) LI avE B C _ _ D E _ _ l m w .Y .Y oo oo (r h) (r a)) ?_;grind;obtain rfl:l=[]:=oV;obtain rfl:m=[]:=oV;subst q d;exact (xM (avM f k g n w));subst q d;rw[Lib.allEq_len _ _ _ p];exact (xM (avL f k _ g _ n w p))
end
section
open _root_.Go.RowKit _root_.Go.Shelf
def below_drewN{B a w}(h:bi B a w)(q):bi B a (w.drewN q):=⟨h.os,h.tape,h.output,h.size,h.block⟩
def JH(x y:Nd):Bool:=x.id==y.id&&(x.kind==y.kind&&(x.par==y.par&&(x.ur==y.ur&&(CI (λ x y=>x==y) x.bA y.bA&&CI isEq x.prog y.prog))))
def avP(a b c d e f g h i j k l m n o p w):(zw am (Pa 10000 39 (.agg #[bs a,bs b,bs c,bs d,bs e,bs f,bs g,bs h]) (.agg #[bs i,bs j,bs k,bs l,bs m,bs n,bs o,bs p])) w)= .ok ([a,b,c,d,e,f,g,h]==[i,j,k,l,m,n,o,p]) w:=by rw[run_equalIn_array w _ 39 8 3 1 _ _ underlying39 sizeOf3,show sD 8=[0,1,2,3,4,5,6,7]from rfl];simp only[LJ];go_simp;grind
def avQ(x y F G e L w)(h:fw w F x e)(g:fw w G y L):eE am 287 #[e,L] w λ e X=>e=JH x y/\bi w w X:=by
 obtain⟨_,_,rfl,L,R,O⟩:=h;obtain⟨H,I,Y,h,J,K⟩:=x;simp only at L R O;obtain⟨j,k,l,m,o,p,r,s,rfl⟩:=eight L;obtain⟨P,Q,rfl,_,_⟩:=id R.E;obtain⟨K,L,rfl,_,_⟩:=id O.E;obtain⟨_,_,rfl,E,S,z⟩:=g;obtain⟨u,v,A,B,C,i⟩:=y;simp only at E S z;obtain⟨G,F,a,b,c,d,f,i,rfl⟩:=eight E;obtain⟨M,N,rfl,_,_⟩:=id S.E;obtain⟨D,E,rfl,_,_⟩:=id z.E;have T:HO _:=λ X t=>avH _ _ _ _ _ _ X (uh R t) (uh S t);have U:HO _:=λ X t=>avK _ _ _ _ _ _ X (uh O t) (uh z t);have O:HO (JH ⟨H,I,Y,h,J,[j,k,l,m,o,p,r,s]⟩ ⟨u,v,A,B,C,[G,F,a,b,c,d,f,i]⟩=(H==u&&(I==v&&(J==C&&(([j,k,l,m,o,p,r,s]==[G,F,a,b,c,d,f,i])&&(CI _ Y A&&CI _ h B)))))):=rfl;rw[O.U];obtain⟨V,X⟩:∃n,Y.length=n:=ax;obtain⟨R,z⟩:∃n,h.length=n:=ax;obtain⟨S,W⟩:∃n,A.length=n:=ax;obtain⟨O,Z⟩:∃n,B.length=n:=ax;simp only[ij,tj,AC];rw[X,W]at T;rw[z,Z]at U;rw[X,W,z,Z];obtain⟨W,X⟩:∃z,CI (λ x y=>x==y) Y A=z:=ax;obtain⟨y,Y⟩:∃z,CI isEq h B=z:=ax;obtain⟨h,y⟩:∃z,([j,k,l,m,o,p,r,s]==[G,F,a,b,c,d,f,i])=z:=ax;rw[X]at T⊢;rw[Y]at U⊢;have Y:∀w,(zw _ _ w)= .ok h w:=λ w=>by rw[avP,y]
 rw[y];have y:am.eqGuardType am.depth 39=false:=kk;obtain⟨X,h⟩:∃X,w.heap.size=X:=ax;obtain⟨z,A⟩:∃z,w.alloc (.cells #[H,I,.slice P V Q,.slice K R L,J,j,k,l,m,o,p,r,s] 41)=z:=ax;obtain⟨Y,n⟩:∃Y,z.heap.size=Y:=ax;obtain⟨y,B⟩:∃y,z.alloc (.cells #[u,v,.slice M S N,.slice D O E,C,G,F,a,b,c,d,f,i] 41)=y:=ax;have Z:z.heap[X]?=some (.cells #[H,I,.slice P V Q,.slice K R L,J,j,k,l,m,o,p,r,s] 41 _):=(mm A h w)
 have x:=qC Z (.cells #[u,v,.slice M S N,.slice D O E,C,G,F,a,b,c,d,f,i] 41);rw[B]at x;have h:y.heap[Y]?=some (.cells #[u,v,.slice M S N,.slice D O E,C,G,F,a,b,c,d,f,i] 41 _):=(mm B n z)
 have n:bi w w z:=by rw[<-A];exact(bi.refl ..).alloc .Y _
 have t:bi w w y:=by rw[<-B];exact n.alloc n.size _
 have A:y.cell? ⟨X,0,none⟩=some (.int _ H):=aO x rfl;have H:y.cell? ⟨X,1,none⟩=some (.int _ I):=aO x rfl;have I:y.cell? ⟨X,2,none⟩=some (.slice P V Q):=aO x rfl;have I:y.cell? ⟨X,3,none⟩=some (.slice K R L):=aO x rfl;have Q:y.cell? ⟨X,4,none⟩=some (.int _ J):=aO x rfl;have J:y.cell? ⟨X,5,none⟩=some (.int _ j):=aO x rfl;have j:y.cell? ⟨X,6,none⟩=some (.int _ k):=aO x rfl;have k:y.cell? ⟨X,7,none⟩=some (.int _ l):=aO x rfl;have l:y.cell? ⟨X,8,none⟩=some (.int _ m):=aO x rfl;have m:y.cell? ⟨X,9,none⟩=some (.int _ o):=aO x rfl;have o:y.cell? ⟨X,10,none⟩=some (.int _ p):=aO x rfl;have p:y.cell? ⟨X,11,none⟩=some (.int _ r):=aO x rfl;have r:y.cell? ⟨X,12,none⟩=some (.int _ s):=aO x rfl;have s:y.cell? ⟨Y,0,none⟩=some (.int _ u):=aO h rfl;have s:y.cell? ⟨Y,1,none⟩=some (.int _ v):=aO h rfl;have s:y.cell? ⟨Y,2,none⟩=some (.slice M S N):=aO h rfl;have s:y.cell? ⟨Y,3,none⟩=some (.slice D O E):=aO h rfl;have v:y.cell? ⟨Y,4,none⟩=some (.int _ C):=aO h rfl;have C:y.cell? ⟨Y,5,none⟩=some (.int _ G):=aO h rfl;have G:y.cell? ⟨Y,6,none⟩=some (.int _ F):=aO h rfl;have F:y.cell? ⟨Y,7,none⟩=some (.int _ a):=aO h rfl;have F:y.cell? ⟨Y,8,none⟩=some (.int _ b):=aO h rfl;have b:y.cell? ⟨Y,9,none⟩=some (.int _ c):=aO h rfl;have c:y.cell? ⟨Y,10,none⟩=some (.int _ d):=aO h rfl;have d:y.cell? ⟨Y,11,none⟩=some (.int _ f):=aO h rfl;have f:y.cell? ⟨Y,12,none⟩=some (.int _ i):=aO h rfl;have f:=Lib.H t;go_enter func287,ntmps287;go_wp2_with fail;all_goals(try(go_ret;refine⟨?_,by assumption⟩;simp_all;done))
 refine(T.U y f.U).M ?_;rintro e h ⟨rfl,q,rfl⟩;have i:=(zt (below_drewN f.U q));have h:(y.drewN q).cell? ⟨X,3,none⟩=some _:=I;have I:(y.drewN q).cell? ⟨Y,3,none⟩=some _:=s;have K:=(zt (U.U _ i.U));obtain⟨L,O⟩:∃L,y.drewN q=L:=ax;rw[O]at i h I K⊢;cases W;·go_wp2_with fail;go_ret;refine⟨?_,by assumption⟩;simp_all
 go_wp2_with fail;refine K.U.M ?_;rintro e I ⟨rfl,K,rfl⟩;have I:=(zt (below_drewN i.U K));obtain⟨e,O⟩:∃e,L.drewN K=e:=ax;rw[O]at I⊢;go_wp2_with fail;all_goals go_ret
 all_goals refine⟨?_,by assumption⟩
 all_goals simp_all
end
section
inductive Ce where
 |v (x:eQ)
 |kb (b:Bool)
 |p (j b off:Nat)
 |sl (j b off n c:Nat)
 |un
def JM:zs (Option (List Ce)):=.m
inductive SV where
 |O (c:Ce)
 |ag (l:List Ce)
structure Bk where
 b:Nat
 t:zo
 cs:List Ce
abbrev St:=List Bk
def vb(a:St)(c:Nat):zs (∃d∈a,d.b=c):=.m
def Kv:zs (List SV->St->cJ->Prop):=.m
def cd:Ce->eQ| .v x=>x| .kb b=>b| .p _ b x=> g6 b x| .sl _ b x n c=> nx b x n c| .un=>undef
def qc(s:St)(j b:Nat):Prop:=(s[j]?).map Bk.b=b
def Cm(s:St):Ce->eQ->Prop| .un,_=>True| .v x,v=>v=x| .kb b,v=>v=b| .p j b x,v=>v= g6 b x/\qc s j b| .sl j b x n c,v=>v= nx b x n c/\qc s j b
def gD(s:St):List Ce->List eQ->Prop|[],a=>a=[]|c::l,a=>∃u b,a=u::b/\Cm s c u/\gD s l b
def Sm(s:St):SV->eQ->Prop| .O c,v=>Cm s c v| .ag l,v=>∃c,v= .agg c.toArray/\gD s l c
def lk:List SV->Nat->SV|[],_=> .O .un|x::_,0=>x|_::l,n+1=>lk l n
def Mt(s:St)(T:List SV)(a:Array eQ):Prop:=T<=a.size/\∀i,Sm s (lk T i) (a.getD i undef)
def oj(a:St)(b:List SV)(c:Act):zs (Mt a b c.tmps):=.m
structure Inv(w0:cJ)(s:St)(w:cJ):Prop where
 os:w.os=w0.os
 tape:w.tape=w0.tape
 output:w.output=w0.output
 size:w0≤w.heap.size
 Q:∀k,k<w0.heap.size→(∀B∈s,B.b≠k)→cm w k =w0.heap[k]?
 I:∀(j:Nat) B,s[j]? =some B→∃vs,w.heap[B.b]? =some (.cells vs.toArray B.t (0,0))∧gD s B.cs vs
 apart:∀(i j:Nat) A B,s[i]? =some A→s[j]? =some B→A.b=B.b→i=j
def Ext(s a:St):Prop:=∀j b,qc s j b->qc a j b
def Lv(a:SV->St->cJ->Prop)(b:St)(c:Act->cJ->Prop)(d:Act)(e:Oper):zs (∀f g h i j,a h i j->Sm i h f->Inv j i g->Ext b i->c (d.put e.dst f) g):=.m
def bX:St->Nat->Prop|[],_=>True|B::s,b=>B.b≠b/\bX s b
def aX{b k t a}(h:b≠k):bX [⟨b,t,a⟩] k:=(eb h)
def bQ{b a k t t2 c d}(h:b≠k)(e:a≠k):bX [⟨b,t,c⟩,⟨a,t2,d⟩] k:=oK
def dU{b a c k t t2 d e f g}(h:b≠k)(i:a≠k)(j:c≠k):bX [⟨b,t,e⟩,⟨a,t2,f⟩,⟨c,d,g⟩] k:=oK
def qG{b a c d k t t2 e f g i j l}(h:b≠k)(m:a≠k)(n:c≠k)(o:d≠k):bX [⟨b,t,g⟩,⟨a,t2,i⟩,⟨c,e,j⟩,⟨d,f,l⟩] k:=oK
def bX.em{s b}(h:bX s b):∀B∈s,B.b≠b:=by induction s with|nil=>simp|cons A s b=>exact λ B s=>(us.1 s).F (λ e=>e▸h.1) (b h.2 B)
def Ext.Y(s):Ext s s:=pm
def Cm.ext{s b}(h:Ext s b){c v}(a:Cm s c v):Cm b c v:=by cases c with|p=>exact⟨a.1,h _ _ a.2⟩|sl=>exact⟨a.1,h _ _ a.2⟩|_=>exact a
def gD.ext{s u}(h:Ext s u){l e}(a:gD s l e):gD u l e:=by induction l generalizing e with|nil=>exact a|cons c l s=>obtain⟨u,l,e,c,b⟩:=a;exact⟨u,l,e,c.ext h,s b⟩
def Sm.ext{s e}(h:Ext s e){x v}(a:Sm s x v):Sm e x v:=by cases x with|O c=>exact Cm.ext h a|ag l=>obtain⟨x,e,s⟩:=a;exact⟨x,e,s.ext h⟩
def Mt.ext{s i}(h:Ext s i){T a}(b:Mt s T a):Mt i T a:=⟨b.1,λ i=>(b.2 i).ext h⟩
def gD.length{s l u}(h:gD s l u):u=l.length:=by induction l generalizing u with|nil=>simp only[gD]at h;simp[h]|cons c l s=>obtain⟨u,c,rfl,_,l⟩:=h;simp[s l]
def gD.at{s}{l}{a}(h:gD s l a){i:Nat}{c:Ce}(b:l[i]?=c):∃v,a[i]?=some v/\Cm s c v:=by induction l generalizing a i with|nil=>simp at b|cons d l e=>obtain⟨u,f,rfl,g,j⟩:=h;grind
def gD.drop{s l u}(h:gD s l u)(n):gD s (l.drop n) (u.drop n):=by induction l generalizing u n with|nil=>simp only[gD]at h;subst h;simp[gD]|cons d l s=>obtain⟨u,d,rfl,a,l⟩:=h;cases n with|zero=>exact oK|succ n=>exact s l n
def gD.take{s l a}(h:gD s l a)(n):gD s (l.take n) (a.take n):=by induction l generalizing a n with|nil=>simp only[gD]at h;subst h;simp[gD]|cons d l b=>obtain⟨u,c,rfl,e,f⟩:=h;cases n with|zero=>simp[gD]|succ n=>exact⟨u,c.take n,by simp,e,b f n⟩
def gD.append{s l m u a}(h:gD s l u)(k:gD s m a):gD s (l++m) (u++a):=by induction l generalizing u with|nil=>simp only[gD]at h;subst h;exact k|cons d l s=>obtain⟨u,l,rfl,d,b⟩:=h;exact⟨u,l++a,rfl,d,s b⟩
def gD.vals(s u):gD s (u.map .v) u:=by induction u with|nil=>rfl|cons u s a=>exact oK
def fN(T:List SV):Operand->SV| .tmp t=>lk T t| .const v=>(match v with| .bool b=> .O (.kb b)|v=> .O (.v v))| .global g=> .O (.v g)| .func f=> .O (.v (Kw f))
def fQ{s T}{a:Act}(h:oj s T a)(x):Sm s (fN T x) (a.eval x):=by cases x with|tmp t=>exact h.2 t|const v=>cases v<;>rfl|global g=>rfl|func f=>rfl
def lM:Ce->Option eQ| .un=>none| .v x=>x| .kb b=>some b| .p _ b x=>some (g6 b x)| .sl _ b x n c=>some (nx b x n c)
def sX:List Ce->Option (List eQ)|[]=>some []|c::l=>match lM c with|some v=>(match sX l with|some l=>v::l|none=>none)|none=>none
def fl:SV->Option eQ| .O c=>lM c| .ag l=>match sX l with|some l=>some l|none=>none
def Ze{s c v u}(h:lM c=some v)(a:Cm s c u):u=v:=by cases c with|un=>simp[lM]at h|v x=>simp[lM]at h;exact a.J h|kb x=>simp[lM]at h;exact a.J h|p=>simp[lM]at h;exact a.1.J h|sl=>simp[lM]at h;exact a.1.J h
def ahr{s l b d}(h:sX l=some b)(f:gD s l d):d=b:=by induction l generalizing b d with|nil=>simp[sX]at h;subst h;exact f|cons c l g=>obtain⟨u,k,rfl,i,j⟩:=f;simp only[sX]at h;cases a:lM c with|none=>simp[a]at h|some v=>cases e:sX l with|none=>simp[a,e]at h|some m=>simp[a,e]at h;rw[Ze a i,g e j];exact h
def lA{s x v u}(h:fl x=some v)(a:Sm s x u):u=v:=by cases x with|O c=>exact Ze h a|ag l=>obtain⟨x,rfl,s⟩:=a;simp only[fl]at h;cases x:sX l with|none=>simp[x]at h|some a=>simp[x]at h;rw[ahr x s];exact h
def fla(T:List SV):List Operand->Option (List eQ)|[]=>some []|x::l=>match fl (fN T x)with|some v=>(match fla T l with|some T=>v::T|none=>none)|none=>none
def N6{s T}{a:Act}(h:oj s T a){l d}(b:fla T l=some d):l.map a.eval=d:=by induction l generalizing d with|nil=>simp[fla]at b;subst b;rfl|cons x l f=>simp only[fla]at b;cases c:fl (fN T x)with|none=>simp[c]at b|some v=>cases e:fla T l with|none=>simp[c,e]at b|some g=>simp[c,e]at b;rw[tj,lA c (fQ h x),f e];exact b
def pv{k}(P:xm):Sem k->Option k| .pure a=>a| .program k=>pv P (k P)| .mark _ k=>pv P k|_=>none
def Zf{c}{P}{x}{a:c}(h:pv P x=a)(w):x.run P w= .ok a w:=by induction x with|pure b=>simp[pv]at h;subst h;rfl|program k b=>exact b P h|mark m k b=>exact b h|_=>simp[pv]at h
section force
variable {R:Type}
def Jx:List SV->Nat->SV->(List SV->Prop)->Prop|[],_,_,k=>k []|_::l,0,v,k=>k (v::l)|x::l,n+1,v,k=>Jx l n v λ v=>k (x::v)
def xA:List SV->Nat->SV->List SV|[],_,_=>[]|_::l,0,v=>v::l|x::l,n+1,v=>x::xA l n v
def Ra(l n v k):Jx l n v k=k (xA l n v):=by induction l generalizing n k with|nil=>rfl|cons x l a=>cases n with|zero=>rfl|succ n=>simp only[Jx,xA,a]
def U7{a:Type}:List a->a->(List a->Prop)->Prop|[],v,k=>k [v]|x::l,v,k=>U7 l v λ b=>k (x::b)
def aue{a}(l)(v:a)(k):U7 l v k=k (l++[v]):=by induction l generalizing k with|nil=>rfl|cons x l b=>simp only[U7,b,xD]
def oI{a:Type}:List a->(List a->Prop)->Prop|[],k=>k []|x::l,k=>oI l λ b=>k (x::b)
def tM{a}(l:List a)(k):oI l k=k l:=by induction l generalizing k with|nil=>rfl|cons x l b=>simp only[oI,b]
def U8:SV->(SV->Prop)->Prop| .O c,k=>(match c with| .v x=>k (.O (.v x))| .kb b=>k (.O (.kb b))| .p j b l=>k (.O (.p j b l))| .sl j b l n c=>k (.O (.sl j b l n c))| .un=>k (.O .un))| .ag l,k=>oI l λ l=>k (.ag l)
def Bx:List SV->(List SV->Prop)->Prop|[],k=>k []|x::l,k=>U8 x λ x=>Bx l λ l=>k (x::l)
def zu:List Ce->Nat->List Ce->List Ce|l,_,[]=>l|[],_,_::_=>[]|_::l,0,v::m=>v::zu l 0 m|x::l,n+1,m=>x::zu l n m
def nW:St->Nat->List Ce->St|[],_,_=>[]|⟨b,t,_⟩::s,0,a=>⟨b,t,a⟩::s|B::s,n+1,a=>B::nW s n a
end force
def ahs(x k):U8 x k=k x:=by cases x with|O c=>cases c<;>rfl|ag l=>simp only[U8,tM]
def FB(l k):Bx l k=k l:=by induction l generalizing k with|nil=>rfl|cons x l a=>simp only[Bx,ahs,a]
def Lt(l n v i):lk (xA l n v) i=if i=n/\n<l then v else lk l i:=by induction l generalizing n i with|nil=>simp[xA]|cons x l a=>cases n with|zero=>cases i<;>simp[xA,lk]|succ n=>cases i with|zero=>simp[xA,lk]|succ i=>simp only[xA,lk,a];simp
def N7(l n v):(xA l n v)=l.length:=by induction l generalizing n with|nil=>rfl|cons x l a=>cases n<;>simp[xA,a]
def Mt.put{s T}{a:Act}(h:oj s T a){d x v}(i:Sm s x v):oj s (xA T d x) (a.put (some d) v):=by
 refine⟨by rw[N7];simpa[zO]using h.1,λ i=>?_⟩;rw[Lt];simp only[zO,xi,Array.getElem?_setIfInBounds];have s:=h.2 i;rw[xi]at s;by_cases s:i=d;·subst s;by_cases d:i<T;rw[QJ (qs d)];have:=h.1;grind;·rw[QI oo];(have e:∀(l:List SV)(i:Nat),l<=i->lk l i= .O .un:=by intro l;induction l with|nil=>intros;rfl|cons x l h=>intro i s;cases i with|zero=>simp at s|succ i=>exact h i (az s));rw[e T i oo];trivial
 grind
def qc.lt{s j b}(h:qc s j b):j<s:=by unfold qc at h;grind
def Ext.snoc(s B):Ext s (s++[B]):=λ j b h=>by unfold qc at*;grind
def Inv.lt{j w s}(h:Inv j s w){B}(a:B∈s):B.b<w:=by obtain⟨j,s⟩:=List.getElem?_of_mem a;obtain⟨a,b,_⟩:=h.I j B s;grind
def xB{s b}(h:∀B∈s,B.b≠b):bX s b:=by induction s with|nil=>trivial|cons A s a=>exact⟨h A (by simp),a λ B c=>h B (by simp[c])⟩
def Inv.new{a w s}(h:Inv a s w):a<=w.heap.size/\bX s w:=⟨h.size,xB λ _ s=>Nat.ne_of_lt (h.lt s)⟩
def Inv.alloc{d w s}(h:Inv d s w)(t){b c}(l:gD s b c):Inv d (s++[⟨w,t,b⟩]) (w.alloc (.cells c t))where
 os:=h.os
 tape:=h.tape
 output:=h.output
 size:=lI h.size (by simp)
 Q:=λ k j B=>by rw[Jm w _ k (qk j h.size)];exact h.Q k j oP
 I:=λ j B k=>by by_cases a:j<s;rw[List.getElem?_append_left a]at k;obtain⟨i,A,f⟩:=h.I j B k;exact⟨i,by rw[Jm w _ _ oV];exact A,f.ext (Ext.snoc _ _)⟩;·rw[List.getElem?_append_right oo]at k;cases e:j-s with|zero=>rw[e]at k;simp at k;subst k;exact⟨c,by show(w.heap.push _)[_]?=_;simp,l.ext (Ext.snoc _ _)⟩|succ n=>rw[e]at k;simp at k
 apart:=λ i j A B n k e=>by (have f:∀(i:Nat)A,(s++[(⟨w,t,b⟩:Bk)])[i]?=some A->(i<s/\s[i]?=A/\A.b<w)\/(i=s/\A.b=w):=λ i A n=>by by_cases a:i<s;rw[List.getElem?_append_left a]at n;exact .N ⟨a,n,h.lt (fx n)⟩;grind);rcases f i A n with⟨_,a,m⟩|⟨a,m⟩<;>rcases f j B k with⟨_,g,o⟩|⟨g,o⟩;exact h.apart i j A B a g e;omega;omega;omega
def Zg(l off m)(h:off+m.length<=l.length):zu l off m=l.take off++m++l.drop (off+m):=by induction l generalizing off m with|nil=>(cases m with|nil=>simp[zu]|cons c m=>simp at h)|cons x l h=>cases m with|nil=>simp[zu]|cons c m=>cases off with|zero=>simp only[zu];simp_all|succ off=>simp only[zu];grind
def Lu(s j A i):(nW s j A)[i]?=if i=j then(s[i]?).map λ B=>⟨B.b,B.t,A⟩else s[i]?:=by induction s generalizing j i with|nil=>simp[nW]|cons A s B=>cases j with|zero=>cases i<;>simp[nW]|succ j=>cases i with|zero=>simp[nW]|succ i=>simp only[nW,List.getElem?_cons_succ,B];simp
def Ext.nW(s j b):Ext s (nW s j b):=λ i b h=>by unfold qc at*;rw[Lu];grind
def Inv.store{k w s}(h:Inv k s w){P j B}(c:s[j]?=some B){off m vs}(n:gD s m vs)(q:off+m.length<=B.cs)(g:hJ vs):∃e,(storeCells (oi B.b off) vs).run P w= .ok () e/\Inv k (nW s j (zu B.cs off m)) e:=by
 obtain⟨d,o,f⟩:=h.I j B c;have r:=n.length;have k:=f.length;have k:=run_storeCells_at (P:=P) B.b off B.t vs 0 _ w o (ik) g;refine⟨_,k,h.os,h.tape,h.output,by simpa using h.size,λ k g p=>?_,λ i A a=>?_,λ i k A C a g e=>?_⟩;have l:k≠B.b:=by(have b:(nW s j (zu B.cs off m))[j]?=some ⟨B.b,B.t,zu B.cs off m⟩:=by rw[Lu,QJ rfl,c];rfl);exact λ e=>p _ (fx b) e.S
 rw[PY w B.b k _ l];refine h.Q k g λ A b=>?_;obtain⟨i,a⟩:=List.getElem?_of_mem b;by_cases b:i=j;grind;exact p A (fx (by rw[Lu,QI b];exact a));rw[Lu]at a;by_cases b:i=j;subst b;rw[QJ rfl,c]at a;simp at a;subst a;refine⟨d.take off++vs++d.drop (off+vs),?_,?_⟩;rw[OB w B.b _ _ B.t _ o];simp;rw[Zg _ _ _ q,r];exact(((f.take off).append n).append (f.drop _)).ext (Ext.nW _ _ _);rw[QI b]at a;obtain⟨n,q,f⟩:=h.I i A a;have l:A.b≠B.b:=λ e=>b (h.apart i j A B a c e);exact⟨n,by rw[PY w B.b A.b _ l];exact q,f.ext (Ext.nW _ _ _)⟩;(have c:∀(i:Nat)A,(nW s j (zu B.cs off m))[i]?=some A->∃B,s[i]?=some B/\B.b=A.b:=λ i A a=>by rw[Lu]at a;grind);let⟨B,s,n⟩:=c i A a;let⟨q,a,A⟩:=c k C g;exact h.apart i k B q s a (by rw[n,A,e])
def Ed:SV->Option (List Ce)| .O (.v (.agg a))=>some (a.toList.map .v)| .O .un=>none| .O c=>some [c]| .ag l=>l
def Zh{s x l v}(h:Ed x=some l)(a:Sm s x v):gD s l v.cells.toList:=by cases x with|ag m=>simp[Ed]at h;subst h;obtain⟨c,rfl,e⟩:=a;assumption|O c=>cases c with|un=>simp[Ed]at h|v y=>have e:v=y:=a;subst e;cases v<;>simp[Ed]at h<;>subst h<;>(first|exact⟨_,[],rfl,rfl,rfl⟩|exact gD.vals s _)|kb b=>simp[Ed]at h;subst h;have e:v=b:=a;subst e;exact⟨_,[],rfl,rfl,rfl⟩|p j b s=>simp[Ed]at h;subst h;have e:=a.1;subst e;exact⟨_,[],rfl,a,rfl⟩|sl j b s n c=>simp[Ed]at h;subst h;have e:=a.1;subst e;exact⟨_,[],rfl,a,rfl⟩
def Rb:Ce->Bool| .v (.agg _)=>false| .v (.tuple _)=>false| .v (.int ..)=>true| .v (.bool _)=>true| .v (.string _)=>true| .v (.pointer _)=>true| .v (.slice ..)=>true| .v (.map _)=>true| .v (.func ..)=>true| .v .nilFunc=>true| .v (.complex ..)=>true| .v (.float ..)=>true| .v .nilIface=>true| .v _=>false| .un=>false|_=>true
def Re:List Ce->Bool|[]=>true|c::l=>match Rb c with|true=>Re l|false=>false
def auf{s c v}(h:Rb c=true)(a:Cm s c v):v.oneCell'=true:=by cases c with|un=>simp[Rb]at h|v x=>have e:v=x:=a;subst e;cases v<;>(first|rfl|simp[Rb]at h)|kb b=>have e:v=b:=a;subst e;rfl|p=>rw[a.1];rfl|sl=>rw[a.1];rfl
def aug{s l c}(h:Re l=true)(a:gD s l c):hJ c:=by induction l generalizing c with|nil=>simp only[gD]at a;subst a;simp|cons c l s=>obtain⟨u,d,rfl,l,b⟩:=a;simp only[Re]at h;cases a:Rb c with|false=>simp[a]at h|true=>simp[a]at h;intro v c;rcases (aaH c) with rfl|c;exact auf a l;exact s h b v c
def Inv.range{a w}{s}(h:Inv a s w){j:Nat}{B:Bk}(b:s[j]?=B)(off n):∃i,gD s ((B.cs.drop off).take n) i/\w.rangeAt B.b off i:=by obtain⟨c,d,e⟩:=h.I j B b;refine⟨_,(e.drop off).take n,λ i v f=>?_⟩;rw[ta w B.b _ _ B.t _ d];grind
def after(K:SV->St->cJ->Prop)(s:St)(v:eQ)(w':cJ):Prop:=∃x a,Sm a x v/\Ext s a/\Inv w' a w'/\K x a w'
structure cG(P)(x:Sem eQ)(s)(w0)(K):Prop where
 h:∀w,Inv w0 s w→∃v w',x.run P w= .ok v w'∧after K s v w'
structure vH(P)(x:Sem Unit)(s)(w0)(K):Prop where
 h:∀w,Inv w0 s w→∃w',x.run P w= .ok () w'∧after K s undef w'
structure fP(P)(x:Sem Unit)(s)(w0)(K:SV→St→cJ→Prop):Prop where
 h:∀w,Inv w0 s w→∃w' s',x.run P w= .ok () w'∧Ext s s'∧Inv w' s' w'∧K (.O .un) s' w'
structure aB(P)(g)(args)(s)(w0)(K):Prop where
 h:∀w,Inv w0 s w→eE P g args w fun e w'=>∃v,ea e v∧after K s v w'
def PP(P:xm)(x:Sem eQ)(s:St)(a:cJ)(K:SV->St->cJ->Prop):Prop:=match pv P x with|some v=>K (.O (.v v)) s a|none=>cG P x s a K
def FC(n:Int):Prop:= Mm n
def FD(P:xm)(t:zo):Option Bool:=match P.underlying t with|some (.struct _)=>true|some (.array ..)=>true|some _=>false|none=>none
def size?(P:xm)(t:zo):Option Nat:=match P.info? t with|some ⟨_,_,n,_,_,_,_,_,_,_⟩=>n|none=>none
def int?(T:List SV):Option Operand->Int->Option Int|none,d=>d|some x,_=>match fl (fN T x)with|some (.int _ i)=>i|_=>none
def U9:Builtin->Option (Array zo->zo->Array eQ->Sem eQ)| .append=>pV| .cap=>Builtin.cap_| .clear=>Builtin.clear_| .copy=>Builtin.copy_| .delete=>Builtin.delete_| .len=>Builtin.len_| .max=>Builtin.max_| .min=>Builtin.min_| .real=>Builtin.real_| .imag=>Builtin.imag_| .complex=>Builtin.complex_|_=>none
def auh:Builtin->Bool| .append| .copy| .clear| .delete=>true|_=>false
def N8(P:xm):List Field->Option (List (Nat×Nat))|[]=>some []|⟨_,n,a,_,_,_,_⟩::l=>match size? P n with|some n=>(match N8 P l with|some r=>(a,n)::r|none=>none)|none=>none
def Hi(b:Nat->Option (Nat×Nat))(T:List SV):List Ce->List (Nat×Operand)->Option (List Ce)|a,[]=>a|a,(i,x)::r=>match b i with|some (i,n)=>(match Ed (fN T x)with|some m=>(match m==n&&Nat.ble (i+n) a with|true=>Hi b T (zu a i m) r|false=>none)|none=>none)|none=>none
def N9(P:xm)(t:zo):Option (List Ce):=match P.info? t with|some ⟨_,_,_,_,_,_,_,z,_,_⟩=>(match z with|some z=>some (z.cells.toList.map .v)|none=>none)|none=>none
def Va(a:List Ce):Nat->List Ce|0=>[]|n+1=>a++Va a n
section
variable (P:xm) (al:Nat→Bool)
def Zi(o:Oper)(c:Call)(T:List SV)(s:St)(d:cJ)(K:SV->St->cJ->Prop):Prop:=match c with|⟨h,i,e⟩=>match fla T i.toList with|some a=>(match h with| .value f=>(match fl (fN T f)with|some (.func (.func g) b x)=>(match al g with|true=>oI (b.toList++a++x.toList) λ l=>aB P g l s d K|false=>False)|_=>False)| .builtin b=>(match U9 b with|some x=>oI a λ a=>(match auh b with|true=>cG P (x e o.type a) s d K|false=>PP P (x e o.type a) s d K)|none=>False)|_=>False)|none=>False
def Zj(d:BinOp)(t:zo)(x y:Operand)(a b:eQ)(s:St)(c:cJ)(K:SV->St->cJ->Prop):Prop:=match d,a,b with| .add,.int .i64 a,.int .i64 b=>FC (a+b)/\K (.O (.v (a+b))) s c| .sub,.int .i64 a,.int .i64 b=>FC (a-b)/\K (.O (.v (a-b))) s c| .mul,.int .i64 a,.int .i64 b=>FC (a*b)/\K (.O (.v (a*b))) s c| .quo,.int .i64 a,.int .i64 b=>b≠0/\FC (a.tdiv b)/\K (.O (.v (a.tdiv b))) s c| .rem,.int .i64 a,.int .i64 b=>b≠0/\K (.O (.v (a.tmod b))) s c|_,.agg a,.agg b=>cG P (do PM d t x y (.agg a) (.agg b);binOp d t (.agg a) (.agg b)) s c K|d,a,b=>PP P (do PM d t x y a b;binOp d t a b) s c K
def Zk(a b:zo)(v:eQ)(s:St)(c:cJ)(K:SV->St->cJ->Prop):Prop:=match P.underlying a,P.underlying b,v with|some (.int _),some (.int .i64),.int _ n=>FC n/\K (.O (.v n)) s c|_,_,v=>PP P (convert a b v) s c K
def Vb(t:zo)(x:SV)(s:St)(d:cJ)(K:SV->St->cJ->Prop):Prop:=match FD P t with|false=>(match x with| .O (.p j _ e)=>(match s[j]? with|some B=>(match B.cs[e]? with|some c=>K (.O c) s d|none=>False)|none=>False)| .O (.v (.pointer (some a)))=>∃v,(d.cell? a=some v/\bX s a.block)/\K (.O (.v v)) s d|_=>False)|true=>(match size? P t with|some n=>(match x with| .O (.p j _ e)=>(match s[j]? with|some B=>(match Nat.ble (e+n) B.cs with|true=>oI ((B.cs.drop e).take n) λ l=>K (.ag l) s d|false=>False)|none=>False)| .O (.v (.pointer (some ⟨b,e,none⟩)))=>∃a:List eQ,a=n/\(d.rangeAt b e a/\bX s b)/\oI (a.map .v) λ l=>K (.ag l) s d|_=>False)|none=>False)|none=>False
def Zl(t:zo)(x y:SV)(s:St)(b:cJ)(K:SV->St->cJ->Prop):Prop:=match x with| .O (.p j _ c)=>(match s[j]? with|some B=>(match Ed y with|some m=>(match size? P t with|some n=>(match m==n&&(Nat.ble (c+m) B.cs&&Re m)with|true=>oI (zu B.cs c m) λ a=>oI (nW s j a) λ u=>K (.O .un) u b|false=>False)|none=>False)|none=>False)|none=>False)| .O (.v (.pointer (some a)))=>(match fl y with|some u=>fP P (Instr.storeAt t (.pointer a) u) s b K|none=>False)|_=>False
def Rf(t:zo)(a:List Ce)(f:Nat->Nat->SV)(s:St)(c:cJ)(K:SV->St->cJ->Prop):Prop:=oI a λ a=>∀b,c.heap.size<=b->bX s b->U7 s ⟨b,t,a⟩ λ d=>K (f s b) d c
def Vc(t:zo)(x i:SV)(s:St)(d:cJ)(K:SV->St->cJ->Prop):Prop:=match fl i with|some (.int _ i)=>(match P.underlying t with|some (.slice e)=>(match size? P e with|some n=>(match x with| .O (.sl j b a c _)=>(0<=i/\i<c)/\K (.O (.p j b (a+i.toNat*n))) s d| .O (.v (.slice f c _))=>∃b a,f=some ⟨b,a,none⟩/\(0<=i/\i<c)/\K (.O (.v (g6 b (a+i.toNat*n)))) s d|_=>False)|none=>False)|some (.array c e)=>(match size? P e with|some n=>(match x with| .O (.p j b a)=>(0<=i/\i<c)/\K (.O (.p j b (a+i.toNat*n))) s d| .O (.v (.pointer (some ⟨b,a,none⟩)))=>(0<=i/\i<c)/\K (.O (.v (g6 b (a+i.toNat*n)))) s d|_=>False)|none=>False)|_=>False)|_=>False
def Vd(t:zo)(x:SV)(f:Nat)(s:St)(a:cJ)(K:SV->St->cJ->Prop):Prop:=match P.underlying t with|some (.struct b)=>(match b[f]? with|some ⟨_,b,f,_,_,_,_⟩=>(match size? P b with|some (_+1)=>(match x with| .O (.p j b x)=>K (.O (.p j b (x+f))) s a| .O (.v (.pointer (some ⟨b,x,none⟩)))=>K (.O (.v (g6 b (x+f)))) s a|_=>False)|_=>False)|none=>False)|_=>False
def Rg(t:zo)(a:List Ce)(off:Nat)(s:St)(b:cJ)(K:SV->St->cJ->Prop):Prop:=match FD P t with|false=>(match a[off]? with|some c=>K (.O c) s b|none=>False)|true=>(match size? P t with|some n=>oI ((a.drop off).take n) λ l=>K (.ag l) s b|none=>False)|none=>False
def Ve(t:zo)(x:SV)(f:Nat)(s:St)(b:cJ)(K:SV->St->cJ->Prop):Prop:=match P.underlying t with|some (.struct c)=>(match c[f]? with|some ⟨_,f,c,_,_,_,_⟩=>(match x with| .ag l=>Rg P f l c s b K| .O (.v (.agg a))=>Rg P f (a.toList.map .v) c s b K|_=>False)|none=>False)|_=>False
def Vf(t:zo)(x i:SV)(s:St)(a:cJ)(K:SV->St->cJ->Prop):Prop:=match fl i with|some (.int _ i)=>(match x with| .O (.v (.string x))=>(match P.underlying t with|some .string=>∃c:UInt8,(0<=i/\x[i.toNat]?=c)/\K (.O (.v (Bv c.toNat))) s a|_=>False)| .ag l=>(match P.underlying t with|some (.array x e)=>(match FD P e with|false=>(match size? P e with|some n=>(0<=i/\i<x)/\∃c,l[i.toNat*n]?=some c/\K (.O c) s a|none=>False)|_=>False)|_=>False)|_=>False)|_=>False
def Vg(t:zo)(x:SV)(b j n:Option Operand)(T:List SV)(s:St)(d:cJ)(K:SV->St->cJ->Prop):Prop:=match n with|some _=>False|none=>match P.underlying t with|some .string=>(match x with| .O (.v (.string n))=>(match int? T b 0,int? T j n.size with|some l,some h=>(0<=l/\f9 l h n.size)/\K (.O (.v (n.extract l.toNat h.toNat))) s d|_,_=>False)|_=>False)|some (.slice e)=>(match size? P e with|some n=>(match x with| .O (.v (.slice a f c))=>(match int? T b 0,int? T j f with|some l,some h=>(0<=l/\f9 l h c)/\K (.O (.v (.slice (if c=l.toNat then a else a.map (·.add (l.toNat*n))) (h.toNat-l.toNat) (c-l.toNat)))) s d|_,_=>False)|_=>False)|none=>False)|some (.array n e)=>(match size? P e with|some _=>(match b,j with|none,none=>(match x with| .O (.p j b x)=>K (.O (.sl j b x n n)) s d| .O (.v (.pointer (some ⟨b,x,none⟩)))=>K (.O (.v (.slice (some ⟨b,x,none⟩) n n))) s d|_=>False)|_,_=>False)|none=>False)|_=>False
def Jy(o:Oper)(T:List SV)(s:St)(d:cJ)(K:SV->St->cJ->Prop):Prop:=match o.op with| .move x=>K (fN T x) s d| .assign x=>K (fN T x) s d| .pick c a b=>(match fN T c with| .O (.kb true)=>K (fN T a) s d| .O (.kb false)=>K (fN T b) s d| .O (.v (.bool c))=>(c=true->K (fN T a) s d)/\(c=false->K (fN T b) s d)|_=>False)| .alloc t=>(match N9 P t with|some h=>Rf t h (λ j b=> .O (.p j b 0)) s d K|none=>False)| .box t x=>(match Ed (fN T x)with|some h=>Rf t h (λ j b=> .O (.p j b 0)) s d K|none=>False)| .build t p=>(match N9 P t with|some h=>(match P.underlying t with|some (.struct q)=>(match N8 P q.toList with|some u=>(match Hi (λ i=>u[i]?) T h p.toList with|some h=>oI h λ h=>K (.ag h) s d|none=>False)|none=>False)|some (.array _ e)=>(match size? P e with|some n=>(match Hi (λ i=>some (i*n,n)) T h p.toList with|some h=>oI h λ h=>K (.ag h) s d|none=>False)|none=>False)|_=>False)|none=>False)| .buildSlice t v p=>(match P.underlying t with|some (.slice e)=>(match size? P e with|some (n+1)=>(match Nat.ble (v*(n+1)) 16777216 with|true=>(match N9 P e with|some z=>(match z==n+1 with|true=>(match Hi (λ i=>some (i*(n+1),n+1)) T (Va z v) p.toList with|some h=>Rf e h (λ j b=> .O (.sl j b 0 v v)) s d K|none=>False)|false=>False)|none=>False)|false=>False)|_=>False)|_=>False)| .load t x=>Vb P t (fN T x) s d K| .store t x y=>Zl P t (fN T x) (fN T y) s d K| .nilCheck x=>(match fN T x with| .O (.p j b v)=>K (.O (.p j b v)) s d| .O (.v (.pointer (some a)))=>K (.O (.v (.pointer a))) s d| .O (.v (.func (.func g) a b))=>K (.O (.v (.func (.func g) a b))) s d|_=>False)| .binOp v t x y _=>(match fl (fN T x)with|some a=>(match fl (fN T y)with|some b=>Zj P v t x y a b s d K|none=>False)|none=>False)| .unOp v _ x=>(match fl (fN T x)with|some a=>PP P (Op.unary v a) s d K|none=>False)| .convert a b x=>(match fl (fN T x)with|some v=>Zk P a b v s d K|none=>False)| .makeFunc k m j=>(match fla T m.toList with|some a=>(match fla T j.toList with|some b=>K (.O (.v (.func k a b))) s d|none=>False)|none=>False)| .slice t x a k m=>Vg P t (fN T x) a k m T s d K| .fieldAddr t x f=>Vd P t (fN T x) f s d K| .field t x f=>Ve P t (fN T x) f s d K| .indexAddr t x i=>Vc P t (fN T x) (fN T i) s d K| .index t x i=>Vf P t (fN T x) (fN T i) s d K| .extract x i=>(match fl (fN T x)with|some (.tuple a)=>(match a.toList[i]? with|some v=>K (.O (.v v)) s d|none=>False)|_=>False)| .call c=>Zi P al o c T s d K| .lookup t m k j=>(match fl (fN T m),fl (fN T k)with|some m,some k=>cG P (Instr.lookup t m k j) s d K|_,_=>False)| .mapUpdate t m k x=>(match fl (fN T m),fl (fN T k),fl (fN T x)with|some m,some k,some x=>vH P (Instr.mapUpdate t m k x) s d K|_,_,_=>False)| .insert t m k x=>(match fl (fN T m),fl (fN T k),fl (fN T x)with|some m,some k,some x=>vH P (Instr.mapUpdate t m k x) s d K|_,_,_=>False)| .makeMap t r=>(match r with|none=>cG P (Instr.makeMap t none) s d K|some _=>False)| .makeSlice t l c=>(match fl (fN T l),fl (fN T c)with|some l,some c=>cG P (Instr.makeSlice t l c) s d K|_,_=>False)| .range t x=>(match fl (fN T x)with|some v=>cG P (Instr.range t v) s d K|none=>False)| .next c b=>(match fl (fN T c)with|some v=>cG P (Instr.next v b o.type) s d K|none=>False)| .entry c=>(match fl (fN T c)with|some v=>cG P (Instr.entry v) s d K|none=>False)| .mapEntry t m k=>(match fl (fN T m),fl (fN T k)with|some m,some k=>cG P (Instr.mapEntry t m k) s d K|_,_=>False)| .entryStore t m k x=>(match fl (fN T m),fl (fN T k),fl (fN T x)with|some m,some k,some x=>vH P (Instr.entryStore t m k x) s d K|_,_,_=>False)|_=>False
end
section
variable {P:xm} {al:Nat→Bool} {s:St} {w0 w:cJ} {K:SV→St→cJ→Prop}
def Done(P:xm)(K:SV->St->cJ->Prop)(s:St)(x:Sem eQ)(w:cJ):Prop:=∃v b y a c,x.run P w= .ok v b/\K y a c/\Sm a y v/\Inv c a b/\Ext s a
def Done.Jz{v y}(h:K y s w0)(a:Sm s y v)(b:Inv w0 s w){x}(c:x.run P w= .ok v w):Done P K s x w:=⟨v,w,y,s,w0,c,h,a,b,Ext.Y s⟩
def zy(P:xm)(I:cJ->Prop)(K:SV->St->cJ->Prop)(s:St)(w:cJ)(x:Sem eQ):Prop:=∃y,K y s w/\∀w,I w->∃v,x.run P w= .ok v w/\Sm s y v
def zy.done{x}(h:zy P (Inv w0 s) K s w0 x)(a:Inv w0 s w):Done P K s x w:=by obtain⟨y,x,b⟩:=h;obtain⟨v,h,y⟩:=b w a;exact Done.Jz x y a h
def PP.done{x}(h:PP P x s w0 K)(b:Inv w0 s w):Done P K s x w:=by unfold PP at h;cases a:pv P x with|some v=>simp only[a]at h;exact Done.Jz h rfl b (Zf a w)|none=>simp only[a]at h;obtain⟨v,c,d,y,e,f,g,i,j⟩:=h.h w b;exact oK
def cG.done{x}(h:cG P x s w0 K)(a:Inv w0 s w):Done P K s x w:=by obtain⟨v,x,b,y,c,d,e,f,g⟩:=h.h w a;exact oK
def Vh{t b}(h:FD P t=some b):∃d,Hp P t d/\(match d with| .struct _| .array _ _=>true|_=>false)=b/\d.isRow=b:=by unfold FD at h;grind
def AD{t n}(h:size? P t=some n):(P.info? t).map (·.size)=n/\∃i,xv P t i/\i.size=n:=by unfold size? at h;grind
def Zm{t}(h:FD P t=false){a v}(b:w.cell? a=some v):(Instr.loadAt t (.pointer a)).run P w= .ok v w:=by
 obtain⟨d,c,e,_⟩:=Vh h;have:(isAgg t).run P w= .ok false w:=by unfold isAgg;rw[rq,oZ c w];cases d<;>simp_all
 simp[Instr.loadAt,Ov,loadVar,this,b]
def Zn{t n}(h:FD P t=true)(c:size? P t=some n){b off a}(e:a.length=n)(f:w.rangeAt b off a):(Instr.loadAt t (g6 b off)).run P w= .ok a w:=by obtain⟨d,g,_,i⟩:=Vh h;exact run_loadAt_mid w b off t a d f g i (by rw[(AD c).1,e])
def Inv.cell0(c:Inv w0 s w){a v}(b:w0.cell? a=some v)(d:bX s a.block):w.cell? a=v:=(cJ.cell?_of_block (c.Q _ (uK b) d.em)).J b
def Sm.ptr{j b off v}(h:Sm s (.O (.p j b off)) v):v= g6 b off/\qc s j b:=h
def Sm.O{c v}(h:Sm s (.O c) v):Cm s c v:=h
def Vi{j b B}(h:qc s j b)(a:s[j]?=some B):B.b=b:=by unfold qc at h;rw[a]at h;simpa using h
def ahu{t}{x}{v}(h:Vb P t x s w0 K)(l:Sm s x v):zy P (Inv w0 s) K s w0 (Instr.loadAt t v):=by unfold Vb at h;cases k:FD P t with|none=>simp[k]at h|some b=>simp only[k]at h;cases b with|false=>simp only at h;split at h;(·rename_i j b f;obtain⟨rfl,m⟩:=l.ptr;cases d:s[j]? with|none=>simp[d]at h|some B=>simp only[d]at h;cases g:B.cs[f]? with|none=>simp[g]at h|some c=>simp only[g]at h;have e:=Vi m d;subst e;refine⟨_,h,λ w i=>?_⟩;obtain⟨o,p,q⟩:=i.I j B d;obtain⟨u,n,a⟩:=q.at g;refine⟨u,Zm k ?_,a⟩;rw[ta w B.b f _ B.t _ p];simpa using n);rename_i a;have e:v= .pointer _:=l;subst e;obtain⟨u,⟨o,p⟩,q⟩:=h;exact⟨_,q,λ w i=>⟨u,Zm k (i.cell0 o p),rfl⟩⟩;exact h.F|true=>simp only at h;cases c:size? P t with|none=>simp[c]at h|some n=>simp only[c]at h;split at h;(·rename_i j b f;obtain⟨rfl,m⟩:=l.ptr;cases d:s[j]? with|none=>simp[d]at h|some B=>simp only[d]at h;cases g:Nat.ble (f+n) B.cs with|false=>simp[g]at h|true=>simp only[g,tM]at h;have z:=nt g;have e:=Vi m d;subst e;refine⟨_,h,λ w i=>?_⟩;obtain⟨a,r,y⟩:=i.range d f n;refine⟨_,Zn k c ?_ y,a,rfl,r⟩;rw[r.length,pS,DM];omega);rename_i b f;obtain⟨a,o,⟨p,q⟩,m⟩:=h;rw[tM]at m;have e:v= .pointer _:=l;subst e;exact⟨_,m,λ w i=>⟨_,Zn k c o λ j u d=>i.cell0 (p j u d) q,a,rfl,gD.vals s a⟩⟩;exact h.F
def aui{t x y v u}(h:Zl P t x y s w0 K)(o:Sm s x v)(p:Sm s y u)(q:Inv w0 s w):∃a c b,(Instr.storeAt t v u).run P w= .ok () a/\K (.O .un) c b/\Inv b c a/\Ext s c:=by
 unfold Zl at h;split at h;·rename_i j b r;obtain⟨rfl,z⟩:=o.ptr;cases d:s[j]? with|none=>simp[d]at h|some B=>simp only[d]at h;cases g:Ed y with|none=>simp[g]at h|some m=>simp only[g]at h;cases k:size? P t with|none=>simp[k]at h|some n=>simp only[k]at h;cases f:m==n&&(Nat.ble (r+m) B.cs&&Re m)with|false=>simp[f]at h|true=>simp only[f,tM]at h;rw[mB,mB]at f;obtain⟨H,A,C⟩:=f;have e:=Vi z d;subst e;have l:=Zh g p;let⟨a,D,E⟩:=q.store (P:=P) d l (nt A) (aug C l);refine⟨a,_,w0,?_,h,E,Ext.nW _ _ _⟩;obtain⟨-,i,F,I⟩:=AD k;(have G:u.cells.size=i.size:=by have:=l.length;simp_all);simp[Instr.storeAt,Ov,storeVar,Oy,IS,F,G,D]
 ·have e:v=_:=o;subst e;cases b:fl y with|none=>simp[b]at h|some r=>simp only[b]at h;have j:=lA b p;subst j;let⟨a,c,z,d,B,g⟩:=h.h w q;exact oK
 exact h.F
def Zo{t a f c}(h:Rf t a f s w0 K)(e:gD s a c)(b:Inv w0 s w):K (f s w) (s++[⟨w,t,a⟩]) w0/\Inv w0 (s++[⟨w,t,a⟩]) (w.alloc (.cells c t))/\Ext s (s++[⟨w,t,a⟩])/\qc (s++[⟨w,t,a⟩]) s w:=by unfold Rf at h;rw[tM]at h;have d:=h _ b.new.1 b.new.2;rw[aue]at d;exact⟨d,b.alloc t e,Ext.snoc _ _,by simp[qc]⟩
def auj{d t x y a b}(h:Zj P d t x y a b s w0 K)(c:Inv w0 s w):Done P K s (do PM d t x y a b;binOp d t a b) w:=by unfold Zj at h;split at h;exact Done.Jz h.2 rfl c (Rz h);exact Done.Jz h.2 rfl c (Rz h);exact Done.Jz h.2 rfl c (Rz h);exact Done.Jz h.2.2 rfl c (by simp[PM,binOp,Op.intDiv,h.1,Np _ h.2.1]);exact Done.Jz h.2 rfl c (by simp[PM,binOp,Op.intDiv,h.1]);exact cG.done h c;exact PP.done h c
def auk{a b v}(h:Zk P a b v s w0 K)(c:Inv w0 s w):Done P K s (convert a b v) w:=by unfold Zk at h;split at h;rename_i b d;exact Done.Jz h.2 rfl c (by simp[convert,oZ b,oZ d,Conv.intToInt,Np _ h.1]);exact PP.done h c
def ahv{I t x i v u}(h:Vc P t x i s w0 K)(f:Sm s x v)(d:Sm s i u):zy P I K s w0 (Instr.indexAt t v u):=by unfold Vc at h;split at h;rename_i k n I;have e:=lA I d;subst e;split at h;rename_i e n;split at h;rename_i q l;obtain⟨-,r,a,d⟩:=AD l;split at h;rename_i j b g m c;obtain⟨rfl,o⟩:=f.O;obtain⟨⟨I,x⟩,k⟩:=h;refine⟨_,k,λ w p=>⟨_,?_,(qs o)⟩⟩;simp[Instr.indexAt,asIntOf,oZ n,I,x,Oy,IS,a,d,LK];rename_i y m c;have e:v= .slice y m c:=f;subst e;obtain⟨b,g,rfl,⟨I,x⟩,k⟩:=h;refine⟨_,k,λ w p=>⟨_,?_,rfl⟩⟩;simp[Instr.indexAt,asIntOf,oZ n,I,x,Oy,IS,a,d,LK];exact h.F;exact h.F;rename_i m e n;split at h;rename_i q l;obtain⟨-,r,a,d⟩:=AD l;split at h;rename_i j b g;obtain⟨rfl,o⟩:=f.O;obtain⟨⟨I,x⟩,k⟩:=h;refine⟨_,k,λ w p=>⟨_,?_,(qs o)⟩⟩;simp[Instr.indexAt,Ov,asIntOf,oZ n,I,x,Oy,IS,a,d,LK];rename_i b g;have e:v= .pointer _:=f;subst e;obtain⟨⟨I,x⟩,k⟩:=h;refine⟨_,k,λ w p=>⟨_,?_,rfl⟩⟩;simp[Instr.indexAt,Ov,asIntOf,oZ n,I,x,Oy,IS,a,d,LK];exact h.F;exact h.F;exact h.F;exact h.F
def ahw{I t x f v}(h:Vd P t x f s w0 K)(a:Sm s x v):zy P I K s w0 (Instr.fieldAt t v f):=by unfold Vd at h;split at h;rename_i I f;split at h;rename_i x n c j w b e I;split at h;rename_i n c;obtain⟨-,j,x,n⟩:=AD c;split at h;rename_i j b c;obtain⟨rfl,e⟩:=a.O;refine⟨_,h,λ w j=>⟨_,?_,(qs e)⟩⟩;simp[Instr.fieldAt,Ov,oZ f,I,fieldPlace,Oy,IS,x,n,LK];rename_i b c;have e:v= .pointer _:=a;subst e;refine⟨_,h,λ w j=>⟨_,?_,rfl⟩⟩;simp[Instr.fieldAt,Ov,oZ f,I,fieldPlace,Oy,IS,x,n,LK];exact h.F;exact h.F;exact h.F;exact h.F
end
section
variable {P:xm} {al:Nat→Bool} {s:St} {w0 w:cJ} {K:SV→St→cJ→Prop}
def aul{I}{t}{e}{off}{f}(h:Rg P t e off s w0 K)(g:gD s e f):zy P I K s w0 (part t f off):=by unfold Rg at h;cases a:FD P t with|none=>simp[a]at h|some b=>obtain⟨d,j,o,_⟩:=Vh a;(have i:∀w,(isAgg t).run P w= .ok b w:=λ w=>by unfold isAgg;rw[rq,oZ j w];cases d<;>simp_all);cases b with|false=>simp only[a]at h;(cases n:e[off]? with|none=>simp[n]at h|some c=>simp only[n]at h;let⟨u,k,l⟩:=g.at n;exact⟨_,h,λ w m=>⟨u,by simp[part,i,k],l⟩⟩)|true=>simp only[a]at h;cases c:size? P t with|none=>simp[c]at h|some n=>simp only[c,tM]at h;obtain⟨-,u,k,l⟩:=AD c;refine⟨_,h,λ w m=>⟨_,?_,(f.drop off).take n,rfl,(g.drop off).take n⟩⟩;simp[part,i,Oy,IS,k,l]
def ahy{I t x f v}(h:Ve P t x f s w0 K)(b:Sm s x v):zy P I K s w0 (Instr.field t v f):=by
 unfold Ve at h;split at h;rename_i x e;split at h;rename_i x w u c a y g d;have c:∀(a:List Ce)(x:List _),Rg P w a u s w0 K->gD s a x->zy P I K s w0 (Instr.field t x f):=λ a x I w=>by obtain⟨y,a,f⟩:=aul I w;refine⟨y,a,λ w I=>?_⟩;obtain⟨u,a,y⟩:=f w I;exact⟨u,by simp[Instr.field,asAgg,oZ e,d,a],y⟩
 split at h;rename_i l;obtain⟨x,rfl,f⟩:=b;exact c _ x h f;rename_i a;have e:v= .agg a:=b;subst e;exact c _ _ h (gD.vals s _);exact h.F;exact h.F;exact h.F
def ahz{I}{t x i v u}(h:Vf P t x i s w0 K)(g:Sm s x v)(j:Sm s i u):zy P I K s w0 (Instr.index t v u):=by
 unfold Vf at h;split at h;·rename_i k n o;have e:=lA o j;subst e;split at h;rename_i p;have e:v=p:=g;subst e;split at h;rename_i q;obtain⟨c,⟨a,b⟩,f⟩:=h;refine⟨_,f,λ w r=>⟨_,?_,rfl⟩⟩;simp[Instr.index,asIntOf,oZ q,a,b];exact h.F;(·rename_i l;obtain⟨L,rfl,y⟩:=g;split at h;(·rename_i M e z;split at h;(·rename_i A;split at h;(·rename_i m B;obtain⟨-,N,C,D⟩:=AD B;obtain⟨d,E,O,_⟩:=Vh A;obtain⟨⟨a,b⟩,c,f,F⟩:=h;let⟨u,G,H⟩:=y.at f;(have J:∀w,(isAgg e).run P w= .ok false w:=λ w=>by unfold isAgg;rw[rq,oZ E w];cases d<;>simp_all);exact⟨_,F,λ w r=>⟨u,by simp[Instr.index,asIntOf,oZ z,a,b,part,J,Oy,IS,C,D,G],H⟩⟩);exact h.F);exact h.F);exact h.F);exact h.F
 exact h.F
def Vj{T}{a:Act}(b:oj s T a){o d i}(h:int? T o d=some i):M5 o d i a:=by cases o with|none=>simp[int?]at h;exact .N (qs h)|some x=>simp only[int?]at h;split at h;rename_i k j o;simp at h;subst h;exact .I ⟨x,k,rfl,lA o (fQ b x)⟩;simp at h
def ahA{o}{a:Act}{i}(y:Nat)(b){d}(h:M5 o d i a)(c:0<=i)(e:i<=y)(D)(f:o=none->D.run P w= .ok i.toNat w):sa (match o.map a.eval with|some v=>Instr.sliceBound v y b|none=>D) P w i.toNat:=by obtain⟨rfl,rfl⟩|⟨x,k,rfl,v⟩:=h;exact f rfl;simp[v,Instr.sliceBound,asIntOf,c,e]
def ahB{d f}{a:Act}{l h:Int}(b)(g cap:Nat)(j:M5 d 0 l a)(i:M5 f g h a)(n:0<=l)(p:l<=h)(o:h<=cap):(Instr.sliceBounds b g cap (d.map a.eval) (f.map a.eval) none).run P w= .ok (l.toNat,h.toNat,cap) w:=by
 have m:∀y,(match f.map a.eval with|some v=>Instr.sliceBound v cap y|none=>(pure g)).run P w= .ok h.toNat w:=λ y=>ahA cap y i oo o _ (λ e=>by rcases i with⟨_,rfl⟩|⟨x,k,c,_⟩;simp;·rw[e]at c;cases c);have c:∀y,(match d.map a.eval with|some v=>Instr.sliceBound v h.toNat y|none=>(pure 0)).run P w= .ok l.toNat w:=λ y=>ahA _ y j n oo _ (λ e=>by rcases j with⟨_,rfl⟩|⟨x,k,c,_⟩;simp;·rw[e]at c;cases c);unfold Instr.sliceBounds;obtain⟨rfl,rfl⟩|⟨x,k,rfl,e⟩:=i;·simp only[Option.map_none]at m⊢;have:=c .sliceB;cases d with|none=>simp_all|some y=>simp_all
 ·simp only[OX]at m⊢;have:=c .sliceB;cases d with|none=>simp_all|some y=>simp_all
def ahC{I}{t x}{C d o}{T}{a:Act}{v}(h:Vg P t x C d o T s w0 K)(g:Sm s x v)(i:oj s T a):zy P I K s w0 (Instr.sliceAt t v (C.map a.eval) (d.map a.eval) (o.map a.eval)):=by unfold Vg at h;cases o with|some _=>exact h.F|none=>simp only at h;split at h;rename_i f;split at h;rename_i p;have e:v=p:=g;subst e;split at h;rename_i l H q r;obtain⟨⟨u,y,z⟩,A⟩:=h;refine⟨_,A,λ w d=>⟨_,?_,rfl⟩⟩;simp[Instr.sliceAt,Instr.slice,oZ f,ahB _ _ _ (Vj i q) (Vj i r) u y z];exact h.F;exact h.F;rename_i e f;split at h;rename_i n B;obtain⟨-,J,k,D⟩:=AD B;split at h;rename_i L E c;have e:v= .slice L E c:=g;subst e;split at h;rename_i l H q r;obtain⟨⟨u,y,z⟩,A⟩:=h;refine⟨_,A,λ w d=>⟨_,?_,rfl⟩⟩;simp[Instr.sliceAt,Instr.slice,oZ f,ahB _ E c (Vj i q) (Vj i r) u y z,Oy,IS,k,D];exact h.F;exact h.F;exact h.F;rename_i n e f;split at h;rename_i m B;obtain⟨-,J,k,D⟩:=AD B;(have F:∀w,(Instr.sliceBounds false n n none none none).run P w= .ok _ w:=λ w=>by exact oK);split at h;split at h;rename_i j b G;obtain⟨rfl,M⟩:=g.O;refine⟨_,h,λ w d=>⟨_,?_,(qs M)⟩⟩;simp[Instr.sliceAt,Ov,oZ f,F,Oy,IS,k,LK];rename_i b G;have e:v= .pointer _:=g;subst e;refine⟨_,h,λ w d=>⟨_,?_,rfl⟩⟩;simp[Instr.sliceAt,Ov,oZ f,F,Oy,IS,k,LK];exact h.F;exact h.F;exact h.F;exact h.F
def aum(a:List eQ)(off)(b)(k)(h:off+k+b.length<=a.length):((b.zipIdx k).foldl (λ v (c,j)=>v.setIfInBounds (off+j) c) a.toArray)=(a.take (off+k)++b++om a (off+k+b.length)).toArray:=by induction b generalizing a k with|nil=>simp|cons v b c=>rw[List.zipIdx_cons,EQ];(have e:a.toArray.setIfInBounds (off+k) v=(a.set (off+k) v):=by simp);simp only[e];rw[c _ _ (by simp at h⊢;omega)];congr 1;have:=list_seg_step a _ v b (by assumption);assumption
def Rh{x T}{a:Act}(e:oj s T a){m n q b}(h:Hi x T n m=some q)(c:gD s n b):∃T,Instr.fill x b (m.map λ(i,x)=>(i,a.eval x))=T.toArray/\gD s q T:=by induction m generalizing n b with|nil=>simp[Hi]at h;subst h;exact oK|cons q m f=>obtain⟨i,x⟩:=q;simp only[Hi]at h;split at h;(·rename_i i n g;split at h;(·rename_i m j;split at h;rename_i q;rw[mB]at q;have d:=Zh j (fQ e x);have e:=d.length;have j:=c.length;have j:=nt q.2;have j:=eq_of_beq q.1;have n:=((c.take i).append d).append (c.drop (i+m));rw[<-Zg _ _ _ oo]at n;let⟨T,c,m⟩:=f h n;refine⟨T,?_,m⟩;rw[yJ]at e;simp only[tj,Instr.fill,g];rw[QI (ik)];rw[<-c];congr 1;have:=aum b i (a.eval x).cells.toList 0 (ik);simp only[PI,yJ,e]at this;rw[<-this,<-Array.foldl_toList,Array.toList_zipIdx];·cases h);·cases h);·cases h
end
def Ef(P:xm)(g:FuncId):Bool:=match P.funcs[g]? with|some a=>a.body.isSome&&!(a.name== "runtime.NumGoroutine")|none=>false
def Jp(a:Nat->Bool)(b:xm):zs (∀c,a c=true->Ef b c=true):=.m
section
variable {P:xm} {al:Nat→Bool} {s:St} {w0 w:cJ} {T:List SV} {a:Act} {next:Act→cJ→Prop} {Q:Exit→Act→cJ→Prop} {o:Oper} {K:SV→St→cJ→Prop}
def aun{g}(h:Ef P g=true)(a):(callFunc g a).run P w= .ok (.enter g a) w:=by unfold Ef at h;cases a:P.funcs[g]? with|none=>simp[a]at h|some b=>simp only[a,mB]at h;obtain⟨c,d⟩:=h;(have h:¬b.body=none:=by intro e;simp[e]at c);(have c:¬b.name= "runtime.NumGoroutine":=(az d));simp[callFunc,a,h,c]
def Done.go{x}(h:Done P K s x w)(d:Lv K s next a o):o.upon P a next Q ((do pure (.value (<-x)):Sem Next).run P w):=by obtain⟨v,w',y,b,c,x,d,e,f,g⟩:=h;simp only[rq,x,nY,ws,HJ];grind
def auo{c}(h:Zi P al o c T s w0 K)(q:Jp al P)(n:oj s T a)(k:Inv w0 s w)(r:Lv K s next a o):o.upon P a next Q ((do let d<-resolve a.eval c o.type;invoke d.target d.args).run P w):=by
 obtain⟨p,l,j⟩:=c;unfold Zi at h;simp only at h;split at h;·rename_i i x;have p:l.map _=i:=(XX n x);split at h;rename_i f;split at h;rename_i g x m t;have e:=lA t (fQ n f);split at h;rename_i n;rw[tM]at h;have t:=q g n;(have n:(do let d<-resolve a.eval ⟨.value f,l,j⟩ o.type;invoke d.target d.args).run P w= .ok (.enter g (x.toList++i++m.toList).toArray) w:=by simp only[resolve,e,Deferred.ofValue,p,rq,ws,nY,invoke];(have q:x++i++m=(x.toList++i++m.toList).toArray:=by simp);rw[q];exact aun t _);rw[n,Oper.upon_enter];refine(h.h w k).M ?_;rintro e w' ⟨v,rfl,y,b,q,x,m,t⟩;grind;exact h.F;exact h.F;(·rename_i b;split at h;(·rename_i x y;rw[tM]at h;(have q:Done P K s (x j o.type i) w:=by split at h;exact h.done k;exact h.done k);(have n:(do let d<-resolve a.eval ⟨.builtin b,l,j⟩ o.type;invoke d.target d.args).run P w=(do pure (.value (<-x j o.type i)):Sem _).run P w:=by simp only[resolve,p,rq,ws,nY,invoke];cases b<;>simp[U9]at y<;>subst y<;>simp[builtin]);rw[n];exact q.go r);exact h.F);exact h.F
 exact h.F
def U.go{x}(h:∃w' b c,x.run P w= .ok () w'/\K (.O .un) b c/\Inv c b w'/\Ext s b)(d:Lv K s next a o):o.upon P a next Q ((do x;pure .skip:Sem Next).run P w):=by obtain⟨w',b,c,x,y,e,f⟩:=h;simp only[rq,x,nY,ws,Oper.upon_skip];exact d _ w' _ b c y QD e f
def vH.go{x}(h:vH P x s w0 K)(d:Inv w0 s w)(e:Lv K s next a o):o.upon P a next Q ((do x;pure .skip:Sem Next).run P w):=by obtain⟨w',x,y,b,c,e,f,g⟩:=h.h w d;simp only[rq,x,nY,ws,Oper.upon_skip];grind
def Ri{t a}(h:N9 P t=some a)(s w):∃z,(zeroValue t).run P w= .ok z w/\gD s a z.cells.toList:=by
 unfold N9 at h;split at h;·rename_i b c d e f g i j k l a;split at h;rename_i z;simp at h;subst h;exact⟨z,by simp[zeroValue,IS,a],gD.vals s _⟩;·cases h
 ·cases h
def ahD{n l}(h:N8 P n=some l)(w):(n.toArray.mapM (λ f=>do pure (f.offset,<-Oy f.type):Field->Sem (Nat×Nat))).run P w= .ok l w:=by
 rw[List.mapM_toArray];have a:(n.mapM (λ f=>do pure (f.offset,<-Oy f.type):Field->Sem _)).run P w= .ok l w:=by induction n generalizing l with|nil=>simp[N8]at h;subst h;rfl|cons f n l=>obtain⟨n,b,l,d,c,e,g⟩:=f;simp only[N8]at h;split at h;(·rename_i n f;obtain⟨-,l,c,d⟩:=AD f;split at h;rename_i l f;simp at h;subst h;(have l:(Oy b).run P w= .ok n w:=by simp[Oy,IS,c,d]);simp_all;·cases h);·cases h
 rw[Sem.run_map,a];rfl
def auq{s a b}(h:gD s a b)(n):gD s (Va a n) (eM n b).flatten:=by induction n with|zero=>simp[Va,gD]|succ n b=>rw[List.replicate_succ,List.flatten_cons];exact h.append b
def aur(z:Array eQ)(n m)(b:z.size=m+1):(Array.range (n*(m+1))).map (λ i=>z[i%z.size]!)=((eM n z.toList).flatten):=by
 apply Array.ext;simp[b];intro i c e;simp at c;simp only[Array.getElem_map,Array.getElem_range,b,qr];have f:∀(n i:Nat)(h:i<((eM n _).flatten)),((eM n z.toList).flatten)[i]=z[i%(m+1)]!:=by intro n;induction n with|zero=>intro i h;simp at h|succ n d=>intro i h;simp only[List.replicate_succ,List.flatten_cons];by_cases a:i<z.toList;rw[List.getElem_append_left a];simp at a;rw[Nat.mod_eq_of_lt oo];simp[a];rw[List.getElem_append_right oo,d];simp at a;rw[show i-z.toList=i-(m+1)by simp[b]];rw[Nat.mod_eq_sub_mod (oo:m+1<=i)]
 simp_all
def Rj(h:Jy P al o T s w0 K)(Z:Jp al P)(d:oj s T a)(q:Inv w0 s w)(A:Lv K s next a o):o.wp P a w next Q:=by unfold Oper.wp execOp;unfold Jy at h;have B:∀{v:eQ}{y:SV},K y s w0->Sm s y v->next _ w:=λ p x=>A _ _ _ _ _ p x q (Ext.Y s);cases p:o.op with|move x=>simp only[p]at h⊢;exact B h (fQ d x)|assign x=>simp only[p]at h⊢;exact B h (fQ d x)|pick c x y=>simp only[p]at h⊢;have k:=fQ d c;split at h;rename_i m;rw[m]at k;have e:a.eval c=_:=k;simp only[e,asBool,rq,ws,nY,HJ,RC];exact B h (fQ d x);rename_i m;rw[m]at k;have e:a.eval c=_:=k;simp only[e,asBool,rq,ws,nY,HJ,xn,Rv];exact B h (fQ d y);(·rename_i b m;rw[m]at k;have e:a.eval c=b:=k;simp only[e,asBool,rq,ws,nY,HJ];cases b;exact B (h.2 rfl) (fQ d y);exact B (h.1 rfl) (fQ d x));exact h.F|alloc t=>simp only[p]at h⊢;split at h;rename_i R r;let⟨z,E,D⟩:=Ri r s w;let⟨H,I,J,L⟩:=Zo h D q;(have u:(Instr.alloc t true ()).run P w= .ok w (w.alloc (.cells z.cells.toList t)):=by simp[Instr.alloc,E,newVar,newRow]);simp only[rq,u,nY,ws,HJ];exact A _ _ _ _ _ H (qs L) I J;exact h.F|box t x=>simp only[p]at h⊢;split at h;rename_i R r;let⟨H,I,J,L⟩:=Zo h (Zh r (fQ d x)) q;(have u:(Instr.box t (a.eval x)).run P w= .ok w (w.alloc (.cells (a.eval x).cells.toList t)):=by exact oK);simp only[rq,u,nY,ws,HJ];exact A _ _ _ _ _ H (qs L) I J;exact h.F|build t C=>simp only[p]at h⊢;split at h;rename_i R r;let⟨z,E,D⟩:=Ri r s w;split at h;rename_i fs f;split at h;rename_i Y aI;split at h;rename_i aJ M;rw[tM]at h;let⟨j,F,N⟩:=Rh d M D;(have u:(Instr.build t (C.map λ(i,x)=>(i,a.eval x))).run P w= .ok j w:=by (have G:(C.map λ(i,x)=>(i,a.eval x)).toList=C.toList.map λ(i,x)=>(i,a.eval x):=by simp);have l:=ahD aI w;(have e:(λx=>Y.toArray[x]?)=λ(x:Nat)=>Y[x]?:=by funext x;simp);simp only[Instr.build,rq,E,nY,oZ f,l,G,e];simp_all);simp only[rq,u,nY,ws,HJ];exact B h ⟨j,rfl,N⟩;exact h.F;exact h.F;rename_i l e f;split at h;rename_i n S;obtain⟨-,aK,V,W⟩:=AD S;split at h;rename_i aJ M;rw[tM]at h;let⟨j,F,N⟩:=Rh d M D;(have u:(Instr.build t (C.map λ(i,x)=>(i,a.eval x))).run P w= .ok j w:=by (have G:(C.map λ(i,x)=>(i,a.eval x)).toList=C.toList.map λ(i,x)=>(i,a.eval x):=by simp);(have FE:Instr.fill _ _ (C.toList.map λ(i,x)=>(i,a.eval x))=some _:=(az F));simp only[Instr.build,rq,E,nY,oZ f,Oy,IS,program,zw,V,ws,W,G];rw[FE];rfl);simp only[rq,u,nY,ws,HJ];exact B h ⟨j,rfl,N⟩;exact h.F;exact h.F;exact h.F;exact h.F|buildSlice t l C=>simp only[p]at h⊢;split at h;rename_i e f;split at h;rename_i n S;obtain⟨-,aK,V,W⟩:=AD S;split at h;rename_i hb;have aL:=nt hb;split at h;rename_i zc r;let⟨z,E,D⟩:=Ri r s w;split at h;rename_i Y;(have Y:z.cells.size=n+1:=by have:=D.length;simp_all);split at h;rename_i R M;let⟨j,F,N⟩:=Rh d M (auq D l);let⟨H,I,J,L⟩:=Zo h N q;(have u:(Instr.buildSlice t l (C.map λ(i,x)=>(i,a.eval x))).run P w= .ok (.slice (some ⟨w,0,none⟩) l l) (w.alloc (.cells j e)):=by (have G:(C.map λ(i,x)=>(i,a.eval x)).toList=C.toList.map λ(i,x)=>(i,a.eval x):=by simp);unfold Instr.buildSlice;simp only[rq,oZ f,nY,Oy,IS,program,zw,V,ws,W];rw[QI (Nat.not_lt.2 aL)];by_cases hl:l*(n+1)=0;(have aM:l=0:=by grind);subst aM;simp at F;simp only[G,Nat.zero_mul,RC,show Array.range 0=#[]from rfl,Array.map_empty,F];exact oK;rw[QI hl];have aP:=aur _ l n Y;simp only[rq,E,nY,ws,aP,G,F,newRow,newObj,zw,World.alloc_eq]);simp only[rq,u,nY,ws,HJ];exact A _ _ _ _ _ H (qs L) I J;exact h.F;exact h.F;exact h.F;exact h.F;exact h.F;exact h.F|load t x=>simp only[p]at h⊢;exact((ahu h (fQ d x)).done q).go A|store t x y=>simp only[p]at h⊢;exact U.go (aui h (fQ d x) (fQ d y) q) A|nilCheck x=>simp only[p]at h⊢;have k:=fQ d x;split at h;rename_i j b R m;rw[m]at k;let⟨e,u⟩:=k.O;simp only[e,ws,HJ];exact B h (qs u);rename_i r m;rw[m]at k;have e:a.eval x= .pointer _:=k;simp only[e,ws,HJ];exact B h rfl;rename_i g b c m;rw[m]at k;have e:a.eval x= .func _ b c:=k;simp only[e,ws,HJ];exact B h rfl;exact h.F|binOp e t x y z=>simp only[p]at h⊢;split at h;rename_i u f;split at h;rename_i v k;rw[lA f (fQ d x),lA k (fQ d y)];exact(auj h q).go A;exact h.F;exact h.F|unOp e t x=>simp only[p]at h⊢;split at h;rename_i u f;rw[lA f (fQ d x)];exact(PP.done h q).go A;exact h.F|convert t u x=>simp only[p]at h⊢;split at h;rename_i v k;rw[lA k (fQ d x)];exact(auk h q).go A;exact h.F|makeFunc R m f=>simp only[p]at h⊢;split at h;rename_i x u;split at h;rename_i y r;have e:m.map _=x:=(XX d u);have z:f.map _=y:=(XX d r);simp only[e,z,Instr.makeFunc,rq,ws,nY,HJ];exact B h rfl;exact h.F;exact h.F|slice t x m R f=>simp only[p]at h⊢;exact((ahC h (fQ d x) d).done q).go A|fieldAddr t x f=>simp only[p]at h⊢;exact((ahw h (fQ d x)).done q).go A|field t x f=>simp only[p]at h⊢;exact((ahy h (fQ d x)).done q).go A|indexAddr t x i=>simp only[p]at h⊢;exact((ahv h (fQ d x) (fQ d i)).done q).go A|index t x i=>simp only[p]at h⊢;exact((ahz h (fQ d x) (fQ d i)).done q).go A|extract x i=>simp only[p]at h⊢;split at h;rename_i m f;split at h;rename_i v k;rw[lA f (fQ d x)];(have R:m[i]?=v:=(az k));simp only[Instr.extract,R,rq,ws,nY,HJ];exact B h rfl;exact h.F;exact h.F|call c=>simp only[p]at h⊢;exact auo h Z d q A|lookup t m k R=>simp only[p]at h⊢;split at h;rename_i x y u r;rw[lA u (fQ d m),lA r (fQ d k)];exact(cG.done h q).go A;exact h.F|mapUpdate t m k x=>simp only[p]at h⊢;split at h;rename_i e z u;rw[lA e (fQ d m),lA z (fQ d k),lA u (fQ d x)];exact vH.go h q A;exact h.F|insert t m k x=>simp only[p]at h⊢;split at h;rename_i e z u;rw[lA e (fQ d m),lA z (fQ d k),lA u (fQ d x)];exact vH.go h q A;exact h.F|makeMap t r=>simp only[p]at h⊢;(cases r with|none=>exact(cG.done h q).go A|some _=>exact h.F)|makeSlice t l c=>simp only[p]at h⊢;split at h;rename_i e z;rw[lA e (fQ d l),lA z (fQ d c)];exact(cG.done h q).go A;exact h.F|range t x=>simp only[p]at h⊢;split at h;rename_i e;rw[lA e (fQ d x)];exact(cG.done h q).go A;exact h.F|next c b=>simp only[p]at h⊢;split at h;rename_i e;rw[lA e (fQ d c)];exact(cG.done h q).go A;exact h.F|entry c=>simp only[p]at h⊢;split at h;rename_i e;rw[lA e (fQ d c)];exact(cG.done h q).go A;exact h.F|mapEntry t m k=>simp only[p]at h⊢;split at h;rename_i e z;rw[lA e (fQ d m),lA z (fQ d k)];exact(cG.done h q).go A;exact h.F|entryStore t m k x=>simp only[p]at h⊢;split at h;rename_i e z u;rw[lA e (fQ d m),lA z (fQ d k),lA u (fQ d x)];exact vH.go h q A;exact h.F|_=>simp only[p]at h
end
def Vm(a:Array Oper):Nat->Nat->Nat->Bool|0,k,i=>LY a k i|n+1,k,i=>LY a k i||(sD a.size).any λ j=>LY a k j&&Vm a n j i
def Vn(a:Array Oper)(k i:Nat):Bool:=Vm a 6 k i
def ahE:Op->Bool| .move _| .assign _| .pick ..| .build ..| .load ..| .nilCheck _| .binOp ..| .unOp ..| .convert ..| .makeFunc ..| .slice ..| .fieldAddr ..| .field ..| .indexAddr ..| .index ..| .extract ..=>true| .call c=>(match c.callee with| .builtin .len| .builtin .cap| .builtin .min| .builtin .max=>true|_=>false)|_=>false
def Hj:Op->Bool| .load ..=>true|_=>false
def JB(a:Array Oper):Bool:=Region.noSelect a&&(sD a.size).all λ i=>(sD a.size).all λ j=>i==j||(LY a i j||(LY a j i||match a[i]?,a[j]? with|some i,some j=>i.apart a j|_,_=>true))
section
variable (P:xm) (al:Nat→Bool)
def Oa(x:Sem eQ)(K:SV->Prop):Prop:=match pv P x with|some v=>K (.O (.v v))|none=>False
def Zs(c:BinOp)(t:zo)(x y:Operand)(a b:eQ)(K:SV->Prop):Prop:=match c,a,b with| .add,.int .i64 a,.int .i64 b=>FC (a+b)/\K (.O (.v (a+b)))| .sub,.int .i64 a,.int .i64 b=>FC (a-b)/\K (.O (.v (a-b)))| .mul,.int .i64 a,.int .i64 b=>FC (a*b)/\K (.O (.v (a*b)))| .quo,.int .i64 a,.int .i64 b=>b≠0/\FC (a.tdiv b)/\K (.O (.v (a.tdiv b)))| .rem,.int .i64 a,.int .i64 b=>b≠0/\K (.O (.v (a.tmod b)))|c,a,b=>Oa P (do PM c t x y a b;binOp c t a b) K
def Zt(a b:zo)(v:eQ)(K:SV->Prop):Prop:=match P.underlying a,P.underlying b,v with|some (.int _),some (.int .i64),.int _ n=>FC n/\K (.O (.v n))|_,_,v=>Oa P (convert a b v) K
def qOp(o:Oper)(T:List SV)(s:St)(h:cJ)(K:SV->Prop):Prop:=match o.op with| .move x=>K (fN T x)| .assign x=>K (fN T x)| .pick c a b=>(match fN T c with| .O (.kb true)=>K (fN T a)| .O (.kb false)=>K (fN T b)| .O (.v (.bool c))=>(c=true->K (fN T a))/\(c=false->K (fN T b))|_=>False)| .build t k=>(match N9 P t with|some d=>(match P.underlying t with|some (.struct l)=>(match N8 P l.toList with|some m=>(match Hi (λ i=>m[i]?) T d k.toList with|some d=>oI d λ d=>K (.ag d)|none=>False)|none=>False)|some (.array _ e)=>(match size? P e with|some n=>(match Hi (λ i=>some (i*n,n)) T d k.toList with|some d=>oI d λ d=>K (.ag d)|none=>False)|none=>False)|_=>False)|none=>False)| .load t x=>Vb P t (fN T x) s h λ x _ _=>K x| .nilCheck x=>(match fN T x with| .O (.p j b v)=>K (.O (.p j b v))| .O (.v (.pointer (some a)))=>K (.O (.v (.pointer a)))| .O (.v (.func (.func g) a b))=>K (.O (.v (.func (.func g) a b)))|_=>False)| .binOp v t x y _=>(match fl (fN T x)with|some a=>(match fl (fN T y)with|some b=>Zs P v t x y a b K|none=>False)|none=>False)| .unOp v _ x=>(match fl (fN T x)with|some a=>Oa P (Op.unary v a) K|none=>False)| .convert a b x=>(match fl (fN T x)with|some v=>Zt P a b v K|none=>False)| .makeFunc e y f=>(match fla T y.toList with|some a=>(match fla T f.toList with|some b=>K (.O (.v (.func e a b)))|none=>False)|none=>False)| .slice t x a e y=>Vg P t (fN T x) a e y T s h λ x _ _=>K x| .fieldAddr t x f=>Vd P t (fN T x) f s h λ x _ _=>K x| .field t x f=>Ve P t (fN T x) f s h λ x _ _=>K x| .indexAddr t x i=>Vc P t (fN T x) (fN T i) s h λ x _ _=>K x| .index t x i=>Vf P t (fN T x) (fN T i) s h λ x _ _=>K x| .extract x i=>(match fl (fN T x)with|some (.tuple a)=>(match a.toList[i]? with|some v=>K (.O (.v v))|none=>False)|_=>False)| .call c=>(match c.callee with| .builtin b=>(match U9 b with|some x=>(match fla T c.args.toList with|some a=>Oa P (x c.argTypes o.type a) K|none=>False)|none=>False)|_=>False)|_=>False
end
section
variable {P:xm} {al:Nat→Bool} {s:St} {w0:cJ} {T:List SV} {a:Act}
def Zu(P:xm)(I:cJ->Prop)(s:St)(K:SV->Prop)(x:Sem Next):Prop:=∃y,K y/\∀w,I w->∃v,x.run P w= .ok (.value v) w/\Sm s y v
def zy.ok{I x K}(h:zy P I (λ y _ _=>K y) s w0 x):Zu P I s K (do pure (.value (<-x))):=by obtain⟨y,x,K⟩:=h;refine⟨y,x,λ w y=>?_⟩;obtain⟨v,h,x⟩:=K w y;simp_all
def Vo{I x K}(h:Oa P x K):zy P I (λ y _ _=>K y) s w0 x:=by unfold Oa at h;cases y:pv P x with|some v=>simp only[y]at h;exact⟨_,h,λ w _=>⟨v,Zf y w,rfl⟩⟩|none=>simp[y]at h
def aut{I w t x y u v K}(h:Zs P w t x y u v K):zy P I (λ y _ _=>K y) s w0 (do PM w t x y u v;binOp w t u v):=by unfold Zs at h;split at h;exact⟨_,h.2,λ w _=>⟨_,(Rz h),rfl⟩⟩;exact⟨_,h.2,λ w _=>⟨_,(Rz h),rfl⟩⟩;exact⟨_,h.2,λ w _=>⟨_,(Rz h),rfl⟩⟩;exact⟨_,h.2.2,λ w _=>⟨_,by simp[PM,binOp,Op.intDiv,h.1,Np _ h.2.1],rfl⟩⟩;exact⟨_,h.2,λ w _=>⟨_,by simp[PM,binOp,Op.intDiv,h.1],rfl⟩⟩;exact Vo h
def auu{I t u v K}(h:Zt P t u v K):zy P I (λ y _ _=>K y) s w0 (convert t u v):=by unfold Zt at h;split at h;rename_i K I;exact⟨_,h.2,λ w _=>⟨_,by simp[convert,oZ K,oZ I,Conv.intToInt,Np _ h.1],rfl⟩⟩;exact Vo h
def ahF{o K}(h:qOp P o T s w0 K)(k:oj s T a):Zu P (λ w=>Hj o.op=true->Inv w0 s w) s K (execOp a.eval o):=by unfold execOp;unfold qOp at h;have m:∀{I:cJ->Prop}{v:eQ}{y:SV},K y->Sm s y v->Zu P I s K (pure _):=λ g q=>⟨_,g,λ w _=>⟨_,rfl,q⟩⟩;cases I:o.op with|move x=>simp only[I]at h⊢;exact m h (fQ k x)|assign x=>simp only[I]at h⊢;exact m h (fQ k x)|pick c x y=>simp only[I]at h⊢;have u:=fQ k c;split at h;rename_i l;rw[l]at u;have e:a.eval c=_:=u;simp only[e,asBool,pure_bind,RC];exact m h (fQ k x);rename_i l;rw[l]at u;have e:a.eval c=_:=u;simp only[e,asBool,pure_bind,xn,Rv];exact m h (fQ k y);(·rename_i b l;rw[l]at u;have e:a.eval c=b:=u;simp only[e,asBool,pure_bind];cases b;exact m (h.2 rfl) (fQ k y);exact m (h.1 rfl) (fQ k x));exact h.F|build t p=>simp only[I]at h⊢;split at h;rename_i U H;split at h;rename_i V f;split at h;rename_i r J;split at h;rename_i L A;rw[tM]at h;refine⟨_,h,λ w M=>?_⟩;obtain⟨z,B,C⟩:=Ri H s w;obtain⟨j,D,E⟩:=Rh k A C;refine⟨_,?_,j,rfl,E⟩;(have F:(p.map λ(i,x)=>(i,a.eval x)).toList=p.toList.map λ(i,x)=>(i,a.eval x):=by simp);have N:=ahD J w;(have e:(λx=>r.toArray[x]?)=λ(x:Nat)=>r[x]?:=by funext x;simp);(have G:Instr.fill _ _ (p.toList.map λ(i,x)=>(i,a.eval x))=some _:=(az D));(have O:(Instr.build t (p.map λ(i,x)=>(i,a.eval x))).run P w= .ok j w:=by simp only[Instr.build,rq,B,nY,oZ f,N,F,e];rw[G];rfl);simp_all;exact h.F;exact h.F;rename_i W e f;split at h;rename_i n Q;obtain⟨-,X,R,S⟩:=AD Q;split at h;rename_i L A;rw[tM]at h;refine⟨_,h,λ w M=>?_⟩;obtain⟨z,B,C⟩:=Ri H s w;obtain⟨j,D,E⟩:=Rh k A C;refine⟨_,?_,j,rfl,E⟩;(have O:(Instr.build t (p.map λ(i,x)=>(i,a.eval x))).run P w= .ok j w:=by (have F:(p.map λ(i,x)=>(i,a.eval x)).toList=p.toList.map λ(i,x)=>(i,a.eval x):=by simp);(have G:Instr.fill _ _ (p.toList.map λ(i,x)=>(i,a.eval x))=some _:=(az D));simp only[Instr.build,rq,B,nY,oZ f,Oy,IS,program,zw,R,ws,S,F];rw[G];rfl);simp_all;exact h.F;exact h.F;exact h.F;exact h.F|load t x=>simp only[I]at h⊢;let⟨y,g,q⟩:=(ahu h (fQ k x)).ok;exact⟨y,g,λ w j=>q w (j (by simp[Hj]))⟩|nilCheck x=>simp only[I]at h⊢;have u:=fQ k x;split at h;rename_i j b H l;rw[l]at u;let⟨e,U⟩:=u.O;grind;rename_i q l;rw[l]at u;have e:a.eval x= .pointer _:=u;grind;rename_i g b c l;rw[l]at u;have e:a.eval x= .func _ b c:=u;grind;exact h.F|binOp g t x y z=>simp only[I]at h⊢;split at h;rename_i u f;split at h;rename_i v j;rw[lA f (fQ k x),lA j (fQ k y)];exact(aut (w0:=w0) h).ok;exact h.F;exact h.F|unOp g t x=>simp only[I]at h⊢;split at h;rename_i u f;rw[lA f (fQ k x)];exact(Vo (w0:=w0) h).ok;exact h.F|convert t u x=>simp only[I]at h⊢;split at h;rename_i v j;rw[lA j (fQ k x)];exact(auu (w0:=w0) h).ok;exact h.F|makeFunc U g q=>simp only[I]at h⊢;split at h;rename_i x u;split at h;rename_i y f;have z:g.map _=x:=(XX k u);have H:q.map _=y:=(XX k f);simp only[z,H,Instr.makeFunc,pure_bind];exact m h rfl;exact h.F;exact h.F|slice t x y g q=>simp only[I]at h⊢;exact(ahC h (fQ k x) k).ok|fieldAddr t x f=>simp only[I]at h⊢;exact(ahw h (fQ k x)).ok|field t x f=>simp only[I]at h⊢;exact(ahy h (fQ k x)).ok|indexAddr t x i=>simp only[I]at h⊢;exact(ahv h (fQ k x) (fQ k i)).ok|index t x i=>simp only[I]at h⊢;exact(ahz h (fQ k x) (fQ k i)).ok|extract x i=>simp only[I]at h⊢;split at h;rename_i y g;split at h;rename_i v j;rw[lA g (fQ k x)];(have q:y[i]?=v:=(az j));simp only[Instr.extract,q,pure_bind];exact m h rfl;exact h.F;exact h.F|call c=>simp only[I]at h⊢;split at h;(·rename_i b v;split at h;(·rename_i x u;split at h;(·rename_i y g;have q:c.args.map _=y:=(XX k g);have l:=(Vo (I:=λ w=>Hj (Op.call c)=true->Inv w0 s w) (s:=s) (w0:=w0) h).ok;(have e:(do let d<-resolve a.eval c o.type;invoke d.target d.args)=(do pure (.value (<-x c.argTypes o.type y))):=by simp only[resolve,v,q,pure_bind,invoke];cases b<;>simp[U9]at u<;>subst u<;>simp[builtin]);rw[e];exact l);exact h.F);exact h.F);exact h.F|_=>simp only[I]at h
end
section
variable (P:xm) (al:Nat→Bool)
def xC(T:List SV)(d:Option Tmp)(x:SV)(k:List SV->Prop):Prop:=match d with|some d=>U8 x λ x=>Jx T d x k|none=>k T
def Vp:Op->Bool| .alloc _| .box ..| .buildSlice ..=>true|_=>false
def Hk(d:Array Oper)(o:Oper)(T:List SV)(a c:List SV->Prop):Prop:=match o.guard with|none=>a T|some (j,o)=>match(d[j]?).bind (·.dst)with|none=>False|some d=>match lk T d with| .O (.kb b)=>(match b==o with|true=>a T|false=>c T)| .O (.v (.bool b))=>(b=o->Jx T d (.O (.kb o)) a)/\(b=! o->Jx T d (.O (.kb ! o)) c)|_=>False
inductive gm where
 |nil
 |O (i f:Nat) (r:gm)
 |two (i:Nat) (a:gm) (j:Nat) (b:gm)
def gm.of:List (Nat×Nat)->gm|[]=> .nil|(i,f)::r=> .O i f (of r)
instance:Coe (List (Nat×Nat)) gm:=⟨gm.of⟩
def gm.fr:List (Nat×Nat)->gm->gm|[],o=>o|(i,f)::r,o=> .O i f (fr r o)
def gm.len:gm->Nat| .nil=>0| .O _ _ r=>r.len+1| .two _ a _ _=>a.len+1
def rS:gm->Nat->Bool| .nil,_=>false| .O i f r,k=>(match Nat.beq i k&&Nat.beq f 3 with|true=>true|false=>rS r k)| .two _ a _ b,k=>match rS a k with|true=>true|false=>rS b k
def Eg(c:Array Oper)(m:Nat->Bool):gm->Array Bool->Bool| .nil,d=>(nF .any c d).isEmpty| .two i a j b,d=>(nF .any c d==[i,j]&&(! m i&&(! m j&&Nat.beq a.len b.len)))&&(Eg c m a (d.setIfInBounds i true)&&Eg c m b (d.setIfInBounds j true))| .O i f r,d=>(match c[i]? with|none=>false|some o=>match f with|0=>(nF .any c d).contains i&&ahE o.op&&! m i&&(! Hj o.op||(sD c.size).all λ k=>! m k||Vn c k i)|1=>nF .any c d==[i]&&ahE o.op&&! m i|2=>nF .any c d==[i]&&! m i|3=>nF .any c d==[i]&&m i|4=>nF .any c d==[i]&&Vp o.op&&! m i|_=>false)&&Eg c m r (d.setIfInBounds i true)
def Nj(a:Array Oper)(b:gm):zs ((JB a&&(b.len==a.size&&Eg a (rS b) b (Array.replicate a.size false)))=true):=.m
def CN(n:Nat):Ce->Bool| .p j _ _=>Nat.blt j n| .sl j _ _ _ _=>Nat.blt j n|_=>true
def Hl(n:Nat):List Ce->Bool|[]=>true|c::l=>match CN n c with|true=>Hl n l|false=>false
def Vq(n:Nat):SV->SV| .O c=>(match CN n c with|true=> .O c|false=> .O .un)| .ag l=>match Hl n l with|true=> .ag l|false=> .O .un
def Hm(n:Nat):List SV->List SV|[]=>[]|x::l=>Vq n x::Hm n l
def Zv:List Oper->List Nat|[]=>[]|o::l=>match o.dst with|some d=>d::Zv l|none=>Zv l
def writes:Code->List Nat| .region _ a _=>Zv a.toList| .seq a b=>writes a++writes b| .cond _ a b=>writes a++writes b| .block _ a=>writes a| .loop a=>writes a| .scope a=>writes a|_=>[]
def Hn:List Nat->Nat->Bool|[],_=>false|x::l,n=>match Nat.beq x n with|true=>true|false=>Hn l n
def lU(a:List Nat):List SV->Nat->List SV|[],_=>[]|x::l,n=>(match Hn a n with|true=> .O .un|false=>x)::lU a l (n+1)
def CO:List SV->List (Nat×SV)->List SV|T,[]=>T|T,(k,v)::l=>CO (xA T k v) l
def auv(n:Nat):SV->Prop| .O (.p j _ _)=>j<n| .O (.sl j _ _ _ _)=>j<n| .O _=>True| .ag _=>False
def Vr:SV->SV->Prop| .O (.kb b),.O (.v y)=>y=b| .O (.p _ b v),.O (.v y)=>y= g6 b v|x,v=>x=v
def Vr.ok{s x v u}(h:Vr x v)(a:Sm s x u):Sm s v u:=by unfold Vr at h;split at h;subst h;exact a;subst h;exact a.1;subst h;exact a
def Oc(n:Nat):List (Nat×SV)->List SV->Prop|[],_=>True|(k,v)::l,T=>Vr (lk T k) v/\auv n v/\Oc n l T
def wx:List JM->St->St|_,[]=>[]|[],s=>s|some B::l,⟨b,t,_⟩::s=>⟨b,t,B⟩::wx l s|none::l,B::s=>B::wx l s
def Pre:St->St->Prop|[],_=>True|A::r,B::s=>B=A/\Pre r s|_::_,[]=>False
def Lw(n:Nat):St->Bool|[]=>true|B::s=>match Hl n B.cs with|true=>Lw n s|false=>false
def Fit(n:Nat)(A a:St):Prop:=Pre A a/\Lw n A=true
def Zw(T:List SV)(s:St):ResultVar->Option eQ| .tmp t=>fl (lk T t)| .cell a n=>match lk T a with| .O (.p j _ T)=>(match s[j]? with|some B=>(match FD P n,size? P n with|true,some n=>(match Nat.ble (T+n) B.cs with|true=>fl (.ag ((B.cs.drop T).take n))|false=>none)|false,_=>(match B.cs[T]? with|some c=>lM c|none=>none)|_,_=>none)|none=>none)|_=>none
def Od(T:List SV)(s:St):List ResultVar->Option (List eQ)|[]=>some []|r::l=>match Zw P T s r with|some v=>(match Od T s l with|some s=>v::s|none=>none)|none=>none
def JC(w:Func)(R:Ending->cJ->Prop)(T:List SV)(s:St)(a:cJ):Prop:=match Od P T s w.results.toList with|some [v]=>∀w,Inv a s w->R v w|some T=>∀w,Inv a s w->R (.returned (.tuple T)) w|none=>False
def JD:Nat->List SV|0=>[]|n+1=> .O .un::JD n
def AM(s:St):List SV->List eQ->Prop|[],a=>a=[]|x::l,a=>∃u b,a=u::b/\Sm s x u/\AM s l b
end
section
variable {P:xm} {al:Nat→Bool} {Q:Exit→Act→cJ→Prop} {ops:Array Oper}
def AnyM(P:xm)(b:Array Oper)(Q:Exit->Act->cJ->Prop)(S:cJ->Prop)(m:Nat->Bool):Nat->Array Bool->Act->cJ->Prop|0,c,a,w=>nF .any b c=[]/\Q .normal a w|n+1,c,a,w=>(nF .any b c=[]->Q .normal a w)/\∀i,i∈nF .any b c->wpOp P b Q i (λ e d=>(m i=false->S w->S d)/\AnyM P b Q S m n (c.setIfInBounds i true) e d) a w
def AnyM.any{S m n i a w}(h:AnyM P ops Q S m n i a w):wpAny P .any ops Q n i a w:=by induction n generalizing i a w with|zero=>exact h|succ n b=>exact⟨h.1,λ i c=>wpOp_mono (λ _ _ k=>b k.2) (h.2 i c)⟩
def JE(e:Array Oper)(a:Array Bool):Prop:=∀(k)o,e[k]?=some o->a.getD k false=true->∀e∈o.after,Pl .any e=true->a.getD e.on false=true
def ahG{a:Array Bool}{i j}(h:a.getD j false=true):(a.setIfInBounds i true).getD j false=true:=by rw[xi]at*;grind
def JE.set{a}(h:JE ops a){j}(i:j∈nF .any ops a):JE ops (a.setIfInBounds j true):=λ k o b c e d f=>by obtain⟨n,p,l,m⟩:=(Vk i);by_cases g:k=j;subst g;rw[l]at b;obtain rfl:=AI b;exact ahG (m e d f);rw[getD_set_ne _ (Ne.S g)]at c;exact ahG (h k o b c e d f)
def Zx{a i}(h:i∈nF .any ops a):a.getD i false=false:=by have:=(Ow.1 h).1;grind
def ahH{a}(n:JE ops a){k i}(h:Vn ops k i=true)(b:k∈nF .any ops a\/a.getD k false=true)(c:a.getD i false=false):False:=by
 have d:∀{k i:Nat},Region.waitsFor .any ops k i=true->(k∈nF .any ops a\/a.getD k false=true)->a.getD i false=true:=by intro k i h b;obtain⟨f,g,e,j,l,m⟩:=Region.waitsFor_spec h;subst m;obtain b|b:=b;obtain⟨_,m,o,p⟩:=Ow.1 b;simp_all;exact n k f g b e j l
 have l:∀(n k:Nat),Vm ops n k i=true->(k∈nF .any ops a\/a.getD k false=true)->a.getD i false=true:=by intro n;induction n with|zero=>exact λ k h b=>d h b|succ n a=>intro k h b;unfold Vm at h;grind
 rw[l 6 k h b]at c;cases c
def auw(h:JB ops=true){c i d}(b:ops[i]?=some d)(g:i∈nF .any ops c)(j a)(f:ops[j]?=some a)(k:j≠i)(l:c.getD j true=false)(m:∀e∈a.after,Pl .any e=true->e.on≠i):d.apart ops a=true:=by unfold JB at h;rw[mB]at h;have a:=KD.1 (KD.1 h.2 i (Qe.2 (Array.getElem?_eq_some_iff.1 b).1)) j (Qe.2 (Array.getElem?_eq_some_iff.1 f).1);rw[b,f]at a;simp only[Bool.or_eq_true]at a;obtain a|a|a|a:=a;simp_all;let⟨f,j,e,h,d,c⟩:=Region.waitsFor_spec a;rw[b]at j;obtain rfl:=AI j;obtain⟨_,b,m,l⟩:=Ow.1 g;grind;let⟨f,j,e,h,d,c⟩:=Region.waitsFor_spec a;simp_all;exact a
def AnyM.take{S m l i o v n ls a w}(r:JB ops=true)(p:ops[i]?=some o)(t:JE ops ls)(I:l=true->∀k,m k=true->k<ops.size->Vn ops k i=true)(d:i∈nF .any ops ls)(y:Mn Q o v)(q:YieldsIf P ops (λ w=>l=true->S w) o v a)(u:l=true->S w)(h:AnyM P ops Q S m n (ls.setIfInBounds i true) (a.put o.dst v) w):AnyM P ops Q S m (n+1) ls a w:=by
 have A:Region.noSelect ops=true:=by unfold JB at r;simp_all
 have x:=Region.noSelect_spec A;induction n generalizing ls a w with|zero=>refine⟨(RE d),λ j g=>?_⟩;by_cases f:j=i;subst f;exact q.wpOp p u ⟨λ _ s=>s,h⟩;·have k:=ready_mono g f;rw[h.1]at k;cases k|succ n B=>refine⟨(RE d),λ j g=>?_⟩;by_cases f:j=i;subst f;exact q.wpOp p u ⟨λ _ s=>s,h⟩;·obtain⟨C,z,s,D⟩:=(Vk g);(have E:∀e∈z.after,Pl _ e=true->e.on≠i:=λ e F G H=>by have b:=D e F G;rw[H,Zx d]at b;cases b);(have F:l=true->m j=false:=λ e=>by cases b:m j with|false=>rfl|true=>exact(ahH t oV (.N g) (Zx d)).F);have F:=wpOp_putIf s (auw r p d j z s f C E) (λ e b=>x i o e b p) (λ e b=>x j z e b s) y q (h.2 j (ready_mono g f));refine wpOp_mono (λ E e k=>⟨k.2.1,B (t.set g) (ready_mono d (Ne.S f)) k.1 oP ?_⟩) F;rw[Array.setIfInBounds_comm _ _ f];exact k.2.2
def AnyM.step{S m i n z a w}(j:nF .any ops z=[i])(h:wpOp P ops Q i (λ b w'=>(m i=false->S w->S w')/\AnyM P ops Q S m n (z.setIfInBounds i true) b w') a w):AnyM P ops Q S m (n+1) z a w:=⟨(RE j),λ j z=>by simp_all⟩
def Inv.alloc_old{k w s}(h:Inv k s w)(o):Inv k s (w.alloc o)where
 os:=h.os
 tape:=h.tape
 output:=h.output
 size:=lI h.size (by simp)
 Q:=λ k o s=>by rw[Jm w _ k (qk o h.size)];exact h.Q k o s
 I:=λ j B o=>by obtain⟨s,k,a⟩:=h.I j B o;exact⟨s,by rw[Jm w _ _ oV];exact k,a⟩
 apart:=h.apart
def Inv.on{k w w' s}(h:Inv k s w)(a:bi w w w'):Inv k s w' where
 os:=a.os.J h.os
 tape:=a.tape.J h.tape
 output:=a.output.J h.output
 size:=lI h.size a.size
 Q:=λ k s B=>(a.block k (qk s h.size)).J (h.Q k s B)
 I:=λ j B s=>by obtain⟨k,b,c⟩:=h.I j B s;exact⟨k,by rw[a.block _ oV];exact b,c⟩
 apart:=h.apart
def Vs{a b}(h:Nat.blt a b=true):a<b:=by rwa[Nat.blt_eq]at h
def Vt{a b}(h:a<b):Nat.blt a b=true:=by rwa[Nat.blt_eq]
def ahJ{n a}(h:Hl n a=true):∀c∈a,CN n c=true:=by induction a with|nil=>simp|cons c a b=>simp only[Hl]at h;grind
def Zy{o}{a:Act}{T s n p}(h:Hk ops o T n p)(g:oj s T a):(∃T,n T/\oj s T a/\AT o (yielded ops a.tmps)=true)\/(∃T,p T/\oj s T a/\AT o (yielded ops a.tmps)=false):=by unfold Hk at h;split at h;rename_i k;exact .N ⟨T,h,g,by simp[AT,k]⟩;·rename_i j m k;split at h;exact h.F;·rename_i d t;(have c:∀b,a.tmps.getD d undef= .bool b->yielded ops a.tmps j=b:=λ b f=>by unfold yielded;rw[t];rw[xi]at f;cases l:a.tmps[d]? with|none=>rw[l]at f;cases f|some v=>simp_all);have v:=g.2 d;split at h;rename_i b f;rw[f]at v;have l:=c b v;split at h;rename_i q;exact .N ⟨T,h,g,by simp only[AT,k,l];assumption⟩;rename_i q;exact .I ⟨T,h,g,by simp only[AT,k,l];simpa using q⟩;(·rename_i b f;rw[f]at v;have l:=c b v;have v:a.tmps.getD d _=b:=v;(have r:∀c,b=c->Mt s (xA T d (.O (.kb c))) _:=λ c e=>by refine⟨by rw[N7];exact g.1,λ i=>?_⟩;rw[Lt];split;rename_i u;obtain⟨rfl,_⟩:=u;rw[v,e];rfl;exact g.2 i);by_cases e:b=m;have c:=h.1 e;rw[Ra]at c;exact .N ⟨_,c,r _ e,by simp only[AT,k,l,e];simp⟩;·(have i:b=! m:=by cases b<;>cases m<;>simp_all);have c:=h.2 i;rw[Ra]at c;exact .I ⟨_,c,r _ i,by simp only[AT,k,l];simpa using e⟩);exact h.F
def Rl{i o a w T s K b c}(d:ops[i]?=some o)(h:Hk ops o T b c)(e:oj s T a)(k:∀T,b T->oj s T a->AT o (yielded ops a.tmps)=true->o.wp P a w K Q)(l:∀T,c T->oj s T a->AT o (yielded ops a.tmps)=false->K (a.put o.dst undef) w):wpOp P ops Q i K a w:=by unfold wpOp;simp only[d];obtain⟨T,f,g,j⟩|⟨T,f,g,j⟩:=Zy h e;grind;grind
def AF{o:Oper}{s d T}{a:Act}{x v k}(b:xC T o.dst x k)(c:oj s T a)(e:Ext s d)(f:Sm d x v):∃x,k x/\oj d x (a.put o.dst v):=by unfold xC at b;cases x:o.dst with|none=>rw[x]at b;exact⟨T,b,c.ext e⟩|some d=>rw[x]at b;simp only[ahs,Ra]at b;exact⟨_,b,(c.ext e).put f⟩
def ZB(a:Act)(d v):(a.put d v).defers=a.defers:=by cases d<;>rfl
end
section
variable {P:xm} {al:Nat→Bool} {Q:Exit→Act→cJ→Prop} {ops:Array Oper}
def auB{o}(h:Vp o.op=true)(a:Act)(w):(∃v f,(execOp a.eval o).run P w= .ok (.value v) (w.alloc f))\/∃b c,(execOp a.eval o).run P w= .halt b c:=by
 unfold execOp;have d:∀(t:zo)(v:eQ),∃f,(newVar t v).run P w= .ok ⟨w,0,none⟩ (w.alloc f):=λ t v=>⟨.cells _ t,by exact oK⟩;have m:∀t:zo,(∃z,(zeroValue t).run P w= .ok z w)\/∃b c,(zeroValue t).run P w= .halt b c:=λ t=>by unfold zeroValue IS;cases k:P.info? t with|none=>simp_all|some i=>cases g:i.zero with|none=>simp_all|some z=>simp_all
 cases p:o.op with|alloc t=>simp only[Instr.alloc,rq];obtain⟨z,g⟩|⟨b,c,g⟩:=m t;let⟨f,o⟩:=d t z;exact .N ⟨_,f,by simp[g,o];rfl⟩;simp_all|box t x=>let⟨f,o⟩:=d t (a.eval x);exact .N ⟨_,f,by simp[Instr.box,o];rfl⟩|buildSlice t o j=>(have l:(∃d,(underlying t).run P w= .ok d w)\/∃b c,(underlying t).run P w= .halt b c:=by unfold underlying;cases r:P.underlying t with|none=>simp_all|some d=>simp_all);(have q:∀e,(∃n,(Oy e).run P w= .ok n w)\/∃b c,(Oy e).run P w= .halt b c:=λ e=>by unfold Oy IS;cases k:P.info? e with|none=>simp_all|some i=>simp_all);(have r:(∃v f,(Instr.buildSlice t o (j.map λ(i,x)=>(i,a.eval x))).run P w= .ok v (w.alloc f))\/∃b c,(Instr.buildSlice t o (j.map λ(i,x)=>(i,a.eval x))).run P w= .halt b c:=by unfold Instr.buildSlice;simp only[rq];obtain⟨d,t⟩|⟨b,c,t⟩:=l;(·rw[t];simp only[nY];cases d with|slice e=>simp only[rq];obtain⟨n,d⟩|⟨b,c,d⟩:=q e;rw[d];simp only[nY];by_cases k:o*n>2^24;rw[QJ k];exact .I ⟨_,w,rfl⟩;rw[QI k];(have k:∀(zero:Array _)s,(∃v f,((match Instr.fill (λ i=>some (i*n,n)) ((Array.range (o*n)).map (zero[·%zero.size]!)) (j.map λ(i,x)=>(i,a.eval x)).toList with|some l=>do pure (.slice (<-newRow e l) o o)|_=>stuck s):Sem eQ).run P w= .ok v (w.alloc f))\/∃b c,((match Instr.fill (λ i=>some (i*n,n)) ((Array.range (o*n)).map (zero[·%zero.size]!)) (j.map λ(i,x)=>(i,a.eval x)).toList with|some l=>do pure (.slice (<-newRow e l) o o)|_=>stuck s):Sem eQ).run P w= .halt b c:=λ zero s=>by split;exact .N ⟨_,_,by simp[newRow,newObj,zw,World.alloc_eq];exact⟨rfl,rfl⟩⟩;exact .I ⟨_,w,rfl⟩);by_cases i:o*n=0;simp only[i,RC]at k⊢;exact k #[] _;simp only[i,Rv,rq];obtain⟨z,g⟩|⟨b,c,g⟩:=m e;rw[g];simp only[nY,ws];exact k _ _;rw[g];exact .I ⟨b,c,rfl⟩;rw[d];exact .I ⟨b,c,rfl⟩|_=>exact .I ⟨_,w,rfl⟩);rw[t];exact .I ⟨b,c,rfl⟩);obtain⟨v,f,t⟩|⟨b,c,t⟩:=r;exact .N ⟨v,f,by simp only[rq,t,nY,ws]⟩;exact .I ⟨b,c,by simp only[rq,t,Result.andThen_halt]⟩|_=>rw[p]at h;simp[Vp]at h
def auC{o:Oper}(h:Vp o.op=true){a w}{K}(S:cJ->Prop)(f:∀c,S w->S (w.alloc c))(b:o.wp P a w K Q):o.wp P a w (λ v d=>(S w->S d)/\K v d) Q:=by unfold Oper.wp at*;obtain⟨v,c,e⟩|⟨g,d,e⟩:=auB (P:=P) h a w;rw[e]at b⊢;exact⟨f c,b⟩;·rw[e]at b⊢;cases g<;>exact b
def Ext.J{a b c}(h:Ext a b)(k:Ext b c):Ext a c:=λ j x b=>k j x (h j x b)
def auD{C:Prop}{i:Nat}{o}{a:Act}{T:List SV}{s:St}{e f:List SV->Prop}(l:ops[i]?=some o)(h:Hk ops o T e f)(g:oj s T a)(j:∀T,e T->oj s T a->AT o (yielded ops a.tmps)=true->C)(k:∀T,f T->oj s T a->AT o (yielded ops a.tmps)=false->C):C:=by obtain⟨T,b,c,d⟩|⟨T,b,c,d⟩:=Zy h g;exact j T b c d;exact k T b c d
def auE(n T i):lk (Hm n T) i=Vq n (lk T i):=by induction T generalizing i with|nil=>rfl|cons x T a=>cases i with|zero=>rfl|succ i=>exact a i
def auF(n T):(Hm n T)=T.length:=by induction T with|nil=>rfl|cons x T a=>simp[Hm,a]
def Ext.back{a s}(c:Ext a s){j b}(d:qc s j b)(e:j<a):qc a j b:=by
 have b:qc a j (a[j]).b:=by unfold qc;simp_all
 have j:=c _ _ b;unfold qc at d j;simp_all
def Mt.cut{s0 s}(f:Ext s0 s){T g}(h:Mt s T g):Mt s0 (Hm s0 T) g:=by
 have m:∀{c:Ce}{v:eQ},CN _ c=true->Cm s c v->Cm s0 c v:=λ{c v}a i=>by cases c with|p j b x=>exact⟨i.1,f.back i.2 (Vs a)⟩|sl j b x n k=>exact⟨i.1,f.back i.2 (Vs a)⟩|_=>exact i
 refine⟨by rw[auF];exact h.1,λ i=>?_⟩;rw[auE];have j:=h.2 i;generalize lk T i=x at j;cases x with|O c=>simp only[Vq];(cases a:CN _ c with|true=>exact m a j|false=>trivial)|ag l=>simp only[Vq];cases a:Hl _ l with|false=>trivial|true=>obtain⟨v,e,b⟩:=j;refine⟨v,e,?_⟩;have a:=ahJ a;(have n:∀(l:List Ce)(v:List _),(∀c∈l,CN s0 c=true)->gD s l v->gD s0 l v:=by intro l;induction l with|nil=>intro v _ b;exact b|cons c l o=>intro v a b;obtain⟨u,k,e,p,q⟩:=b;exact⟨u,k,e,m (a c (by simp)) p,o k (λ d r=>a d (by simp[r])) q⟩);exact n l v a b
end
section
variable {P:xm} {al:Nat→Bool}
def wp_loop_ghost{c}{Q}{p:Type}(I:p->Act->cJ->Prop)(o:p->Nat)(s:∀i a w,I i a w->c.wp P (Exit.then (λ f w'=>∃m,I m f w'/\o m<o i) Q) a w){a}{w}{i}(h:I i a w):(Code.loop c).wp P Q a w:=by
 intro b k q;have t:∀n i a w,o i=n->I i a w->∃e f w',Q e f w'/\Arrives P (lone (b.at a (.code c:: .inLoop c::k)) q w) b k q e f w':=by intro n;induction n using Nat.strongRecOn with|_ n u=>intro i a w v x;obtain⟨e,g,j,d,r⟩:=s i a w x b (.inLoop c::k) q;cases e with|normal=>obtain⟨m,l,y⟩:=d;obtain⟨z,A,B,C,D⟩:=u (o m) (v▸y) m g j rfl l;exact⟨z,A,B,C,.of_steps (Steps.trans r (.O step_inLoop)) D⟩|exit l=>exact⟨_,g,j,d,oJ⟩|goto l=>exact⟨_,g,j,d,oJ⟩|ret=>exact⟨_,g,j,d,oJ⟩|panic l=>exact⟨_,g,j,d,oJ⟩|outgrown=>exact⟨_,g,j,d,oJ⟩
 let⟨e,f,w',d,r⟩:=t _ i a w rfl h;exact⟨e,f,w',d,.of_steps (.O step_loop) r⟩
def auH(a T n i):lk (lU a T n) i=if Hn a (n+i)=true then .O .un else lk T i:=by induction T generalizing n i with|nil=>simp[lU,lk]|cons x T b=>cases i with|zero=>simp only[lU,lk,PI];cases Hn a n<;>simp|succ i=>simp only[lU,lk,b];grind
def auI(x T n):(lU x T n)=T.length:=by induction T generalizing n with|nil=>rfl|cons x T a=>simp[lU,a]
def Mt.lU{s T i}(h:Mt s T i)(a):Mt s (lU a T 0) i:=by refine⟨by rw[auI];exact h.1,λ i=>?_⟩;rw[auH];split;trivial;exact h.2 i
def Mt.ahN{s T q i n}(l)(h:Mt s T i)(a:Mt s q i)(b:Oc n l q):Mt s (CO T l) i:=by induction l generalizing T with|nil=>exact h|cons q l i=>obtain⟨k,v⟩:=q;obtain⟨l,_,T⟩:=b;refine i ⟨by rw[N7];exact h.1,λ i=>?_⟩ T;rw[Lt];split;rename_i b;obtain⟨rfl,_⟩:=b;exact l.ok (a.2 i);exact h.2 i
def Pre.app{s a}(h:Pre s a):∃r,a=s++r:=by induction s generalizing a with|nil=>exact⟨a,rfl⟩|cons A s r=>cases a with|nil=>exact h.F|cons B a=>obtain⟨rfl,a⟩:=h;simp_all
def Pre.I{s s'}(h:Pre s s'){j b}(r:qc s' j b)(a:j<s):qc s j b:=by obtain⟨r,rfl⟩:=h.app;unfold qc at*;grind
def ahO(l s):(wx l s)=s.length:=by induction s generalizing l with|nil=>simp[wx]|cons B s a=>cases l with|nil=>rfl|cons o l=>cases o<;>simp[wx,a]
end
section
variable {P:xm} {al:Nat→Bool}
def auJ{n s}(h:Lw n s=true):∀B∈s,Hl n B.cs=true:=by induction s with|nil=>simp|cons B s a=>simp only[Lw]at h;grind
def Cm.cut{s A}(d:Pre A s){c v}(a:Cm s c v)(e:CN A c=true):Cm A c v:=by cases c with|p j b A=>exact⟨a.1,d.I a.2 (Vs e)⟩|sl j b A n k=>exact⟨a.1,d.I a.2 (Vs e)⟩|_=>exact a
def gD.cut{s A}(b:Pre A s){l e}(a:gD s l e)(d:∀c∈l,CN A c=true):gD A l e:=by induction l generalizing e with|nil=>exact a|cons c l e=>obtain⟨u,l,e,A,s⟩:=a;exact⟨u,l,e,A.cut b (d c (by simp)),oP⟩
def Inv.ahP{a w s}(h:Inv a s w):Inv w s w:=⟨rfl,rfl,rfl,.Y,λ _ _ _=>rfl,h.I,h.apart⟩
def Inv.cut{B w s A}(h:Inv B s w)(a:Pre A s)(b:Lw A A=true):Inv w A w:=by obtain⟨r,rfl⟩:=a.app;refine⟨rfl,rfl,rfl,.Y,λ _ _ _=>rfl,λ j B A=>?_,λ i j B C s A=>?_⟩;obtain⟨s,r,c⟩:=h.I j B (by grind);exact⟨s,r,c.cut a (ahJ (auJ b B (fx A)))⟩;exact h.apart i j B C (by grind) (by grind)
def Vu(n:Nat):SV->Prop| .O c=>CN n c=true| .ag l=>∀c∈l,CN n c=true
def Cm.lt{s c v}(h:Cm s c v):CN s c=true:=by cases c with|p j b s=>exact Vt h.2.lt|sl j b s n k=>exact Vt h.2.lt|_=>rfl
def Sm.lt{s x v}(h:Sm s x v):Vu s x:=by cases x with|O c=>exact Cm.lt h|ag l=>(have a:∀(l:List Ce)(x:List _),gD s l x->∀c∈l,CN s c=true:=by intro l;induction l with|nil=>intro x _ c s;simp at s|cons c l b=>intro x s d c;obtain⟨u,e,_,f,g⟩:=s;rcases (aaH c) with rfl|c;exact f.lt;exact b e g d c);obtain⟨x,_,s⟩:=h;exact a l x s
def Sm.cut{s A}(a:Pre A s){x v}(h:Sm s x v)(b:Vu A x):Sm A x v:=by cases x with|O c=>exact Cm.cut a h b|ag l=>obtain⟨x,e,A⟩:=h;exact⟨x,e,A.cut a b⟩
def Oc.sv{n l T}(h:Oc n l T):∀q∈l,Vu n q.2:=by induction l with|nil=>simp|cons q l T=>obtain⟨k,v⟩:=q;obtain⟨r,q,a⟩:=h;intro r h;rcases (aaH h) with rfl|h;(·cases v with|O c=>(cases c with|p j b v=>exact Vt q|sl j b v n k=>exact Vt q|_=>rfl)|ag l=>exact q.F);exact T a r h
def auK{T}{l}{C:SV->Prop}(i)(a:C (lk T i))(b:∀q∈l,C q.2):C (lk (CO T l) i):=by induction l generalizing T with|nil=>exact a|cons q l c=>obtain⟨k,v⟩:=q;refine c ?_ oV;rw[Lt];split;exact b (k,v) (by simp);exact a
def Og(b:Array eQ):ResultVar->Sem eQ| .tmp t=>pure (b.getD t undef)| .cell a t=>do loadVar t (<-asAddr (b.getD a undef))
def auL{T s m w}{a:Act}(g:oj s T a)(i:Inv m s w){r v}(h:Zw P T s r=some v):(Og a.tmps r).run P w= .ok v w:=by cases r with|tmp t=>have e:=lA h (g.2 t);subst e;rfl|cell b E=>simp only[Zw]at h;simp only[Og];have k:=g.2 b;split at h;(·rename_i j F t o;rw[o]at k;let⟨e,p⟩:=k.O;split at h;(·rename_i B d;have q:=Vi p d;subst q;simp only[e,asAddr,rq,ws,nY];split at h;(·rename_i n f x;split at h;rename_i c;have c:=nt c;let⟨u,l,y⟩:=i.range d t n;(have z:u=n:=by rw[l.length,pS,DM];omega);have:=Zn f x z y;simp only[Instr.loadAt,Ov,rq,ws,nY]at this;rw[this];rw[lA h ⟨u,rfl,l⟩];·cases h);(·rename_i n f;split at h;rename_i c x;let⟨l,y,z⟩:=i.I j B d;let⟨u,A,C⟩:=z.at x;(have D:w.cell? ⟨B.b,t,none⟩=u:=by rw[ta w B.b t _ B.t _ y];simpa using A);have:=Zm f D;simp only[Instr.loadAt,Ov,rq,ws,nY]at this;rw[this,Ze h C];·cases h);·cases h);·cases h);·cases h
def auM{T s v w}{a:Act}(b:oj s T a)(c:Inv v s w){l r}(h:Od P T s l=some r):(l.mapM (Og a.tmps)).run P w= .ok r w:=by induction l generalizing r with|nil=>simp[Od]at h;subst h;rfl|cons r l s=>simp only[Od]at h;split at h;(·rename_i v l;split at h;rename_i T r;simp at h;subst h;simp only[List.mapM_cons,rq,auL b c l,nY,s r,ws];·cases h);·cases h
def Oi{b R T s v w}{a:Act}(h:JC P b R T s v)(e:oj s T a)(c:Inv v s w):∃v,(results b a.tmps).run P w= .ok v w/\R v w:=by
 unfold JC at h;have d:∀R,Od P T s _=some R->(results b _).run P w= .ok (if h:R.length=1 then R[0]else .tuple _) w:=λ R s=>by have:=auM e c s;(have e:results b a.tmps=(do let R<-b.results.mapM (Og a.tmps);pure (if h:R.size=1 then R[0]else .tuple R)):=by exact oK);(have T:(b.results.mapM (Og a.tmps)).run P w= .ok R.toArray w:=by(have:(b.results.toList.toArray.mapM (Og a.tmps)).run P w= .ok R w:=by rw[List.mapM_toArray,Sem.run_map,this];rfl);simpa using this);rw[e,rq,T];rfl
 split at h;simp_all;rename_i R e s;refine⟨.tuple _,?_,h w c⟩;rw[d _ s,dif_neg];intro c;match R,c with|[v],_=>exact e v rfl
 exact h.F
def ZD(T U i):lk (T++U) i=if i<T then lk T i else lk U (i-T):=by induction T generalizing i with|nil=>simp|cons x T U=>cases i with|zero=>simp[lk]|succ i=>simp only[xD,lk,U,pn,Nat.add_lt_add_iff_right,Nat.add_sub_add_right]
def ZE(n i):lk (JD n) i= .O .un:=by induction n generalizing i with|zero=>rfl|succ n a=>cases i with|zero=>rfl|succ i=>exact a i
def ZF(n):(JD n)=n:=by induction n with|zero=>rfl|succ n a=>simp[JD,a]
def AM.at{s l u}(h:AM s l u):l=u.length/\∀i,i<l.length->Sm s (lk l i) (u.getD i undef):=by induction l generalizing u with|nil=>simp only[AM]at h;subst h;simp|cons x l s=>obtain⟨u,x,rfl,a,l⟩:=h;obtain⟨h,u⟩:=s l;refine⟨by simp[h],λ i h=>?_⟩;cases i with|zero=>assumption|succ i=>simpa[lk]using u i (az h)
def AM.vals(s a):AM s (a.map λ v=> .O (.v v)) a:=by induction a with|nil=>rfl|cons v a s=>exact oK
def Inv.aG{B w s}(h:Inv B s w):aA B w (λ k=>vb s k):=⟨h.os,h.tape,h.output,h.size,λ k s a=>h.Q k s λ B h e=>a ⟨B,h,e⟩⟩
def Ge(n:Nat):St->Prop|[]=>True|B::s=>n<=B.b/\Ge n s
def Ge.em{n s}(h:Ge n s):∀B∈s,n<=B.b:=by induction s with|nil=>simp|cons A s a=>exact λ B s=>(us.1 s).F (λ e=>e▸h.1) (a h.2 B)
def Inv.B{B w s}(h:Inv B s w){n}(k:n<=B.heap.size)(a:Ge n s):bi n B w:=⟨h.os,h.tape,h.output,h.size,λ k B=>h.Q k oo λ B h e=>by have:=a.em B h;omega⟩
def aB.B{g c s b}{K}{R:cJ->Ending->cJ->Prop}(f:∀w,Inv b s w->eE P g c w (R w))(i:∀w e w',Inv b s w->R w e w'->∃v,ea e v/\bi w w w'/\(Inv w' s w'->K (.O (.v v)) s w')):aB P g c s b K:=⟨λ w a=>(f w a).M λ e w' h=>by obtain⟨v,k,l,m⟩:=i w e w' a h;have d:Inv w' s w':=⟨rfl,rfl,rfl,.Y,λ _ _ _=>rfl,λ j B n=>by obtain⟨o,p,q⟩:=a.I j B n;exact⟨o,by rw[l.block _ oV];exact p,q⟩,a.apart⟩;exact⟨v,k,.O (.v v),s,rfl,Ext.Y s,d,m d⟩⟩
def Inv.nil(w):Inv w [] w:=aav
end
section
variable (P:xm) (al:Nat→Bool) (fn:Func) (R:Ending→cJ→Prop)
inductive It where
 |code (c:Code)
 |ops (ops:Array Oper) (l:List Oper)
 |dr (ops:Array Oper) (m:gm) (s0:St) (iS:cJ) (order:gm)
 |blk (id:Nat)
 |mark (J:List SV→St→cJ→Prop)
 |Eh (l:Nat) (J:List SV→St→cJ→Prop)
def tm(a:Code)(b:List It):zs (.code a::b:List It):=.m
abbrev Cc:=List It→List SV→St→cJ→Prop
def hdr:List It->Bool| .dr ..::_=>true|_=>false
def FF(C:Cc)(k:List It)(T:List SV)(s:St)(a:cJ):Prop:=match hdr k with|true=>False|false=>C k T s a
def Lz(a:Nat):List It->Option (List It)|[]=>none| .blk i::k=>(match Nat.beq i a with|true=>k|false=>Lz a k)| .dr ..::_=>none|_::k=>Lz a k
def Oj(l:Nat):List It->Option Kv|[]=>none| .Eh i J::_=>(match Nat.beq i l with|true=>J|false=>none)| .dr ..::_=>none|_::k=>Oj l k
def Vv:List It->Bool|[]=>true| .dr ..::_=>false|_::k=>Vv k
def Rm:List Ce->List Ce|[]=>[]|_::l=> .un::Rm l
def Hr(a:List Nat):St->Nat->St|[],_=>[]|⟨b,t,c⟩::s,n=>(match Hn a n with|true=>⟨b,t,Rm c⟩|false=>⟨b,t,c⟩)::Hr a s (n+1)
def By(c:List Nat)(T:List SV)(s:St){a:Type}(g:a->List (Nat×SV))(h:a->List JM)(i:a->cJ->Prop)(j:a->Prop)(d:List SV)(e:St)(k:cJ):Prop:=∀f,Inv k e f->lU c d 0=lU c T 0/\∃b,i b f/\Oc s (g b) d/\Fit s (wx (h b) s) e/\j b
def JF(k:List It)(T:List SV)(s:St)(d:cJ)(C:Cc):Prop:=match k with|[]=>JC P fn R T s d| .mark J::_=>J T s d| .blk _::k=>FF C k T s d| .Eh _ _::k=>FF C k T s d| .ops e l::k=>(match l with|[]=>FF C k T s d|o::l=>Hk e o T (λ T=>Jy P al o T s d λ x w t=>xC T o.dst x λ c=>C (.ops e l::k) c w t) (λ T=>xC T o.dst (.O .un) λ c=>C (.ops e l::k) c s d))| .dr e m g h n::k=>(match n with| .nil=>FF C k T s d| .two i a j b=>(match e[i]? with|none=>False|some o=>Hk e o T (λ T=>Jy P al o T s d λ x w t=>(∀v,Inv t w v->Inv h g v)/\xC T o.dst x λ c=>C (.dr e m g h a::k) c w t) (λ T=>xC T o.dst (.O .un) λ c=>C (.dr e m g h a::k) c s d))/\(match e[j]? with|none=>False|some o=>Hk e o T (λ T=>Jy P al o T s d λ x w t=>(∀v,Inv t w v->Inv h g v)/\xC T o.dst x λ c=>C (.dr e m g h b::k) c w t) (λ T=>xC T o.dst (.O .un) λ c=>C (.dr e m g h b::k) c s d))| .O i f r=>match e[i]? with|none=>False|some o=>Hk e o T (λ T=>match f with|0=>qOp P o (Hm g T) g h λ x=>(match fl x with|some _=>xC T o.dst x λ c=>C (.dr e m g h r::k) c s d|none=>False)|1=>qOp P o T s d λ x=>xC T o.dst x λ c=>C (.dr e m g h r::k) c s d|2=>Jy P al o T s d λ x w t=>(∀v,Inv t w v->Inv h g v)/\xC T o.dst x λ c=>C (.dr e m g h r::k) c w t|_=>Jy P al o T s d λ x w t=>xC T o.dst x λ c=>C (.dr e m g h r::k) c w t) (λ T=>xC T o.dst (.O .un) λ c=>C (.dr e m g h r::k) c s d))| .code c::k=>match c with| .skip=>FF C k T s d| .label _=>FF C k T s d| .region _ e t=>(match t with|false=>C (.ops e e.toList::k) T s d|true=>∃(o:List Nat)(n:gm),Nj e n/\oI (Hr o s 0) λ g=>C (.dr e n g d n::k) T s d)| .seq a b=>C (.code a:: tm b k) T s d| .cond c a b=>(match c with| .tmp t=>(match lk T t with| .O (.kb true)=>C (tm a k) T s d| .O (.kb false)=>C (tm b k) T s d| .O (.v (.bool v))=>(v=true->Jx T t (.O (.kb true)) λ T=>C (tm a k) T s d)/\(v=false->Jx T t (.O (.kb false)) λ T=>C (tm b k) T s d)|_=>False)| .const (.bool true)=>C (tm a k) T s d| .const (.bool false)=>C (tm b k) T s d|_=>False)| .block q a=>C (.code a:: .blk q::k) T s d| .loop a=>∃(t:Type)(o:t->List (Nat×SV))(x:t->List JM)(v:t->cJ->Prop)(p:t->Nat),(∀w,Inv d s w->∃i,v i w/\Oc s (o i) T/\Pre (wx (x i) s) s)/\∀i w,v i w->Bx (CO (lU (writes a) T 0) (o i)) λ u=>oI (wx (x i) s) λ g=>C (.code a:: .mark (By (writes a) T s o x v λ y=>p y<p i)::k) u g w| .scope a=>∃(l:Nat)(z:Code)(t:Type)(o:t->List (Nat×SV))(x:t->List JM)(v:t->cJ->Prop)(p:t->Nat),findLabel a l=z/\C (.code a:: .Eh l (By (writes a) T s o x v λ _=>True)::k) T s d/\∀i w,v i w->Bx (CO (lU (writes a) T 0) (o i)) λ u=>oI (wx (x i) s) λ g=>C (.code z:: .Eh l (By (writes a) T s o x v λ y=>p y<p i)::k) u g w| .exit q=>(match Lz q k with|some t=>FF C t T s d|none=>False)| .goto l=>(match Oj l k with|some J=>J T s d|none=>False)| .ret=>(match Vv k with|true=>JC P fn R T s d|false=>False)|_=>False
def Ol(C:Cc):Prop:=∀k T s a,JF P al fn R k T s a C->C k T s a
end
section
variable {P:xm} {al:Nat→Bool} {fn:Func} {R:Ending→cJ→Prop} {Q:Exit→Act→cJ→Prop}
def Sx(P:xm)(Q:Exit->Act->cJ->Prop):List It->Exit->Act->cJ->Prop|[]=>Q| .code c::k=>Exit.then (c.wp P (Sx P Q k)) (Sx P Q k)| .ops a l::k=>Exit.then (wpList P a (Sx P Q k) l) (Sx P Q k)| .dr ..::_=>λ _ _ _=>False| .blk a::k=>Exit.inBlock a (Sx P Q k)| .mark J::k=>Exit.then (λ a w=>∃T s c,J T s c/\oj s T a/\Inv c s w/\IB a) (Sx P Q k)| .Eh l J::k=>Exit.jump l (λ a w=>∃T s c,J T s c/\oj s T a/\Inv c s w/\IB a) (Sx P Q k)
def Ei(P:xm)(Q:Exit->Act->cJ->Prop):Cc:=λ k T s d=>match k with| .dr e m c f g::k=>∀a w b,Eg e (rS m) g b=true->JB e=true->JE e b->oj s T a->Inv d s w->IB a->Ext c s->((∀k,k<e.size->rS m k=true->b.getD k false=false)->Inv f c w)->AnyM P e (λ e a w=>e= .normal/\Sx P Q k .normal a w) (Inv f c) (rS m) g.len b a w|k=>∀a w,oj s T a->Inv d s w->IB a->Sx P Q k .normal a w
def FF.U{k T s e w a}(h:FF (Ei P Q) k T s e)(b:oj s T a)(c:Inv e s w)(d:IB a):Sx P Q k .normal a w:=by unfold FF at h;split at h;exact h.F;rename_i s;match k,s,h with|[],_,h=>exact h a w b c d| .code _::_,_,h=>exact h a w b c d| .ops ..::_,_,h=>exact h a w b c d| .blk _::_,_,h=>exact h a w b c d| .mark _::_,_,h=>exact h a w b c d| .Eh ..::_,_,h=>exact h a w b c d
def auN{J k b a w}(h:Lz J k=some b)(l:Sx P Q b .normal a w):Sx P Q k (.exit J) a w:=by induction k with|nil=>simp[Lz]at h|cons x k b=>cases x with|code c=>exact b h|ops o l=>exact b h|dr=>simp[Lz]at h|blk i=>simp only[Lz]at h;show Exit.inBlock i _ _ a w;simp only[Exit.inBlock];split at h;simp_all;rename_i e;rw[QI (Ne.S (Nat.ne_of_beq_eq_false e))];exact b h|mark J=>exact b h|Eh l J=>exact b h
def auO{l k J a w}(h:Oj l k=some J)(f:∃T s d,J T s d/\oj s T a/\Inv d s w/\IB a):Sx P Q k (.goto l) a w:=by induction k with|nil=>simp[Oj]at h|cons x k b=>cases x with|code c=>exact b h|ops o l=>exact b h|dr=>simp[Oj]at h|blk i=>exact b h|mark J=>exact b h|Eh i o=>simp only[Oj]at h;split at h;rename_i e;obtain rfl:=AI h;exact⟨(Nat.eq_of_beq_eq_true e).S,f⟩;·cases h
def auP{k a w}(h:Vv k=true)(x:Q .ret a w):Sx P Q k .ret a w:=by induction k with|nil=>exact x|cons x k b=>cases x with|dr=>simp[Vv]at h|_=>exact b h
def auQ{c m}{z:Type}(l)(I:z->Act->cJ->Prop)(q:z->Nat)(B:findLabel c l=some m){a}{w}(C:c.wp P (Exit.jump l (λ a w=>∃i,I i a w) Q) a w)(D:∀i a w,I i a w->m.wp P (Exit.jump l (λ o w'=>∃j,I j o w'/\q j<q i) Q) a w):(Code.scope c).wp P Q a w:=by
 intro b k p;have A:gotoIn l (.inScope c::k)=some (.code m:: .inScope c::k):=by simp[gotoIn,B]
 have E:∀n i a w,q i=n->I i a w->∃e o w',Q e o w'/\Arrives P (lone (b.at a (.code m:: .inScope c::k)) p w) b k p e o w':=by intro n;induction n using Nat.strongRecOn with|_ n F=>intro i a w K G;obtain⟨e,d,f,g,h⟩:=D i a w G b (.inScope c::k) p;cases e with|normal=>exact⟨.normal,d,f,g,Steps.trans h (.O step_inScope)⟩|exit r=>exact⟨.exit r,d,f,g,oJ⟩|goto H=>obtain⟨rfl,j,s,J⟩:=g;obtain⟨t,u,v,x,y⟩:=F _ oo j d f rfl s;exact⟨t,u,v,x,.of_steps (h _ A) y⟩|ret=>exact⟨_,d,f,g,h⟩|panic J=>exact⟨_,d,f,g,h⟩|outgrown=>exact⟨_,d,f,g,h⟩
 let⟨e,d,f,g,h⟩:=C b (.inScope c::k) p;cases e with|normal=>exact⟨.normal,d,f,g,.head step_scope (Steps.trans h (.O step_inScope))⟩|exit r=>exact⟨.exit r,d,f,g,λ n F=> .head step_scope (h n (by simp[exitTo,F]))⟩|goto H=>obtain⟨rfl,j,s⟩:=g;let⟨t,u,v,x,y⟩:=E _ j d f rfl s;exact⟨t,u,v,x,.of_steps (.head step_scope (h _ A)) y⟩|ret=>exact⟨_,d,f,g,.of_steps (.O step_scope) h⟩|panic J=>exact⟨_,d,f,g,.of_steps (.O step_scope) h⟩|outgrown=>exact⟨_,d,f,g,.of_steps (.O step_scope) h⟩
def By.on{d}{T T0:List SV}{s s0:St}{e}{f}{g}{m}{n:e->Prop}{v}{w'}{b:Act}(w:Mt s (lU d T 0) v)(h:∃i c k,By d T s f g m n i c k/\oj c i b/\Inv k c w'/\IB b):∃a,(m a w'/\oj (wx (g a) s) (CO (lU d T 0) (f a)) b/\Inv w' (wx (g a) s) w'/\IB b)/\n a:=by
 obtain⟨i,c,k,x,o,p,y⟩:=h;obtain⟨z,a,A,r,l,B⟩:=x w' p;have t:(wx (g a) s)=s.length:=ahO ..;refine⟨a,⟨A,?_,p.cut l.1 (by rw[t];exact l.2),y⟩,B⟩;have u:Mt c (CO (lU d T 0) (f a)) b.tmps:=by rw[<-z];exact Mt.ahN _ (o.lU _) o r
 refine⟨u.1,λ j=>(u.2 j).cut l.1 ?_⟩;rw[t];exact auK j (w.2 j).lt λ q C=>r.sv q C
def auR{s e u}(h:gD s e u):gD s (Rm e) u:=by induction e generalizing u with|nil=>exact h|cons c e s=>obtain⟨u,c,e,_,a⟩:=h;exact⟨u,c,e,QD,s a⟩
def Vw(a)(s)(n j:Nat):(Hr a s n)[j]?=(s[j]?).map λ B=>⟨B.b,B.t,if Hn a (n+j)=true then Rm B.cs else B.cs⟩:=by induction s generalizing n j with|nil=>simp[Hr]|cons B s c=>obtain⟨b,t,d⟩:=B;cases j with|zero=>simp only[Hr,List.getElem?_cons_zero,PI,OX];cases Hn a n<;>simp|succ j=>simp only[Hr,List.getElem?_cons_succ,c];grind
def ahQ(a)(s n j b):qc (Hr a s n) j b↔qc s j b:=by unfold qc;rw[Vw];cases s[j]?<;>simp
def Inv.mask{l w s}(h:Inv l s w)(d):Inv l (Hr d s 0) w where
 os:=h.os
 tape:=h.tape
 output:=h.output
 size:=h.size
 Q:=λ k f m=>h.Q k f λ B n e=>by obtain⟨j,a⟩:=List.getElem?_of_mem n;(have c:(Hr d s 0)[j]?=some ⟨B.b,B.t,if Hn d (0+j)=true then Rm B.cs else B.cs⟩:=by rw[Vw,a];rfl);exact m _ (fx c) e
 I:=λ j B a=>by rw[Vw]at a;cases c:s[j]? with|none=>simp[c]at a|some A=>simp only[c,OX,BY]at a;subst a;obtain⟨o,p,g⟩:=h.I j A c;refine⟨o,p,gD.ext (λ i b f=>(ahQ d s 0 i b).2 f) ?_⟩;dsimp only;split;exact auR g;exact g
 apart:=λ i j A B b a e=>by rw[Vw]at b a;cases c:s[i]? with|none=>simp[c]at b|some o=>cases g:s[j]? with|none=>simp[g]at a|some p=>simp[c]at b;simp[g]at a;exact h.apart i j o p c g (by grind)
def auS{a s}(h:Pre (wx a s) s):wx a s=s:=by obtain⟨r,b⟩:=h.app;have:=ahO a s;have s:=Ru Pb b;rw[da,this]at s;grind
def Rn(iH:Jp al P)(aL:I3 P)(hQ:∀T s w0 a w,JC P fn R T s w0->oj s T a->Inv w0 s w->IB a->Q .normal a w/\Q .ret a w):Ol P al fn R (Ei P Q):=by intro k T s w0 h;match k,h with|[],h=>exact λ a w B d C=>(hQ T s w0 a w h B d C).1| .mark J::k,h=>exact λ a w B d C=>⟨T,s,w0,h,B,d,C⟩| .blk id::k,h=>exact λ a w B d C=>h.U B d C| .Eh l J::k,h=>exact λ a w B d C=>h.U B d C| .ops A []::k,h=>exact λ a w B d C=>h.U B d C| .ops A (o::l)::k,h=>intro a w B d C;show wpList P A (Sx P Q k) (o::l) a w;(have yv:∀(v:eQ),(a.put o.dst v).defers=[]:=λ v=>by rw[ZB];exact C);unfold wpList;simp only[JF]at h;rcases Zy h B with⟨L,G,M,U⟩|⟨L,G,M,U⟩;rw[QJ U];refine .N (Rj G iH M d λ v D y N jK m E F i=>?_);obtain⟨t,H,I⟩:=AF m M i E;exact H _ _ I F (yv _);rw[QI (CE U)];obtain⟨t,H,I⟩:=AF (v:=undef) G M (Ext.Y s) QD;exact H _ _ I d (yv _)| .dr A m E F .nil::k,h=>intro a w K Ht _ _ B d C _ _;exact⟨by simpa[Eg]using Ht,rfl,h.U B d C⟩| .dr A m E F (.two i ra j rb)::k,h=>intro a w K Ht Ho dt B d C he hS;simp only[JF]at h;simp only[Eg,mB]at Ht;obtain⟨⟨n,f2,f3,f4⟩,s1,s2⟩:=Ht;have n:nF .any A K=[i,j]:=eq_of_beq n;(have aJ:∀(q:Nat)(r:gm),(match A[q]? with|none=>False|some o=>Hk A o T (λ T=>Jy P al o T s w0 λ x N D=>(∀e,Inv D N e->Inv F E e)/\xC T o.dst x λ t=>Ei P Q (.dr A m E F r::k) t N D) (λ T=>xC T o.dst (.O .un) λ t=>Ei P Q (.dr A m E F r::k) t s w0))->Eg A (rS m) r (K.setIfInBounds q true)=true->rS m q=false->q∈nF .any A K->wpOp P A (λ e a w=>e= .normal/\Sx P Q k .normal a w) q (λ O D=>(rS m q=false->Inv F E w->Inv F E D)/\AnyM P A (λ e a w=>e= .normal/\Sx P Q k .normal a w) (Inv F E) (rS m) r.len (K.setIfInBounds q true) O D) a w:=by intro q r h ZG f S;cases X:A[q]? with|none=>simp[X]at h|some o=>simp only[X]at h;(have aI:∀{t:List SV}{N:St}{jK D:cJ}{O:Act},Ei P Q (.dr A m E F r::k) t N jK->Mt N t O.tmps->Inv jK N D->O.defers=[]->Ext E N->(Inv F E w->Inv F E D)->AnyM P A (λ e a w=>e= .normal/\Sx P Q k .normal a w) (Inv F E) (rS m) r.len (K.setIfInBounds q true) O D:=by intro t N jK D O V h2 h3 h4 h5 h6;refine V O D _ ZG Ho (dt.set S) h2 h3 h4 h5 λ W=>h6 (hS λ c u Ej=>?_);have:=W c u Ej;by_cases Ro:c=q;simp_all;rwa[getD_set_ne false (Ne.S Ro)]at this);(have yv:∀(v:eQ),(a.put o.dst v).defers=[]:=λ v=>by rw[ZB];exact C);refine Rl X h B (λ L p b Y=>?_) λ L hp b Y=>?_;refine Rj p iH b d λ v D y N jK G M U Z=>?_;obtain⟨t,H,I⟩:=AF G.2 b Z M;exact⟨λ _ _=>G.1 D U,aI H I U (yv _) (he.J Z) λ _=>G.1 D U⟩;obtain⟨t,H,I⟩:=AF (v:=undef) hp b (Ext.Y s) QD;grind);refine⟨(RE n),λ q p=>?_⟩;have f:=p;rw[n]at f;simp only[us,xz,or_false]at f;rcases f with rfl|rfl;grind;simp_all| .dr A m E F (.O i f r)::k,h=>intro a w K Ht Ho dt B d C he hS;simp only[JF]at h;simp only[Eg]at Ht;(cases X:A[i]? with|none=>simp[X]at h|some o=>simp only[X]at h Ht;rw[mB]at Ht;obtain⟨z,ZG⟩:=Ht;(have aI:∀{t:List SV}{N:St}{jK D:cJ}{O:Act},Ei P Q (.dr A m E F r::k) t N jK->i∈nF .any A K->Mt N t O.tmps->Inv jK N D->O.defers=[]->Ext E N->(rS m i=false->Inv F E w->Inv F E D)->AnyM P A (λ e a w=>e= .normal/\Sx P Q k .normal a w) (Inv F E) (rS m) r.len (K.setIfInBounds i true) O D:=by intro t N jK D O V S h2 h3 h4 h5 h6;refine V O D _ ZG Ho (dt.set S) h2 h3 h4 h5 λ W=>?_;(have LC:rS m i=false:=by cases p:rS m i with|false=>rfl|true=>have:=W i (Array.getElem?_eq_some_iff.1 X).1 p;obtain⟨qY,_⟩:=Ow.1 S;simp_all);refine h6 LC (hS λ k u Ej=>?_);have:=W k u Ej;by_cases Ro:k=i;simp_all;rwa[getD_set_ne false (Ne.S Ro)]at this);(have yv:∀(v:eQ),(a.put o.dst v).defers=[]:=λ v=>by rw[ZB];exact C);match f,z,h with|0,z,h=>simp only[mB]at z;obtain⟨⟨⟨n,f2⟩,f3⟩,f4⟩:=z;(have S:i∈nF .any A K:=(az n));(have f3:rS m i=false:=(az f3));(have aK:Hj o.op=true->Inv F E w:=λ rR=>hS λ k u Ej=>by rw[rR]at f4;simp only[Bool.not_true,Bool.false_or]at f4;cases p:K.getD k false with|false=>rfl|true=>have:=KD.1 f4 k (Qe.2 u);rw[Ej]at this;exact(ahH dt (by simpa using this) (.I p) (Zx S)).F);(have aM:Hj o.op=true->∀k,rS m k=true->k<A.size->Vn A k i=true:=λ rR k Ej u=>by grind);(have aJ:∃v,YieldsIf P A (λ w=>Hj o.op=true->Inv F E w) o v a/\AnyM P A (λ e a w=>e= .normal/\Sx P Q k .normal a w) (Inv F E) (rS m) r.len (K.setIfInBounds i true) (a.put o.dst v) w:=by (have aP:∀L,(qOp P o (Hm E L) E F λ x=>match fl x with|some _=>xC L o.dst x λ t=>Ei P Q (.dr A m E F r::k) t s w0|none=>False)->Mt s L a.tmps->AT o (yielded A a.tmps)=true->∃v,YieldsIf P A (λ w=>Hj o.op=true->Inv F E w) o v a/\AnyM P A (λ e a w=>e= .normal/\Sx P Q k .normal a w) (Inv F E) (rS m) r.len (K.setIfInBounds i true) (a.put o.dst v) w:=λ L p b Y=>by obtain⟨y,G,M⟩:=ahF p (b.cut he);cases j6:fl y with|none=>simp[j6]at G|some v=>simp only[j6]at G;refine⟨v,.N ⟨Y,λ D aS=>?_⟩,?_⟩;obtain⟨u,u1,u2⟩:=M D aS;rw[<-lA j6 u2];exact u1;obtain⟨u,u1,u2⟩:=M w aK;have e:=lA j6 u2;subst e;let⟨t,H,I⟩:=AF G b (Ext.Y s) (u2.ext he);exact aI H S I d (yv _) he λ _ s=>s);(have u:∀L,(xC L o.dst (.O .un) λ t=>Ei P Q (.dr A m E F r::k) t s w0)->Mt s L a.tmps->AT o (yielded A a.tmps)=false->∃v,YieldsIf P A (λ w=>Hj o.op=true->Inv F E w) o v a/\AnyM P A (λ e a w=>e= .normal/\Sx P Q k .normal a w) (Inv F E) (rS m) r.len (K.setIfInBounds i true) (a.put o.dst v) w:=λ L hp b Y=>by obtain⟨t,H,I⟩:=AF (v:=undef) hp b (Ext.Y s) QD;exact⟨undef,.I ⟨Y,rfl⟩,aI H S I d (yv _) he λ _ s=>s⟩);exact auD X h B aP u);obtain⟨v,G,M⟩:=aJ;exact AnyM.take Ho X dt aM S (λ c a w p=>(aba p)) G aK M|1,z,h=>simp only[mB]at z;obtain⟨⟨n,f2⟩,f3⟩:=z;have n:nF .any A K=[i]:=eq_of_beq n;(have S:i∈nF .any A K:=(CE n));refine AnyM.step n (Rl X h B (λ L p b Y=>?_) λ L hp b Y=>?_);obtain⟨y,G,M⟩:=ahF p b;obtain⟨v,U,Z⟩:=M w λ _=>d;obtain⟨t,H,I⟩:=AF G b (Ext.Y s) Z;unfold Oper.wp;rw[U];exact⟨λ _ s=>s,aI H S I d (yv _) he λ _ s=>s⟩;obtain⟨t,H,I⟩:=AF (v:=undef) hp b (Ext.Y s) QD;grind|2,z,h=>simp only[mB]at z;obtain⟨n,f3⟩:=z;have n:nF .any A K=[i]:=eq_of_beq n;(have S:i∈nF .any A K:=(CE n));refine AnyM.step n (Rl X h B (λ L p b Y=>?_) λ L hp b Y=>?_);refine Rj p iH b d λ v D y N jK G M U Z=>?_;obtain⟨t,H,I⟩:=AF G.2 b Z M;exact⟨λ _ _=>G.1 D U,aI H S I U (yv _) (he.J Z) λ _ _=>G.1 D U⟩;obtain⟨t,H,I⟩:=AF (v:=undef) hp b (Ext.Y s) QD;grind|3,z,h=>simp only[mB]at z;obtain⟨n,f3⟩:=z;have n:nF .any A K=[i]:=eq_of_beq n;(have S:i∈nF .any A K:=(CE n));refine AnyM.step n (Rl X h B (λ L p b Y=>?_) λ L hp b Y=>?_);refine Rj p iH b d λ v D y N jK G M U Z=>?_;obtain⟨t,H,I⟩:=AF G b Z M;exact⟨oP,aI H S I U (yv _) (he.J Z) oP⟩;obtain⟨t,H,I⟩:=AF (v:=undef) hp b (Ext.Y s) QD;grind|4,z,h=>simp only[mB]at z;obtain⟨⟨n,f2⟩,f3⟩:=z;have n:nF .any A K=[i]:=eq_of_beq n;(have S:i∈nF .any A K:=(CE n));refine AnyM.step n (Rl X h B (λ L p b Y=>?_) λ L hp b Y=>?_);(have u:o.wp P a w (λ O D=>∀W:Inv F E w->Inv F E D,AnyM P A (λ e a w=>e= .normal/\Sx P Q k .normal a w) (Inv F E) (rS m) r.len (K.setIfInBounds i true) O D) (λ e a w=>e= .normal/\Sx P Q k .normal a w):=by refine Rj p iH b d λ v D y N jK G M U Z=>?_;intro W;obtain⟨t,H,I⟩:=AF G b Z M;exact aI H S I U (yv _) (he.J Z) λ _=>W);refine Oper.wp_mono (λ O D M=>?_) (auC f2 (Inv F E) (λ G v=>v.alloc_old G) u);simp_all;obtain⟨t,H,I⟩:=AF (v:=undef) hp b (Ext.Y s) QD;exact⟨λ _ s=>s,aI H S I d (yv _) he λ _ s=>s⟩|n+5,z,h=>simp at z)| .code c::k,h=>intro a w B d C;show c.wp P (Sx P Q k) a w;cases c with|skip=>exact wp_skip (h.U B d C)|label l=>exact wp_label (h.U B d C)|region id A G=>(cases G with|false=>exact wp_region_list (h a w B d C)|true=>obtain⟨L,H,V,h2⟩:=h;rw[tM]at h2;rw[mB,mB]at V;obtain⟨h3,h4,h5⟩:=V;(have dt:JE A (Array.replicate A.size false):=λ k o _ t=>by rw[xi,Array.getElem?_replicate]at t;split at t<;>simp at t);have t:Inv w0 s w.drew:=⟨d.os,d.tape,d.output,d.size,d.Q,d.I,d.apart⟩;have I:=h2 a w.drew (Array.replicate A.size false) h5 h3 dt B t C (λ j b W=>(ahQ L s 0 j b).1 W) λ _=>t.mask L;rw[eq_of_beq h4]at I;exact wp_mono (wp_region_any aL I.any) λ e a w ⟨M,U⟩=>by subst M;exact U)|seq x y=>exact wp_seq (h a w B d C)|cond t x y=>(have I:∀{t:Tmp}{b:Bool},a.tmps.getD t undef=b->Mt s (xA T t (.O (.kb b))) a.tmps:=λ{t b}e=>by refine⟨by rw[N7];exact B.1,λ i=>?_⟩;rw[Lt];split;rename_i L;obtain⟨rfl,_⟩:=L;rw[e];rfl;exact B.2 i);simp only[JF]at h;split at h;(·rename_i t;have L:=B.2 t;split at h;rename_i p;rw[p]at L;exact wp_cond_true (show a.eval (.tmp t)= .bool true from L) (h a w B d C);rename_i p;rw[p]at L;exact wp_cond_false (show a.eval (.tmp t)= .bool false from L) (h a w B d C);(·rename_i b p;rw[p]at L;have L:a.tmps.getD t undef=b:=L;cases b with|true=>have V:=h.1 rfl;rw[Ra]at V;exact wp_cond_true (show a.eval (.tmp t)= .bool true from L) (V a w (I L) d C)|false=>have V:=h.2 rfl;rw[Ra]at V;exact wp_cond_false (show a.eval (.tmp t)= .bool false from L) (V a w (I L) d C));exact h.F);exact wp_cond_true rfl (h a w B d C);exact wp_cond_false rfl (h a w B d C);exact h.F|block id x=>exact wp_block (h a w B d C)|loop x=>obtain⟨X,I,L,G,M,U,V⟩:=h;obtain⟨i,S,Y,Z⟩:=U w d;have p:=auS Z;have H:=B.lU (writes x);refine wp_loop_ghost (λ i a w=>G i w/\Mt (wx (L i) s) (CO (lU (writes x) T 0) (I i)) a.tmps/\Inv w (wx (L i) s) w/\a.defers=[]) M ?_ (i:=i) ⟨S,?_,?_,C⟩;(·rintro i a w ⟨N,K,n,b⟩;have v:=V i w N;simp only[tM,FB]at v;refine wp_mono (v a w K n b) λ e O D q=>?_;cases e with|normal=>exact By.on (s0:=s) (T0:=T) H q|_=>exact q);rw[p];exact Mt.ahN (I i) H B Y;rw[p];exact d.ahP|exit id=>simp only[JF]at h;split at h;rename_i p W;exact wp_exit (auN W (h.U B d C));exact h.F|goto l=>simp only[JF]at h;split at h;rename_i J W;exact wp_goto (auO W ⟨T,s,w0,h,B,d,C⟩);exact h.F|ret=>simp only[JF]at h;split at h;rename_i W;exact wp_ret (auP W (hQ T s w0 a w h B d C).2);exact h.F|rangeFunc f p x y=>exact h.F|scope x=>obtain⟨l,S,X,I,L,G,M,j6,U,V⟩:=h;have H:=B.lU (writes x);refine auQ l (λ i a w=>G i w/\Mt (wx (L i) s) (CO (lU (writes x) T 0) (I i)) a.tmps/\Inv w (wx (L i) s) w/\a.defers=[]) M j6 ?_ ?_;(·refine wp_mono (U a w B d C) λ e O D q=>?_;cases e with|goto J=>exact⟨q.1,let⟨W,p,_⟩:=By.on (s0:=s) (T0:=T) H q.2;⟨W,p⟩⟩|_=>exact q);·rintro i a w ⟨N,K,n,b⟩;have v:=V i w N;simp only[tM,FB]at v;refine wp_mono (v a w K n b) λ e O D q=>?_;(cases e with|goto J=>exact⟨q.1,By.on (s0:=s) (T0:=T) H q.2⟩|_=>exact q)|refuse y=>exact h.F
def vc(m:Jp al P)(n:I3 P){f b c j w R}(o:P.funcs[f]?=some b)(p:b.body=some c)(l s)(r:AM s l j)(t:Inv w s w)(h:∀C:Cc,Ol P al b R C->Bx (l++JD (b.ntmps-l)) λ T=>C [.code c] T s w):eE P f j w R:=by have u:∀T s i a w,JC P b R T s i->Mt s T _->Inv i s w->a.defers=[]->bodyPost P b R .normal a w/\bodyPost P b R .ret a w:=λ T s i a w d e q k=>⟨⟨k,Oi d e q⟩,⟨k,Oi d e q⟩⟩;have d:=h _ (Rn m n u);rw[FB]at d;let⟨k,v⟩:=r.at;refine calls_of_wp o p (wp_mono (d _ w ?_ t rfl) λ e a w q=>by cases e<;>exact q);refine⟨by simp[ZF];omega,λ i=>?_⟩;rw[ZD];split;rename_i a;have:=v i a;rw[List.getD_eq_getElem?_getD]at this;rw[xi,Array.getElem?_append_left (by simpa[<-k]using a)];simpa using this;rw[ZE];trivial
def br(d:Jp al P)(e:I3 P){f a c}{b:List eQ}{w R}(i:P.funcs[f]?=some a)(j:a.body=some c)(h:∀C:Cc,Ol P al a R C->Bx (b.map (λ v=> .O (.v v))++JD (a.ntmps-b)) λ T=>C [.code c] T [] w):eE P f b w R:=vc d e i j _ [] (AM.vals [] b) aav (az h)
end
end
end Go.Proofs.YtinijkiakbbokaaGreat
