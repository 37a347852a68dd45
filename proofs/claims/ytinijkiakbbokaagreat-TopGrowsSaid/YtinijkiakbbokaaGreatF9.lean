/- A part of the proof of TopGrows. No conditions. -/
import Derived.Test.YtinijkiakbbokaaGreatF8
set_option linter.all false
set_option maxRecDepth 1000000
set_option maxHeartbeats 16000000
namespace Go.Proofs.YtinijkiakbbokaaGreat
open Go.Proofs.YtinijkiakbbokaaGreat _root_.Go.RowKit Go.Proofs.Tryz
open Go.Proofs.Tryz renaming prog->am,f4->OO
open _root_.Go.RowKit renaming Below->bi
open _root_.Go renaming World->cJ,Calls->eE,Value->eQ,block_lt_of_cell->uK,TypeId->zo
open _root_.List renaming replicate->eM,length_cons->pn,append_assoc->pB,range->sD,map_cons->tj,mem_cons->us,flatMap_cons->vL,ext_getElem?->wj,take_length->wy,mem_append->wH,eq_nil_of_length_eq_zero->wI,nil_append->xe,drop_eq_getElem_cons->xg,not_mem_nil->xz,cons_append->xD,map_nil->AC,length_nil->CX,map_append->EF,foldl_cons->EQ,length->Pb,any_eq_false->Qf
open _root_.Nat renaming zero_le->fy,le_refl->kg,le_trans->lI,zero_add->KW,mul_one->Qg
open Bool renaming and_eq_true->mB,not_eq_true'->Ot
open Go.Value renaming bool->Ox,string->OW
open Int renaming toNat_natCast->ux,le_refl->Pm
open Option.some renaming inj->AI,injEq->BY
open _root_.Go.Lib renaming allEq->CI
open Go.Addr renaming add_lit->Hq
open Go.Addr.mk renaming injEq->KH
open Go.DataW renaming trod->Ls
def Mw{h a}(b:∀x y,a x y=true->x=y):∀l m:List h,CI a l m=true->l=m|[],[],_=>rfl|[],_::_,h=>by simp[CI]at h|_::_,[],h=>by simp[CI]at h|x::l,y::m,h=>by simp only[CI,mB]at h;rw[b x y h.1,Mw b l m h.2]
def azd{x y}(h:JH x y=true):x=y:=by obtain⟨a,b,c,d,e,f⟩:=x;obtain⟨b,a,c,d,e,f⟩:=y;simp only[JH,mB,beq_iff_eq]at h;obtain⟨rfl,rfl,rfl,rfl,a,b⟩:=h;rw[Mw (λ x y h=>(az h)) _ _ a,Mw (λ x y h=>by obtain⟨p,q⟩:=x;obtain⟨x,a⟩:=y;simp[isEq]at h;rw[h.1,h.2]) _ _ b]
def akX{x y}(h:yz x y=true):x=y:=by obtain⟨a,b,c⟩:=x;obtain⟨x,a,b⟩:=y;simp only[yz,mB,beq_iff_eq,FV,aiy,CI,Bool.and_true]at h;obtain⟨rfl,rfl,h⟩:=h;rw[azd h]
def akY{x y}(h:LI x y=true):x=y:=by obtain⟨a,b,⟨c,d⟩,⟨e,f⟩⟩:=x;obtain⟨x,a,⟨b,c⟩,⟨d,e⟩⟩:=y;simp only[LI,mB,beq_iff_eq]at h;grind
def aze(l:List En)(a)(h:M2 l)(b:∀x∈l,a<=j9 x/\j9 x<512)(c:a<=512):l.length<=512-a:=by induction l generalizing a with|nil=>simp;omega|cons x l y=>rw[List.pairwise_cons]at h;have l:=b x (by simp);have:=y (j9 x+1) h.2 oV oo;grind
structure Aa(T:gq):Prop where
 n:(T.map (·.1)).Nodup
 o:∀p∈T,gv p.1∧ru p.2.1=true∧ru p.2.2=true
def Aa.set{T}(h:Aa T)(n k c):Aa (rv T n k c).1:=by
 unfold rv;split;rename_i d;simp only[mB,H5,decide_eq_true_eq]at d;split;exact⟨(h.n.sublist (List.Sublist.map _ List.filter_sublist)),λ p d=>h.o p (List.mem_filter.1 d).1⟩;unfold sd;split;refine⟨?_,λ p d=>?_⟩;have e:(T.map λ p=>if p.1=(n,k)then((n,k),c)else p).map (·.1)=T.map (·.1):=by rw[List.map_map];apply List.map_congr_left;grind
 show(List.map _ (List.map _ T)).Nodup;rw[e];exact h.n;obtain⟨q,T,rfl⟩:=(sj d);split;assumption;exact h.o q T;rename_i T;simp only[List.any_eq_true,decide_eq_true_eq,not_exists,not_and]at T;refine⟨?_,λ p d=>?_⟩;rw[EF,List.nodup_append];refine⟨h.n,by simp,λ a T b q e=>?_⟩;grind;rcases (lG d) with d|d;exact h.o p d;simp at d;subst d;assumption;exact h
def Aa.new(l){T}(h:Aa T):Aa (jV l T).1:=by induction l generalizing T with|nil=>exact h|cons x l a=>unfold jV;split;exact a (h.set ..);exact h.set ..
def Aa.cY{T}(h:Aa T):(mF T).length<=512/\∀x∈mF T,KI x/\ru x.c0=true/\ru x.c1=true:=by
 have c:∀x∈mF T,gv (x.node,x.key)/\ru x.c0=true/\ru x.c1=true:=λ x a=>by have y:=(BO _).mem_iff.1 a;obtain⟨p,b,rfl⟩:=(sj y);exact h.o p b
 refine⟨?_,c⟩;have d:(mF T).Pairwise _:=aaj (VV _) (((BO _).map j9).nodup_iff.2 (aal h.n λ p b=>(h.o p b).1));have:=aze _ 0 d (λ x a=>by have:=(c x a).1;unfold gv at this;simp only at this;unfold j9;omega) oo;omega
def Pg{v}(h:ru v=true):Jg v.re/\Jg v.im:=by have:=(Vy _ _).1 h;omega
def abC{x l}(c:M6 l)(d:x∈l)(g:x.ur.length=8):Io 1 x:=by
 have h:=c x d;have i:=R8 h;simp only[qH,mB,Ot,Qf]at h;obtain⟨⟨⟨_,a⟩,j⟩,k⟩:=h;have b:∀f∈x.bA,0<=f/\f<=7:=λ f b=>by have:=k f b;unfold BK at this;cases e:gn l f with|none=>rw[e]at this;simp at this|some m=>have p:=List.mem_of_find?_eq_some e;have n:=List.find?_some e;simp at n;have:=R8 (c m p);omega
 simp only[BJ,mB,decide_eq_true_eq,Ot,Qf,Es,Bool.or_eq_true,not_or]at j;unfold kindOk at a;refine⟨i,?_,⟨?_,b⟩,?_,oo,g,oV⟩;grind;grind;have m:∀p:List Is,p.length=0->qF p=true:=λ p e=>by rw[List.length_eq_zero_iff.1 e];rfl
 split at a;grind;split at a;simp only[mB]at a;have:=a.2;unfold iO at this;grind;grind
def Sv(x:En):List UInt8:=jO (Nn x)
def Sw(x:Ln):List UInt8:=jO (NE x)
def azf(x l)(e:KI x)(b:ru x.c0=true)(c:ru x.c1=true):rE (Sv x++l,0)=(x,(l,0)):=by
 unfold gv at e;simp only at e;have a:=Pg b;have b:=Pg c;have e:Sv x++l=eT x.node++(eT x.key++(eT x.c0.re++(eT x.c0.im++(eT x.c1.re++(eT x.c1.im++l))))):=by exact oK
 rw[e];unfold rE;simp only[xP (lo:=0) (hi:=7) (n:=x.node) oo oo oo oo,xP (lo:=0) (hi:=63) (n:=x.key) oo oo oo oo,aaI _ _ a.1 a.2,aaI _ _ b.1 b.2]
def azg(x l)(h:wD x=true):BS (Sw x++l,0)=(x,(l,0)):=by
 simp only[wD,ma,mB,decide_eq_true_eq]at h;obtain⟨a,b,c,e⟩:=h;have h:=Pg e;have e:Sw x++l=eT x.sink++(eT x.bA++(eT x.key++(eT x.val.re++(eT x.val.im++l)))):=by exact oK
 rw[e];unfold BS;simp only[xP (lo:=0) (hi:=7) (n:=x.sink) oo oo oo oo,xP (lo:=0) (hi:=7) (n:=x.bA) oo oo oo oo,xP (lo:=0) (hi:=63) (n:=x.key) oo oo oo oo,aaI _ _ h.1 h.2]
def akZ{c}{r:RS->c×RS}{b}(a)(l)(h:∀x∈a,∀l,r (b x++l,0)=(x,(l,0))):nM r a.length (a.flatMap b++l,0)=(a,(l,0)):=by induction a with|nil=>rfl|cons x a d=>rw[vL,pB,pn];unfold nM;grind
def ak0{c:Type}{f}{b}(a:List c)(l:List UInt8)(h:∀x∈a,∀l,f l x=l++b x):a.foldl f l=l++a.flatMap b:=by induction a generalizing l with|nil=>simp|cons x a d=>grind
def azh(h t):(sZ h t).1.bA.length<=3/\(sZ h t).1.prog.length<=24/\(sZ h t).1.ur.length=8:=by refine⟨?_,?_,?_⟩;show(rL ..).1.length<=_;rw[Rs];rcases El (lo:=0) (hi:=3) (t:=(rN 0 2 (rN 0 7 t).2).2)with h|h<;>omega;show(rP _).1.length<=_;unfold rP wu;split;split;rename_i h;have:=NU h;refine lI (Z3 ..) ?_;simp;omega;simp;simp;exact oK
def Sy(n t):Kc ((uU n t).1):=by induction n generalizing t with|zero=>intro x a;simp[uU]at a|succ n b=>intro x a;simp only[uU,us]at a;rcases a with rfl|a;exact azh ..;exact b _ x a
def ak1(l:List Sp)(d)(h:Kc l):(l.foldl BN d)<=d+l.length*300:=by induction l generalizing d with|nil=>simp|cons x l e=>have f:=e (BN d x) λ y a=>h y (qg a);have g:=OG (wN d [(ew x).kind,if(ew x).reset then 1 else 0]) (ew x).node;have y:=nK d [(ew x).kind,if(ew x).reset then 1 else 0];obtain⟨a,b,c⟩:=h x (by simp);(have i:(ew x).node.bA.length<=3/\(ew x).node.prog.length<=24:=by unfold ew;split;exact⟨by simp,b⟩;split;exact⟨a,b⟩;split;grind;split;grind;grind);have j:=aiJ x c;rw[EQ,pn];simp only[pn,CX]at y;have:BN d x=td _ _:=rfl;rw[this]at f⊢;omega
def Sz(l a):l<=(wN l a).length:=by unfold wN;split<;>simp
def azi(l x):l<=(td l x).length:=by unfold td;simp only;refine lI (lI (lI (lI (Sz l [x.id,x.kind,x.bA.length]) (Sz _ x.bA)) ?_) (Sz ..)) (Sz ..);split<;>simp
def azj(l:List Sp)(a):a<=(l.foldl BN a).length:=by induction l generalizing a with|nil=>simp|cons x l b=>exact lI (lI (Sz ..) (azi ..)) (b _)
def azk(p l)(h:FX p=true):CY (eT (if 0<p.length then pK [] p else[]).length++((if 0<p.length then pK [] p else[])++l),0)=(p,(l,0)):=by unfold FX at h;by_cases i:p.length=0;have e:p=[]:=oV;subst e;have:=ajt 8000 [] l (by simp) oo;have b:(if 0<([]:List Sp).length then pK [] []else[])=([]):=rfl;rw[b];unfold CY;simp only[this];rfl;·rw[QI i]at h;have b:(if 0<p.length then pK [] p else[])=pK [] p:=QJ oo;rw[b];(have a:(xI p).2=0:=by grind);rw[QI (az a)]at h;unfold xI at h a;split at a;simp at a;rename_i j;rw[QI j]at h;split at a;simp at a;rename_i c;rw[QI c]at h;simp only[not_or,Decidable.not_not]at c;simp only at h;have f:=Mw (λ _ _=>akX) _ _ h;(have k:∀x∈p,x.node.bA.length<=3/\x.node.prog.length<=24/\x.node.ur.length=8:=by rw[f];unfold mS;split;exact Sy _ _;·intro x d;cases d);(have d:wN [] [p.length]=eT p.length:=by rw[EE oV];simp[jO]);have g:(eT p.length).length=4:=rfl;(have n:(pK [] p).length<=8000:=by have:=ak1 p (wN [] [p.length]) k;rw[d,g]at this;unfold pK;rw[d];omega);(have m:pK [] p≠[]:=by have:=azj p (wN [] [p.length]);rw[d,g]at this;intro e;unfold pK at e;grind);unfold CY;simp only[ajt 8000 (pK [] p) l oo oo,RC,QI m,c.1,<-f]
def ak2{m}(h:lC m=true)(o:LG m.graph):J5 (tV m)=(m,0):=by
 have p:=h;unfold lC at h;simp only[mB,decide_eq_true_eq,ma,Ot,Qf,Bool.not_eq_false]at h;obtain⟨⟨q,r,i,f,C⟩,s,t,D,j,E⟩:=h;obtain⟨k,u,F,v,G⟩:=qn i;have g:∀x∈m.graph,Io 1 x:=λ x d=>abC u d (o x d);have H:m.cZ.length<=3:=by obtain⟨z,n,l⟩:=(sj v);cases e:gn _ 0 with|none=>have:=List.find?_eq_none.1 e z n;simp[l]at this|some y=>rw[e]at t;have:=(g y (List.mem_of_find?_eq_some e)).par;grind
 simp only[EA,mB,decide_eq_true_eq]at j;have y:=Mw (λ _ _=>akY) _ _ j.2.1;have z:=(Aa.new m.cY (T:=[]) Fm).cY;rw[y]at z;have w:∀n∈m.cZ,0<=n/\n<=400:=oJ;have e:∀x∈m.U,wD x=true:=oJ;have A:∀x∈m.cY,∀l,Gd l x=l++Sv x:=λ x d l=>by obtain⟨a,b,c⟩:=z.2 x d;have B:=Pg b;have I:=Pg c;unfold gv at a;simp only at a;exact EE oV l
 have b:∀x∈m.U,∀l,J4 l x=l++Sw x:=λ x d l=>by have:=e x d;simp only[wD,ma,mB,decide_eq_true_eq]at this;obtain⟨q,r,i,f⟩:=this;have B:=Pg f;exact EE oV l
 have a:∀(n:Nat)(l:List _),n<=5000->wN l [n]=l++eT n:=λ n l B=>by rw[EE oV];simp[jO]
 have B:tV m=eT m.dh++(eT m.kC++(eT m.cZ.length++(jO m.cZ++(R1 m.graph++(eT m.cY.length++(m.cY.flatMap Sv++(eT m.U.length++(m.U.flatMap Sw++(eT (Dh m).length++(Dh m++[])))))))))):=by unfold tV O0 EK;rw[EE (ns:=[m.dh,m.kC,m.cZ.length]) oV,EE (ns:=m.cZ) oV,axm _ _ g (V4 f) k,a _ _ oo,ak0 _ _ A,a _ _ oo,ak0 _ _ b];simp[jO]
 have c:getM (tV m)=(m,([],0)):=by rw[B];unfold getM;simp only;rw[xP oo oo oo oo];simp only;rw[xP oo oo oo oo];simp only;rw[ajr oo oo oo _ _ w oo];simp only;rw[axk _ _ g k];simp only;rw[xP oo oo oo oo];simp only[ux];rw[akZ _ _ λ x d l=>azf x l (z.2 x d).1 (z.2 x d).2.1 (z.2 x d).2.2];simp only;rw[xP oo oo oo oo];simp only[ux];rw[akZ _ _ λ x d l=>azg x l (e x d)];simp only;unfold Dh;rw[azk _ [] s]
 unfold J5;rw[c];simp[AH,p]
namespace D
def aHP(o)(cap)(l)(w)(h:TU w o l)(B:l.length<=1000000):eE am 180 #[f7 o l cap] w λ e d=>∃f i,ea e (.slice f l i)/\Sl d w 9 1 (f7 f l i) l (strCells l)/\bi w w d:=by
 have q:∀(d:cJ)(m:eQ),d.ownsRow w 9 1 m l (l.map OW)->∃f i,m= .slice f l i/\Sl d w 9 1 (.slice f l i) l (strCells l):=by intro d m n;(have x:Sl d w 9 1 m l (strCells l):=by refine⟨by rw[strCells_length];omega,?_⟩;obtain a|⟨g,c,k,p,b,j,r,y,t,u⟩:=n.2;exact .N a;exact .I ⟨g,0,c,k,p,b,j,r,y,oo,by assumption⟩);obtain⟨f,i,rfl,_,_⟩:=x.E;exact oK
 cases o with|none=>(have g:l=[]:=by cases l with|nil=>rfl|cons x l=>obtain⟨_,_,e,_⟩:=h 0 x rfl;cases e);subst g;refine(Tryz.slices_Clone_string_nil 0 cap w).M λ e d ⟨k,c⟩=>?_;subst c;exact⟨none,0,k,lg,bi.refl ..⟩|some a=>by_cases g:l.length=0;have t:=wI g;subst t;refine(Tryz.slices_Clone_string_zero a cap w).M λ e d ⟨m,k,n,_,c⟩=>?_;obtain⟨f,i,rfl,p⟩:=q d m n;exact⟨f,i,k,p,c⟩;obtain⟨x,u⟩:∃x,l[0]?=some x:=⟨_,List.getElem?_eq_getElem (by omega)⟩;obtain⟨b,v,e,_⟩:=h 0 x u;simp at e;subst e;refine(Tryz.slices_Clone_string b v l.length cap l w (kg _) oo (λ j z=>?_)).M λ e d ⟨m,k,n,_,c⟩=>?_;obtain⟨y,r⟩:∃y,l[j]?=some y:=(eB z);obtain⟨C,D,s,A⟩:=h j y r;simp only[BY,KH]at s;obtain⟨rfl,rfl,-⟩:=s;rw[List.getD_eq_getElem?_getD,r];exact A;rw[wy]at n;obtain⟨f,i,rfl,p⟩:=q d m n;exact⟨f,i,k,p,c⟩
def aqn(a j l F w)(h:iU w F a j l)(m:l.length<=1000000):eE am 101 #[a] w λ e b=>∃c d,ea e (.slice c l d)/\Sl b w 9 1 (f7 c l d) l (strCells l)/\bi w w b:=by obtain⟨f,g,_,_,k,o⟩:=h.cells;have p:w.cell? ⟨a,1,none⟩=some (.slice f l g):=aO k rfl;have i:=Lib.H (aHP f g l w o.strs m);obtain⟨n,q⟩:∃n,l.length=n:=ax;rw[q]at i p⊢;go_enter func101,ntmps101;go_wp2_with fail;refine i.U.M ?_;rintro e b ⟨c,d,rfl,r,k⟩;have s:=Lib.H r;have t:=Lib.H k;exact mZ
end D
section
open _root_.Go.ChangeShapes _root_.Go.WideShapes _root_.Go.ChangeAt _root_.Go.RowKit _root_.Go.Deep
def Q7(b:Bool):List eQ:=[b]
abbrev N2(w)(F):=bS w F 1 (Flat Q7)
structure Ev where
 k:Int
 n:Int
 m:Int
 l:List Rc
 p:List Sp
 s:ByteArray
 V:List Bool
 cut:Int
structure Jv(x:Ev):Prop where
 l:x.l.length≤20
 s:x.s.size≤2000
 V:x.V.length≤60
 pl:x.p.length≤20
 p:∀y∈x.p,y.node.prog.length≤60∧y.node.bA.length≤20
 m:x.m≤200
def Hg(w:cJ)(F:Nat->Prop)(x:Ev)(d:List eQ):Prop:=∃a b c,d=[.int .i64 x.k,.int .i64 x.n,.int .i64 x.m,a,b,.string x.s,c,.int .i64 x.cut]/\Bm w F a x.l/\gP w F b x.p/\N2 w F c x.V/\Je x.n/\Je x.m
abbrev CM(w)(F):=bS w F 8 (Hg w F)
def Hg.keeps{w w' F x c}(h:Hg w F x c)(a:∀b,F b->b<w->cm w' b=w.heap[b]?):Hg w' F x c:=by obtain⟨c,x,F,b,d,e,f,g⟩:=h;exact⟨c,x,F,b,d.di a,e.V a,f.di a,g⟩
def Hg.M{w F G x a}(h:Hg w F x a)(c:oF w F G):Hg w G x a:=by obtain⟨a,x,b,F,d,e,f,g⟩:=h;exact⟨a,x,b,F,d.M c aH,e.M c,f.M c aH,g⟩
def CM.V{w w' F v l}(h:CM w F v l)(c:∀b,F b->b<w->cm w' b=w.heap[b]?):CM w' F v l:=bS.V h c λ _ _ _ a=>a.keeps c
section
variable {H:Type} {enc:zo×eQ→H} {W:cJ}
abbrev Jw(W:cJ)(b:Nat):Prop:=b<W
def Lr{o}(R){k}(hk:0<k){t e E c y}(F:am.underlying t=some (.slice e))(C:am.cellsOf e=k)(G:∀(n)(r)(y),Ls enc am W 0 (λ _=>true) true n e r=some y->∃a:o,R a r/\hJ r)(h:Ls enc am W 0 (λ _=>true) true E t [c]=some y):∃l:List o,bS W (Jw W) k R c l:=by
 rcases open_slice F h with⟨p,q⟩|⟨a,d,aI,m,n,D,I,p,_,hl,w,z,q,J⟩;simp at p;subst p;exact⟨[],kO⟩;simp at p;subst p;simp at z;subst z;have s:∀i,i<d->∃x:o×List _,R x.1 x.2/\(∀u∈x.2,u.oneCell'=true)/\x.2=k/\∀j u,x.2[j]?=some u->W.cell? ((a.add (i*k)).add j)=some u:=by intro i g;obtain⟨b,A,f⟩:=J i oo;obtain⟨_,v,B⟩:=cJ.cells?_some A;obtain⟨x,K,L⟩:=G n b _ f;rw[C]at B v;refine⟨(x,b),K,L,v,λ j u l=>?_⟩;grind
 by_cases K:d=0;subst K;exact⟨[],a,m,[],rfl,fy _,w,rfl,by simp,λ j u l=>(aba l)⟩;obtain⟨b,v,L⟩:=a;obtain⟨A,_,_,aJ,M⟩:=s 0 oo;obtain⟨N,O⟩:∃u,A.2[0]?=some u:=mj;have P:L=none:=cJ.cell?_spot (by simpa[Addr.add]using M 0 N O);subst P;have Q:∃f:Nat->o×List _,∀i,i<d->R (f i).1 (f i).2/\(∀u∈(f i).2,u.oneCell'=true)/\(f i).2=k/\∀j u,(f i).2[j]?=some u->W.cell? (((⟨b,v,none⟩:Addr).add (i*k)).add j)=some u:=by refine⟨λ i=>if h:i<d then(s i h).choose else A,λ i g=>?_⟩;simp only[g,dif_pos];exact(s i g).choose_spec
 obtain⟨f,S⟩:=Q;obtain⟨T,U,V,B⟩:=ar6 (l:=(sD d).map _) λ i x q=>by (have g:i<d:=by grind);rw[List.getElem?_map,List.getElem?_range g]at q;obtain rfl:=(AI q).S;obtain⟨X,Y,Z,q4⟩:=S i g;refine⟨_,Z,X,Y,λ j u l=>?_⟩;have:=q4 j u l;rw[Hq,Hq]at this;exact this
 exact⟨_,_,m,T,by grind,by grind,w,U,V,λ j u l=>⟨b,v,rfl,uK (B j u l),B j u l⟩⟩
def rdI(n b y)(h:Ls enc am W 0 (λ _=>true) true n 3 b=some y):∃a:Int,Flat iC a b/\hJ b:=by obtain⟨n,b,_,y⟩:=DataW.trod_int YH h;subst b;exact⟨n,rfl,uf⟩
def rdB(n b y)(h:Ls enc am W 0 (λ _=>true) true n 4 b=some y):∃a:Bool,Flat Q7 a b/\hJ b:=by obtain⟨b,y,_⟩:=DataW.trod_bool kk h;subst y;exact⟨b,rfl,uf⟩
def rf:am.cellsOf 3=1:=kk
def ahh:am.cellsOf 4=1:=kk
def ahi:am.cellsOf 9=1:=kk
def atX:am.cellsOf 37=1:=kk
def ahj:am.cellsOf 29=1:=kk
def atY:am.cellsOf 128=2:=kk
def ahk:am.cellsOf 137=3:=kk
def ahl:am.cellsOf 158=2:=kk
def U5:am.cellsOf 41=13:=kk
def ahm:am.cellsOf 52=15:=kk
def ahn:am.cellsOf 33=8:=kk
def atZ:am.cellsOf 31=2:=kk
def at0:am.cellsOf 38=1:=kk
def U6:am.cellsOf 23=1:=kk
def Zc:am.cellsOf 28=1:=kk
def aho:am.cellsOf 39=8:=kk
def at2(n b c y)(h:Ls enc am W 0 (λ _=>true) true n 128 [b,c]=some y):∃a:Vl,[b,c]=vC a:=by obtain⟨d,n,_,i,j,e,a⟩:=DataW.trod_struct underlying128 h;match d,e with|[k,l],_=>obtain⟨f,rfl,_⟩:=Av (by simpa[rf]using a 0 _ rfl) rfl;obtain⟨g,rfl,_⟩:=Av (by simpa[rf]using a 1 _ rfl) rfl;exact⟨⟨f,g⟩,rfl⟩
def at3(n b y)(h:Ls enc am W 0 (λ _=>true) true n 137 b=some y):∃a:Rc,Flat kK a b/\hJ b:=by obtain⟨d,n,_,k,u,e,c⟩:=DataW.trod_struct underlying137 h;rw[ahk]at u;match b,u with|[l,f,g],_=>match d,e with|[m,i],_=>obtain⟨j,rfl,_⟩:=Av (by simpa[rf]using c 0 _ rfl) rfl;let⟨v,a⟩:=at2 n f g i (by simpa[rf,atY]using c 1 _ rfl);unfold vC at a;simp at a;obtain⟨rfl,rfl⟩:=a;exact⟨⟨j,v⟩,rfl,uf⟩
def at4(n b y)(h:Ls enc am W 0 (λ _=>true) true n 158 b=some y):∃a:Is,Flat wm a b/\hJ b:=by obtain⟨u,n,_,d,y,c,a⟩:=DataW.trod_struct underlying158 h;rw[ahl]at y;match b,y with|[b,h],_=>match u,c with|[b,h],_=>obtain⟨b,rfl,_⟩:=Av (by simpa[rf]using a 0 _ rfl) rfl;obtain⟨h,rfl,_⟩:=Av (by simpa[rf]using a 1 _ rfl) rfl;exact⟨⟨b,h⟩,rfl,uf⟩
def rd8(n a y)(h:Ls enc am W 0 (λ _=>true) true n 39 a=some y):∃l:List Int,a=l.map (.int .i64)/\l.length=8:=by
 obtain⟨c,m,_,_,d,j,e⟩:=DataW.trod_array underlying39 h;rw[aho]at d;have k:∀i,i<8->∃z:Int,a[i]?=_:=λ i b=>by obtain⟨x,v⟩:∃x,c[i]?=some x:=oV;have l:=e i b;rw[v,rf,Qg]at l;obtain⟨u,f⟩:∃u,a[i]?=some u:=mj;(have:(a.drop i).take 1=[u]:=by rw[xg oo];grind);rw[this]at l;obtain⟨z,g,_⟩:=Av l rfl;exact⟨z,by rw[f,g]⟩
 refine⟨a.map λ v=>match v with| .int _ z=>z|_=>0,?_,by grind⟩;apply wj;intro i;rw[List.map_map,List.getElem?_map];by_cases b:i<8;grind;grind
def ahp(n b y)(h:Ls enc am W 0 (λ _=>true) true n 41 b=some y):∃a:Nd,fw W (Jw W) a b/\hJ b:=by obtain⟨s,n,_,E,d,t,a⟩:=DataW.trod_struct underlying41 h;rw[U5]at d;match b,d with|[F,G,u,c,I,e,f,g,i,j,k,l,m],_=>match s,t with|[J,K,L,M,N,v],_=>obtain⟨o,rfl,_⟩:=Av (by simpa[rf]using a 0 _ rfl) rfl;obtain⟨p,rfl,_⟩:=Av (by simpa[rf]using a 1 _ rfl) rfl;obtain⟨w,x⟩:=Lr (Flat iC) dd (c:=u) (kk:am.underlying 37=some (.slice 3)) rf rdI (by simpa[rf,atX]using a 2 _ rfl);obtain⟨z,A⟩:=Lr (Flat wm) dd (c:=c) (kk:am.underlying 38=some (.slice 158)) ahl at4 (by simpa[rf,at0]using a 3 _ rfl);obtain⟨q,rfl,_⟩:=Av (by simpa[rf]using a 4 _ rfl) rfl;let⟨B,C,D⟩:=rd8 n [e,f,g,i,j,k,l,m] v (by simpa[rf,aho]using a 5 _ rfl);have r:fw W (Jw W) ⟨o,p,w,z,q,B⟩ [o,p,u,c,q,e,f,g,i,j,k,l,m]:=⟨u,c,by unfold ij;rw[<-C],D,x,A⟩;exact⟨_,r,r.O⟩
def at8(n e y)(h:Ls enc am W 0 (λ _=>true) true n 52 e=some y):∃a:Sp,nu W (Jw W) a e/\hJ e:=by obtain⟨z,n,_,I,i,A,f⟩:=DataW.trod_struct underlying52 h;rw[ahm]at i;match e,i with|[c,j,k,l,m,o,p,q,r,s,t,v,w,x,d],_=>match z,A with|[J,B,C],_=>obtain⟨D,rfl,_⟩:=Av (by simpa[rf]using f 0 _ rfl) rfl;obtain⟨E,F,G⟩:=ahp n _ B (by simpa[rf,U5]using f 1 _ rfl);let⟨b,g,K⟩:=rdB n [d] C (by simpa[rf,U5,ahh]using f 2 _ rfl);unfold Flat Q7 at g;simp at g;subst g;refine⟨⟨D,E,b⟩,⟨_,rfl,F⟩,λ u a=>?_⟩;rcases (aaH a) with rfl|a;rfl;obtain a|a:=wH.1 (show u∈[j,k,l,m,o,p,q,r,s,t,v,w,x]++[Ox b]from a);exact G u a;grind
def at9(n b y)(h:Ls enc am W 0 (λ _=>true) true n 33 b=some y):∃a:Ev,Hg W (Jw W) a b/\hJ b:=by obtain⟨o,n,_,L,d,q,a⟩:=DataW.trod_struct underlying33 h;rw[ahn]at d;match b,d with|[M,N,O,e,f,P,c,r],_=>match o,q with|[Q,R,S,T,U,t,v],_=>obtain⟨w,rfl,V⟩:=(tx (a 0 _ rfl));obtain⟨x,rfl,z⟩:=(tx (a 1 _ rfl));obtain⟨A,rfl,B⟩:=(tx (a 2 _ rfl));obtain⟨l,g⟩:=Lr (Flat kK) dd (c:=e) (kk:am.underlying 23=some (.slice 137)) ahk at3 (by simpa[rf,U6]using a 3 _ rfl);let⟨p,i⟩:=Lr (nu W (Jw W)) dd (c:=f) (kk:am.underlying 28=some (.slice 52)) ahm at8 (by simpa[rf,U6,Zc]using a 4 _ rfl);obtain⟨s,rfl,_⟩:=rdStr (y:=t) (by simpa[rf,U6,Zc,ahi]using a 5 _ rfl);(have C:Ls enc am W 0 (λ _=>true) true n 31 [c,r]=v:=by simpa[rf,U6,Zc,ahi,atZ]using a 6 _ rfl);obtain⟨D,X,_,Y,Z,E,j⟩:=DataW.trod_struct underlying31 C;match D,E with|[z0,z1],_=>obtain⟨F,k⟩:=Lr (Flat Q7) dd (c:=c) (kk:am.underlying 29=some (.slice 4)) ahh rdB (by simpa[ahj]using j 0 _ rfl);obtain⟨G,rfl,b7⟩:=Av (by simpa[ahj,rf]using j 1 _ rfl) rfl;obtain⟨_,_,I,_⟩:=id g.E;obtain⟨_,_,J,_⟩:=id i.E;obtain⟨_,_,K,_⟩:=id k.E;refine⟨⟨w,x,A,l,p,s,F,G⟩,⟨e,f,c,rfl,g,i,k,z,B⟩,λ u m=>?_⟩;simp only[us,xz,or_false]at m;rcases m with rfl|rfl|rfl|rfl|rfl|rfl|rfl|rfl;rfl;rfl;rfl;rw[I];rfl;rw[J];rfl;rfl;rw[K];rfl;rfl
end
end
def K5:Nd:=⟨0,0,[],[],1,[0,0,0,0,0,0,0,0]⟩
def CA:Nd:=⟨1,2,[0],[],1,[0,0,0,0,0,0,0,0]⟩
def ky:List Nd:=[K5,CA]
def aJt(w):eE am 81 #[bs 1] w λ e a=>∃v,ea e v/\dj a w v ky/\bi w w a:=by refine oY func81 λ y C=>?_;generalize b:(if(3)<(if(1:Int)>1 then(1:Int)else 1)then(3)else if(1:Int)>1 then(1:Int)else 1)=q;obtain rfl:q=1:=b.S;intro X g _;refine z ?_;refine⟨Nat,λ j=>[(11,.O (.v (.int .i64 j)))],λ _=>[none],λ j a=>j<=8/\bi w w a,λ j=>8-j,λ l m=>(⟨0,⟨fy _,m.B .refl (oK)⟩,oK,mD⟩),?_⟩;·rintro j l ⟨c,d⟩;have e:=d.size;refine oz (λ h=>?_) λ h=>?_;(·obtain rfl|rfl|rfl|rfl|rfl|rfl|rfl|rfl:=(by omega:j=0\/j=1\/j=2\/j=3\/j=4\/j=5\/j=6\/j=7);all_goals refine z ?_;refine⟨by decide,x λ a v=>?_⟩;exact⟨rfl,_,⟨(by decide),d.J (v.B e ⟨g,QD⟩)⟩,⟨rfl,QD,QD⟩,⟨mD,rfl⟩,(by decide)⟩);refine z λ Y n o=>?_;have A:Y≠X:=Ne.S o.1;refine z λ Z p i=>?_;have B:Z≠X:=Ne.S i.1;have D:Z≠Y:=Ne.S i.2.1;refine z λ Q r f=>?_;have E:Q≠X:=Ne.S f.1;have F:Q≠Y:=Ne.S f.2.1;have G:Q≠Z:=Ne.S f.2.2.1;refine z ?_;intro a v;have s:=v.cells (j:=2) rfl rfl;have b:=v.cells (j:=3) rfl rfl;have t:Ints a w (.slice Z 1 1) [0]:=⟨_,1,[.int _ 0],rfl,.refl,et,Cs.O rfl rfl,uf,λ j u c=>⟨Z,0,rfl,oo,by rw[KW];exact aO s (by grind)⟩⟩;refine⟨_,rfl,⟨_,2,ij K5 _ _++ij CA (.slice Z 1 1) _,rfl,.refl,et,⟨_,_,rfl,rfl,⟨_,_,rfl,rfl,kO,kO⟩,_,[],rfl,rfl,⟨_,_,rfl,rfl,t,kO⟩,rfl⟩,?_,λ j u c=>⟨Q,0,rfl,oo,by rw[KW];exact aO b (by rw[List.getElem?_toArray];exact c)⟩⟩,d.J (v.B e ⟨g,lI e n,lI e p,lI e r,QD⟩)⟩;intro u k;simp only[ij,K5,CA,tj,AC,xD,xe,us,xz,or_false]at k;obtain rfl|rfl|rfl|rfl|rfl|rfl|rfl|rfl|rfl|rfl|rfl|rfl|rfl|rfl|rfl|rfl|rfl|rfl|rfl|rfl|rfl|rfl|rfl|rfl|rfl|rfl:=k<;>rfl
section
open _root_.Go.ChangeShapes _root_.Go.WideShapes _root_.Go.ChangeAt
def aKV:(Rows.topGrowsRow.inPlace==am.inPlace 4)=true:=kk
def arS:am.unfollowed 4=true:=kk
def aKW:(Rows.topGrowsRow.named==am.varsNamed 4)=true:=kk
def aKX:Rows.topGrowsRow.wf (OpenSpec.ofChange Rows.topGrowsSpec)=true:=kk
def aKY:laidOutB am=true:=kk
def aKZ:mapsRowed am=true:=kk
def aK0:(OO.params.all (am.readableRec ·)&&namedTie am Rows.topGrowsRow.named Rows.topGrowsSpec.vars&&(Rows.topGrowsRow.stops==[])&&(am.stops==[])&&(Rows.topGrowsRow.knobs==[])&&(am.stopKnobs==[]))=true:=kk
def aK1:((Rows.topGrowsRow.maps==(OO.params.toList++Rows.topGrowsSpec.plain.varTypes am).any (am.mapsRec ·))&&(Rows.topGrowsRow.ifaces==(OO.params.toList++Rows.topGrowsSpec.plain.varTypes am).any (am.ifacesRec ·))&&(Rows.topGrowsRow.mapsOut==am.mapsAmong OO.resultTypes.toList)&&(Rows.topGrowsRow.loops==(OO.params.toList++Rows.topGrowsSpec.plain.varTypes am).any (am.loopsFrom ·))&&(Rows.topGrowsRow.wideKeys==(OO.params.toList++Rows.topGrowsSpec.plain.varTypes am++OO.resultTypes.toList).any (am.wideKeysFrom ·))&&Rows.topGrowsSpec.vars.all (am.varReadable ·)&&OO.resultTypes.all (λ t=>am.readableRec t&&decide (t<am.types.size))&&(Rows.topGrowsRow.ifacesOut==OO.resultTypes.toList.any (am.ifacesRec ·))&&(Rows.topGrowsRow.loopsOut==OO.resultTypes.toList.any (am.loopsFrom ·)))=true:=kk
def aK2:((Rows.topGrowsRow.plainKeys==am.plainKeys)&&Rows.topGrowsRow.shortTexts.isNone&&am.stopsHeard&&am.mayEnter&&(Rows.topGrowsRow.lifted==am.liftsFinal)&&(am.make==Rows.topGrowsRow.make)&&(Rows.topGrowsRow.kinds==(if Rows.topGrowsRow.domain.isEmpty then[]else OO.params.toList.map λ t=>match am.underlying t with|some (.int k)=>k|_=>none))&&(Rows.topGrowsRow.pinned==Rows.topGrowsRow.pinnedBy)&&(Rows.topGrowsRow.veiled==(OO.params.toList++Rows.topGrowsSpec.plain.varTypes am++OO.resultTypes.toList).any (am.veiledRec ·))&&Rows.topGrowsRow.veiledFits am OO.params.toList (OO.params.toList++Rows.topGrowsSpec.plain.varTypes am++OO.resultTypes.toList))=true:=kk
def aK3:joinedFacts am 4 OO Rows.topGrowsSpec Rows.topGrowsRow=true:=by
 have d:(Rows.topGrowsRow.unfollowed==am.unfollowed 4)=true:=by rw[arS];rfl
 have e:(Rows.topGrowsRow.recurses==am.recurses 4)=true:=by unfold Program.recurses;rw[arS,Bool.true_or];rfl
 have a:=aK0;have b:=aK1;have c:=aK2;simp only[mB]at a b c;obtain⟨⟨⟨⟨⟨f,g⟩,h⟩,i⟩,j⟩,k⟩:=a;obtain⟨⟨⟨⟨⟨⟨⟨⟨a,l⟩,m⟩,n⟩,o⟩,p⟩,q⟩,r⟩,s⟩:=b;obtain⟨⟨⟨⟨⟨⟨⟨⟨⟨b,t⟩,u⟩,v⟩,w⟩,x⟩,y⟩,z⟩,A⟩,B⟩:=c;unfold joinedFacts;simp only[mB];exact⟨⟨⟨⟨⟨⟨⟨⟨⟨⟨⟨⟨⟨⟨⟨⟨⟨⟨⟨⟨⟨⟨⟨⟨⟨⟨⟨⟨⟨⟨⟨aKX,aKY⟩,aKZ⟩,f⟩,g⟩,h⟩,i⟩,j⟩,k⟩,aKV⟩,d⟩,e⟩,aKW⟩,a⟩,l⟩,m⟩,n⟩,o⟩,p⟩,q⟩,r⟩,s⟩,b⟩,t⟩,u⟩,v⟩,w⟩,x⟩,y⟩,z⟩,A⟩,B⟩
def aK4:am.funcNamed Rows.topGrowsRow.func=some 4:=kk
end
def NL(l:List Int)(i x v):(l.set i v).getD x 0=if x=i/\i<l then v else l.getD x 0:=by grind
structure Up(c)(s s':Wk):Prop where
 dl:s'.d=s.d.length
 el:s'.e=s.e.length
 d:∀x,s.d.getD x 0≠ -1→s'.d.getD x 0=s.d.getD x 0
 e:∀x,s.e.getD x 0≤s'.e.getD x 0
 eo:∀x,x≤c→s'.d.getD x 0=s.d.getD x 0∧s'.e.getD x 0=s.e.getD x 0
def Up.Y(c s):Up c s s:=⟨rfl,rfl,λ _ _=>rfl,oo,oo⟩
def Up.J{c s x a}(h:Up c s x)(k:Up c x a):Up c s a:=⟨k.dl.J h.dl,k.el.J h.el,λ x s=>(k.d x (by rw[h.d x s];exact s)).J (h.d x s),λ x=>Int.le_trans (h.e x) (k.e x),λ x s=>⟨(k.eo x s).1.J (h.eo x s).1,(k.eo x s).2.J (h.eo x s).2⟩⟩
def Au(n:Nat)(a b:Int)(s:Wk)(t:Int):Prop:=a<=8/\b<=4/\(t<n->s.d.getD t.toNat 0=a/\b<=s.e.getD t.toNat 0)
def Au.up{n c a b t s d}(h:Au n a b s t)(k:Up c s d)(e:0<=a):Au n a b d t:=⟨h.1,h.2.1,λ d=>⟨by have:=(h.2.2 d).1;rw[k.d _ oo,this],Int.le_trans (h.2.2 d).2 (k.e _)⟩⟩
def aKt{n c:Nat}{s}{t b d}(h:(oN n s t b d).1=true)(i:c<t)(j:t<=n)(k:s.d=n)(l:s.e=n):Up c s (oN n s t b d).2/\Au n b d (oN n s t b d).2 t:=by
 unfold oN at h⊢;by_cases e:8<b\/4<d;·rw[QJ e]at h;cases h
 rw[QI e]at h⊢;by_cases f:t=n;rw[QJ f];exact⟨⟨rfl,rfl,λ _ _=>rfl,λ _=>Pm _,λ _ _=>mH⟩,oo,oo,λ a=>oo⟩;rw[QI f]at h⊢;by_cases a:s.d.getD t.toNat 0≠-1/\s.d.getD t.toNat 0≠b;·rw[QJ a]at h;cases h
 rw[QI a];have m:t.toNat<n:=oo;refine⟨⟨by simp,by simp,λ x g=>?_,λ x=>?_,λ x g=>⟨?_,?_⟩⟩,oo,oo,λ _=>⟨?_,?_⟩⟩;grind;grind;grind;grind;grind;grind
def arJ{n c:Nat}{b d}(i:0<=b):∀(a)(s),(Dd n b d a s).1=true->(∀t∈a,c<t/\t<=n)->s.d=n->s.e=n->Up c s (Dd n b d a s).2/\∀t∈a,Au n b d (Dd n b d a s).2 t|[],s,_,_,_,_=>⟨Up.Y _ _,λ t e=>by cases e⟩|t::a,s,h,e,j,k=>by unfold Dd at h⊢;by_cases l:(oN n s t b d).1=true;rw[QJ l]at h⊢;obtain⟨g,o⟩:=aKt l (e t (by simp)).1 (e t (by simp)).2 j k;obtain⟨m,p⟩:=arJ i a _ h (λ x f=>e x (by simp[f])) (g.dl.J j) (g.el.J k);refine⟨g.J m,λ x f=>?_⟩;rcases us.1 f with rfl|f;exact o.up m i;exact p x f;grind
def NM(p:List Is)(s:Wk)(c:Nat):Prop:=∀i,p[c]?=some i->s.d.getD c 0≠-1->(jc i.op).1<=s.d.getD c 0/\∀t∈uX p i c,Au p (s.d.getD c 0-(jc i.op).1+(jc i.op).2) (s.e.getD c 0+if i.op=14 then 1 else 0) s t
def NM.up{p s i c b}(h:NM p s b)(k:Up c s i)(a:b<=c):NM p i b:=λ i d s=>by obtain⟨t,e⟩:=k.eo b a;rw[t]at s;obtain⟨a,b⟩:=h i d s;have:=V1 i.op;rw[t,e];exact⟨a,λ t a=>(b t a).up k oo⟩
def aKu{p i c}(h:p[c]?=some i)(a:Iy i):∀t∈uX p i c,c<t/\t<=p.length:=by
 have h:c<p:=oV;have h:i.op=15\/i.op=16->0<=i.a:=λ h=>by unfold isRight at a;simp at a;have:=a.1.2;obtain h|h:=h<;>rw[h]at this<;>exact Int.le_trans dd this
 unfold uX;grind
def afV{p}(q:∀i∈p,Iy i):∀(r)(c)(s),p.drop c=r->Im p r c s=true->yH p s->(∀x,x<c->NM p s x)->∃f,yH p f/\(∀x,s.d.getD x 0≠-1->f.d.getD x 0=s.d.getD x 0)/\∀x,NM p f x|[],c,s,g,_,d,k=>⟨s,d,λ _ _=>rfl,λ x=>by by_cases h:x<c;exact k x h;intro i o;have m:=(List.getElem?_eq_some_iff.1 o).1;have b:=Ru Pb g;grind⟩|i::r,c,s,g,h,d,k=>by (have o:p[c]?=i:=by have:=Ru (λ l=>l[0]?) g;simpa using this);(have t:p.drop (c+1)=r:=by have:=Ru List.tail g;simpa using this);unfold Im at h;by_cases m:s.d.getD c 0= -1;rw[QJ m]at h;(exact afV q r _ s t h d λ x z=>by by_cases e:x=c;subst e;exact λ _ _ v=>QU m v;exact k x oo);·rw[QI m]at h;by_cases b:(zN p s c i).1=true;(·rw[QJ b]at h;have A:=aw6 d c i;have l:=aaz s i;have F:=V1 i.op;(have n:Up c s (zN p s c i).2/\NM p (zN p s c i).2 c:=by unfold zN at b⊢;by_cases w:s.d.getD c 0<(jc i.op).1;(·rw[QJ w]at b;cases b);rw[QI w]at b⊢;have B:=aKu o oV;let⟨u,a⟩:=arJ oo _ _ b B (by rw[l.1];exact d.d) (by rw[l.2];exact d.e);have C:Up c s _:=⟨by rw[l.1],by rw[l.2],λ _ _=>by rw[l.1],oV,oV⟩;have y:=C.J u;refine⟨y,λ j G v=>?_⟩;have:j=i:=oV;subst this;let⟨D,E⟩:=y.eo c .refl;rw[D,E];exact oK);(let⟨f,v,w,B⟩:=afV q r _ _ t h A λ x z=>by by_cases e:x=c;subst e;exact n.2;exact(k x oo).up n.1 oo);exact⟨f,v,λ x e=>(w x (by rw[n.1.d x e];exact e)).J (n.1.d x e),B⟩);grind
structure Cert(p)(s):Prop where
 ok:yH p s
 zero:0<p.length→s.d.getD 0 0=0
 go:∀c,NM p s c
def aKw{p}(h:iO p=true):(∀i∈p,Iy i)/\∃s,Cert p s:=by
 unfold iO at h;rw[mB]at h;have s:=h.1;unfold qF at s;simp only[mB,decide_eq_true_eq,Ot]at s;have d:∀i∈p,isRight i=true:=oV;have e:yH p ⟨eM p (-1),eM p 0,0,0,false,false⟩:=⟨by simp,by simp,oV,oV⟩;let⟨f,a,b,c⟩:=afV d p 0 _ rfl h.2 (OQ e 0 0 0 oo oo) oo;refine⟨d,f,a,λ g=>?_,c⟩;have j:(De p).d.getD 0 0=0:=by unfold De oN;rw[QI oo,QI oo,QI];show((eM p _).set _ 0).getD 0 0=0;rw[NL];simp[g];grind
 grind
end Go.Proofs.YtinijkiakbbokaaGreat
