/- A part of the proof of TopGrows. No conditions. -/
import Derived.Test.YtinijkiakbbokaaGreatF12
set_option linter.all false
set_option maxRecDepth 1000000
set_option maxHeartbeats 16000000
namespace Go.Proofs.YtinijkiakbbokaaGreat
open Go.Proofs.YtinijkiakbbokaaGreat _root_.Go.RowKit Go.Proofs.Tryz
open Go.Proofs.Tryz renaming prog->am
open _root_.Go.RowKit renaming Below->bi
open _root_.Go renaming World->cJ,Calls->eE,Value->eQ,maxLen->pJ,info_parts->sB,TypeId->zo,eqGuard->PM
open Go.Value.slice renaming injEq->cL
open _root_.List renaming length_append->da,mem_of_getElem?->fx,length_cons->pn,length_map->rW,range->sD,take_add_one->uk,mem_or_eq_of_mem_set->wt,take_length->wy,mem_append->wH,eq_nil_of_length_eq_zero->wI,mem_singleton->xd,nil_append->xe,cons_append->xD,length_drop->DM,length_range->Oo,mem_range->Qe,getElem_mem->Qu,mem_of_mem_drop->Qw
open _root_.Nat renaming zero_le->fy,le_refl->kg,le_trans->lI,le_succ->qi,mul_one->Qg
open Go.Builtin renaming append_->pV
open _root_.Array renaming length_toList->yJ
open Option.some renaming injEq->BY
open Option renaming bind_some->IC
open Go.Ending renaming returned->Db
open Go.Addr renaming add_lit->Hq
open Go.Addr.mk renaming injEq->KH
open Go.Op renaming equalIn->Pa
open _root_.Go.Proofs.YtinijkiakbbokaaGreat.A (Pk dV eY sH Gp Ki)
section
structure pC(m:Nat)(p:Pk):Prop where
 s0: -10≤p.seq
 s1:p.seq≤m
 a0:0≤p.pw
 a1:p.pw≤m
 z:p.load.size≤1000
def Am(a:List Pk)(b:Nat):zs (∀c∈a,pC b c):=.m
structure Cv(m:Nat)(s:dV):Prop where
 w:s.uw.length≤6
 l0:0≤s.ua
 l1:s.ua≤m
 t0:0≤s.qq
 t1:s.qq≤m
 z:∀x∈s.uw,x.size≤1000
structure GX(m:Nat)(s:eY):Prop where
 l:s.loads.length≤6
 o0:0≤s.U
 o1:s.U≤m
 z:∀x∈s.loads,x.size≤1000
structure Fh(n:Nat)(s:pq):Prop where
 bl:s.ul=n
 mn:s.many=s.ul.count true
 la: -1≤s.ua∧s.ua≤60
structure dJ(sp z0 m k:Nat)(t:aR):Prop where
 o:∀p∈t.uo,Cv m p.2.2.2
 i:∀p∈t.ins,GX m p.2.2
 q:t.U+z0≤m
 qp:Am t.U m
 ol:t.uo.length≤60
 il:t.ins.length≤60
 ln:t.ui≤k
 tb:t.tab.length≤1000
 ch:t.children.length≤8
 al:Fh t.ins t.al
 pr:t.node.kind=1→LU t
 kd:f9 0 t.node.kind 2
 pl:gv (t.node.id,t.index)
 sx:t.node.kind=0→t.index<sp
section
variable {sp z0 m n k:Nat} {t:aR} {p:Pk}
def pC.M(h:pC m p)(a:m<=n):pC n p:=⟨h.s0,by have:=h.s1;omega,h.a0,by have:=h.a1;omega,h.z⟩
def pC.ok(h:pC m p)(a:m<=3000000000):Kr p:=⟨⟨by have:=h.s0;omega,by have:=h.s1;omega⟩,by have:=h.a0;omega,by have:=h.a1;omega⟩
def Cv.M{s}(h:Cv m s)(a:m<=n):Cv n s:=⟨h.w,h.l0,by have:=h.l1;omega,h.t0,by have:=h.t1;omega,h.z⟩
def GX.M{s}(h:GX m s)(a:m<=n):GX n s:=⟨h.l,h.o0,by have:=h.o1;omega,h.z⟩
def dJ.M{a}(h:dJ sp z0 m k t)(b:m<=n)(c:k<=a):dJ sp z0 n a t:=⟨λ p a=>(h.o p a).M b,λ p a=>(h.i p a).M b,lI h.q b,λ p a=>(h.qp p a).M b,h.ol,h.il,lI h.ln c,h.tb,h.ch,h.al,h.pr,h.kd,h.pl,h.sx⟩
def dJ.ok(h:dJ sp z0 m k t):iu m t:=⟨λ p b=>by have a:=h.o p b;exact⟨a.w,⟨a.l0,a.l1⟩,a.t0,a.t1⟩,λ p b=>by have a:=h.i p b;exact⟨a.l,a.o0,a.o1⟩,by have:=h.q;omega⟩
def dJ.fit(h:dJ sp z0 m k t)(p:k<=100000000):amd t:=by
 have x:=h.al;have b:=h.il;have b:t.al.many<=t.al.ul:=by rw[x.mn];exact List.count_le_length
 have b:=x.bl;exact⟨lI h.ln p,lI h.tb oo,h.ch,⟨x.bl,x.la.1,by have:=x.la.2;omega,oo⟩,h.pr,h.kd,λ p a x b=>by have:=(h.i p a).z x b;have e:x.data.toList=x.size:=yJ;omega⟩
def dJ.nil(h:dJ sp m m k t):t.U=[]:=wI (by have:=h.q;omega)
def dJ.up{a}(h:dJ sp m m k t)(b:m<=n)(c:k<=a):dJ sp n n a t:={h.M b c with q:=by rw[h.nil];simp}
def Fi{e d:Type}(P:Nat->d->Prop)(c)(f)(g:∀n b a,P n b->P (n+c) (f b a)):∀(l:List e)(n)(b),P n b->P (n+l*c) (l.foldl f b)|[],n,b,h=>by simpa using h|a::l,n,b,h=>by have:=Fi P c f g l _ _ (g n b a h);grind
def baZ(l:List UInt8):(⟨l⟩:ByteArray).size=l:=rfl
def Cv.send{s}(h:Cv m s){b}(c:b.length<=1000):Cv (m+1) (uE s b).1/\Am ((uE s b).2) (m+1):=by have f:=h.l1;have g:=h.l0;unfold uE;split;exact⟨h.M oo,by simp⟩;rename_i d;simp at d;refine⟨⟨?_,?_,?_,h.t0,?_,λ x a=>?_⟩,λ p e=>?_⟩;grind;simp only;omega;simp only;omega;have:=h.t1;simp only;omega;obtain a|a:=(lG a);exact h.z x a;rw[xd.1 a,baZ];exact c;rw[xd.1 e];exact⟨kp,kp,kp,kp,by assumption⟩
def aFC(i):(vT i).1.length<=1000:=by unfold vT;split;split;have:=nK [] [i.rc.key,i.rc.val.re,i.rc.val.im];grind;simp;split;have:=nK [] [i.dh,if i.fV then 1 else 0];grind;simp
def dJ.put(h:dJ sp z0 m k t)(j i):dJ sp z0 (m+1) k (pO t j i):=by unfold pO;split;rename_i p e;have d:=h.M (qi m) (kg k);let⟨a,b⟩:=(h.o p (fx e)).send (aFC i);refine⟨λ q c=>?_,d.i,?_,λ q c=>?_,by simpa using h.ol,h.il,h.ln,h.tb,h.ch,h.al,h.pr,h.kd,h.pl,h.sx⟩;obtain c|rfl:=wt c;exact d.o q c;exact a;have:=ab0 p.2.2.2 (vT i).1;have:=h.q;grind;rcases (lG c) with c|c;exact d.qp q c;exact b q c;exact h.M (qi m) (kg k)
def dJ.tv(h:dJ sp z0 m k t)(n r j):dJ sp z0 (m+1) k (tv n r t j):=by unfold Go.Proofs.YtinijkiakbbokaaGreat.tv;split;split;exact h.put ..;exact (yM h);exact (yM h)
def dJ.uF(h:dJ sp z0 m k t)(r n):dJ sp z0 (m+60) k (uF r t n):=by have:=Fi (λ n t=>dJ sp z0 n k t) 1 _ (λ m t j h=>h.tv n r j) (sD t.uo) m t h;rw[Oo,Qg]at this;exact this.M (by have:=h.ol;omega) (kg k)
def dJ.recs(h:dJ sp z0 m k t)(r):dJ sp z0 (m+480) k (xS t r):=by have:=Fi (λ n t=>dJ sp z0 n k t) 60 _ (λ m t j h=>h.uF r j) t.children m t h;exact this.M (by have:=h.ch;omega) (kg k)
def dJ.vR(h:dJ sp z0 m k t)(i):dJ sp z0 (m+60) k (B2 t i):=by have:=Fi (λ n t=>dJ sp z0 n k t) 1 _ (λ m t j h=>h.put j i) (sD t.uo) m t h;rw[Oo,Qg]at this;exact this.M (by have:=h.ol;omega) (kg k)
def count_set:∀(l:List Bool)(c),l[c]?=false->(l.set c true).count true=l.count true+1|[],c,h=>by simp at h|b::l,0,h=>by grind|b::l,c+1,h=>by grind
def Fh.block{s}(h:Fh n s){c}(a:s.ul[c]?=false)(i):Fh n (Kd s c i):=by unfold Kd;split;exact h;exact⟨by simpa using h.bl,by simp only;rw[count_set _ _ a,h.mn],h.la⟩
def Fh.clear{s}(h:Fh n s):Fh n (Kb s):=⟨by simpa[Kb]using h.bl,by simp[Kb,List.count_replicate],h.la⟩
def Fh.pick{s}(h:Fh n s)(a:n<=60)(c):Fh n (sC s c):=by unfold sC;split;rename_i c s;have:=(List.getElem?_eq_some_iff.1 (W3 s).1).1;have s:=h.bl;exact⟨h.bl,h.mn,kp,kp⟩;exact h
def dJ.XQ(h:dJ sp z0 m k t){a}(b:Fh t.ins a):dJ sp z0 m k {t with al:=a}:=⟨h.o,h.i,h.q,h.qp,h.ol,h.il,h.ln,h.tb,h.ch,b,h.pr,h.kd,h.pl,h.sx⟩
def dJ.aFD(h:dJ sp z0 m k t):∀(l:List Rc),l.length<=4->dJ sp z0 (m+1920) k (l.foldl xS t):=λ l a=>by have:=Fi (λ n t=>dJ sp z0 n k t) 480 xS (λ m t r h=>h.recs r) l m t h;exact this.M oo (kg k)
def dJ.item(h:dJ sp z0 m k t){o}(b:o.1.length<=512\/o.1=t.tab)(d:o.2.length<=4){c i}(f:i.vR=true->t.al.ul[c]?=false):dJ sp z0 (m+1920) (k+1) (B8 o t c i):=by have a:=h.M (Nat.le_add_right m 1920) (qi k);unfold B8;split;rename_i e;exact a.XQ (h.al.block (f e) i);split;exact⟨a.o,a.i,a.q,a.qp,h.ol,h.il,by have:=h.ln;grind,h.tb,h.ch,h.al,h.pr,h.kd,h.pl,h.sx⟩;refine(dJ.aFD (t:={t with tab:=o.1}) ⟨h.o,h.i,h.q,h.qp,h.ol,h.il,h.ln,?_,h.ch,h.al,h.pr,h.kd,h.pl,h.sx⟩ _ d).M .Y (qi k);obtain b|b:=b;grind;show o.1.length<=1000;rw[b];exact h.tb
def GX.pop{s}(h:GX m s):GX (m+1) (lH s).1/\(lH s).2.2.length<=1/\Am ((lH s).2.2) (m+1):=by unfold lH;have s:=h.o0;have s:=h.o1;split;exact⟨h.M oo,by simp,by simp⟩;rename_i x l e;have s:=h.l;have l:=h.z;rw[e]at s l;simp only[pn]at s;refine⟨⟨kp,kp,kp,oV⟩,by simp,λ p h=>?_⟩;rw[xd.1 h];exact⟨kp,kp,kp,kp,by simp only;decide⟩
def dJ.pop(h:dJ sp z0 m k t)(c):dJ sp z0 (m+1) k (Dz t c)/\(Dz t c).al=t.al/\(Dz t c).tab=t.tab:=by unfold Dz;split;rename_i q g;have f:=h.M (qi m) (kg k);let⟨a,b,d⟩:=(h.i q (fx g)).pop;refine⟨⟨f.o,λ r e=>?_,?_,λ r e=>?_,h.ol,by simpa using h.il,h.ln,h.tb,h.ch,by simpa using h.al,h.pr,h.kd,h.pl,h.sx⟩,rfl,rfl⟩;obtain e|rfl:=wt e;exact f.i r e;exact a;have:=h.q;grind;rcases (lG e) with e|e;exact f.qp r e;exact d r e;exact⟨h.M (qi m) (kg k),rfl,rfl⟩
def GY(k:Nat)(a:mJ):Prop:=a.cY.length<=1000/\a.ui<=k/\gv (a.node,a.index)
def dJ.pw(h:dJ sp z0 m k t)(i off):GY k (AZ t i off):=by refine⟨?_,h.ln,h.pl⟩;show(if t.node.kind=1 then mF _ else[]).length<=1000;split;unfold mF;rw[(BO _).length_eq,rW];exact h.tb;simp
def dJ.aFE(h:dJ sp z0 m k t){o}(e:o.1.length<=512\/o.1=t.tab)(f:o.2.length<=4):dJ sp z0 (m+2000) (k+1) (uI o t).1/\∀a∈(uI o t).2.1,GY k a:=by have d:=h.M (Nat.le_add_right m 2000) (qi k);unfold uI;split;split;exact⟨d,by simp⟩;have g:=h.vR (zV t.al).1;have i:(B2 t _).ins=t.ins:=(aly t (zV t.al).1 _).2.2.2.2.2.2.1;refine⟨dJ.XQ (g.M oo (qi k)) (by rw[i];exact h.al.clear),λ a j=>?_⟩;rw[xd.1 j];exact h.pw ..;split;exact⟨d,by simp⟩;split;exact⟨d.XQ (h.al.pick h.il _),by simp⟩;rename_i c l;have b:=(h.XQ (h.al.pick h.il (tz t))).pop c;refine⟨?_,by simp⟩;simp only;split;refine(b.1.item (by rw[b.2.2];exact e) f λ _=>?_).M oo (kg _);rw[b.2.1];show(sC ..).ul[c]?=_;rw[(acE ..).1];exact(W3 l).1;exact b.1.M oo (qi k)
def dJ.flat(h:dJ sp z0 m k t)(a b):dJ sp z0 m k {t with asked:=a,kP:=b}:=⟨h.o,h.i,h.q,h.qp,h.ol,h.il,h.ln,h.tb,h.ch,h.al,h.pr,h.kd,h.pl,h.sx⟩
def dJ.read(h:dJ sp z0 m k t)(s):dJ sp z0 (m+2000) k (A2 t s).1/\∀a∈(A2 t s).2.2.1,GY k a:=by have b:=h.M (Nat.le_add_right m 2000) (kg k);unfold A2;split;exact⟨b,by simp⟩;split;refine⟨((h.flat su _).vR _).M oo (kg k),λ a c=>?_⟩;rw[xd.1 c];exact(h.flat su _).pw ..;split;exact⟨b,by simp⟩;refine⟨?_,by simp⟩;simp only;split;exact(h.recs _).M oo (kg k);exact b
def dJ.work(h:dJ sp z0 m k t){o}(b:o.1.length<=512\/o.1=t.tab)(c:o.2.length<=4)(s):dJ sp z0 (m+2000) (k+1) (fJ o t s).1/\∀a∈(fJ o t s).2.2.1,GY k a:=by unfold fJ;split;exact⟨(h.read s).1.M .Y (qi k),(h.read s).2⟩;exact h.aFE b c
def dJ.aFF(h:dJ sp z0 m k t):dJ sp m m k {t with U:=[]}:=⟨h.o,h.i,by simp,by simp,h.ol,h.il,h.ln,h.tb,h.ch,h.al,h.pr,h.kd,h.pl,h.sx⟩
def GX.take{s}(h:GX m s)(a:pC m p):GX m (wQ s p).1/\(wQ s p).2.length<=1/\Am ((wQ s p).2) m:=by have x:=h.o0;have q:=h.o1;have b:pC m (Ks s):=⟨by simp[Ks],by simp[Ks],by assumption,by assumption,by simp[Ks]⟩;unfold wQ;split;split;split;grind;rename_i s;refine⟨⟨by grind,x,q,λ x s=>?_⟩,by simp,oV⟩;obtain s|s:=(lG s);exact h.z x s;rw[xd.1 s];exact a.z;grind;grind
def Cv.pw{s}(h:Cv m s)(p):Cv m (Dw s p):=by unfold Dw;split;exact⟨by have:=h.w;grind,h.l0,h.l1,h.t0,h.t1,λ x s=>h.z x (Qw s)⟩;exact h
def dJ.tZ(g:pC m p){x c}(h:dJ sp z0 m k x.1/\x.2<=c/\Am (x.2) m)(j):dJ sp z0 m k (tZ p x j).1/\(Go.Proofs.YtinijkiakbbokaaGreat.tZ p x j).2.length<=c+1/\Am ((Go.Proofs.YtinijkiakbbokaaGreat.tZ p x j).2) m:=by obtain⟨e,l,n⟩:=h;unfold Go.Proofs.YtinijkiakbbokaaGreat.tZ;split;rename_i q i;obtain⟨a,b,d⟩:=(e.i q (fx i)).take g;refine⟨⟨e.o,λ r f=>?_,e.q,e.qp,e.ol,by simpa using e.il,e.ln,e.tb,e.ch,by simpa using e.al,e.pr,e.kd,e.pl,e.sx⟩,by grind,λ r f=>?_⟩;rcases wt f with f|rfl;exact e.i r f;exact a;grind;exact oK
def dJ.A0(h:dJ sp z0 m k t)(p j):dJ sp z0 m k (A0 p t j):=by unfold Go.Proofs.YtinijkiakbbokaaGreat.A0;split;rename_i q b;refine⟨λ r a=>?_,h.i,h.q,h.qp,by simpa using h.ol,h.il,h.ln,h.tb,h.ch,h.al,h.pr,h.kd,h.pl,h.sx⟩;obtain a|rfl:=wt a;exact h.o r a;exact(h.o q (fx b)).pw p;exact h
def dJ.take(h:dJ sp z0 m k t)(d:pC m p):dJ sp z0 m k (ku t p).1/\(ku t p).2.length<=60/\Am ((ku t p).2) m:=by have a:=Fi (λ c x=>dJ sp z0 m k x.1/\x.2<=c/\∀q∈x.2,pC m q) 1 _ (λ c x j h=>dJ.tZ d h j) (sD t.ins) 0 (t,[]) ⟨h,by simp,by simp⟩;rw[Oo,Qg]at a;have e:=h.il;have b:=Fi (λ _ t=>dJ sp z0 m k t) 0 _ (λ c x j h=>h.A0 p j) (sD t.uo) 0 _ a.1;exact⟨b,by have:=a.2.1;show(takeN t p _).2.length<=60;unfold takeN;omega,a.2.2⟩
def Cv.tick{s}(h:Cv m s):Cv (m+1) (sJ s).1/\(sJ s).2.length<=6/\Am ((sJ s).2) (m+1):=by have a:=h.l0;have i:=h.l1;have i:=h.w;have b:=h.t0;have b:=h.t1;unfold sJ;split;exact⟨h.M oo,by simp,by simp⟩;·refine⟨⟨i,a,kp,kp,kp,h.z⟩,?_,λ q a=>?_⟩;simp only;split;rw[Ki];exact i;simp;·simp only at a;split at a;unfold sH at a;obtain⟨i,q,rfl⟩:=(sj a);have q:=Qe.1 q;unfold Gp;refine⟨kp,kp,kp,kp,?_⟩;simp only;rw[show s.uw.getD i _=s.uw[i]by simp[q]];exact h.z _ (Qu q);·cases a
def dJ.xT{c x}(h:dJ sp z0 (m+c) k x.1/\x.2<=c*6/\Am (x.2) (m+c))(j):dJ sp z0 (m+(c+1)) k (xT x j).1/\(Go.Proofs.YtinijkiakbbokaaGreat.xT x j).2<=(c+1)*6/\Am ((Go.Proofs.YtinijkiakbbokaaGreat.xT x j).2) (m+(c+1)):=by obtain⟨e,n,l⟩:=h;have g:=e.M (show m+c<=m+(c+1)by omega) (kg k);unfold Go.Proofs.YtinijkiakbbokaaGreat.xT;split;rename_i q i;let⟨a,b,d⟩:=(e.o q (fx i)).tick;refine⟨⟨λ r f=>?_,g.i,g.q,g.qp,by simpa using e.ol,e.il,e.ln,e.tb,e.ch,e.al,e.pr,e.kd,e.pl,e.sx⟩,by grind,λ r f=>?_⟩;obtain f|rfl:=wt f;exact g.o r f;exact a;rcases (lG f) with f|f;exact(l r f).M oo;exact d r f;exact⟨g,oo,λ q i=>(l q i).M oo⟩
def dJ.tick(h:dJ sp z0 m k t):dJ sp z0 (m+60) k (kQ t).1/\(kQ t).2.length<=360/\Am ((kQ t).2) (m+60):=by have a:=Fi (λ c x=>dJ sp z0 _ k x.1/\x.2<=c*6/\∀q∈x.2,pC _ q) 1 _ (λ c x j h=>dJ.xT h j) (sD t.uo) 0 (t,[]) ⟨h,by simp,by simp⟩;rw[Oo,Qg]at a;have x:=h.ol;exact⟨a.1.M oo (kg k),by have:=a.2.1;show(Pw t _).2.length<=360;unfold Pw;omega,λ q c=>(a.2.2 q c).M oo⟩
def dJ.ask(h:dJ sp z0 m k t)(n b):dJ sp z0 m k (Du t n b):=by unfold Du;split;exact h;exact h.flat ..
def dJ.resume(h:dJ sp z0 m k t):dJ sp z0 m k {t with kP:=false}:=h.flat ..
def dJ.XS(h:dJ sp z0 m k t)(n):dJ sp z0 m k (Pq t n):=⟨h.o,h.i,h.q,h.qp,h.ol,h.il,by have:=h.ln;show(t.ui.drop _)<=k;rw[DM];omega,h.tb,h.ch,h.al,h.pr,h.kd,h.pl,h.sx⟩
def aFG(t):(kQ t).1.U=t.U:=Fi (λ _ x=>x.1.U=t.U) 0 Go.Proofs.YtinijkiakbbokaaGreat.xT (λ _ x j h=>by unfold Go.Proofs.YtinijkiakbbokaaGreat.xT;split<;>exact h) _ 0 _ rfl
def dJ.done(h:dJ sp z0 m k t)(b:t.U=[]){a}(c:m<=n)(d:k<=a):dJ sp n n a t:={h.M c d with q:=(CE b)}
end
end
def akS(d a b c e f i j k g h):pv am (Pa (d+3) 143 (.agg #[bs a,bs b,bs c,bs e,bs f]) (.agg #[bs i,bs j,bs k,bs g,bs h]))=some (a==i&&(b==j&&(c==k&&((e==g&&(f==h&&true))&&true)))):=by rw[WC _ 143 _ _ _ (by rfl) kk];exact Dm dd rfl rfl rfl (Dm dd rfl rfl rfl (Dm dd rfl rfl rfl (Dm dd rfl rfl (akO d e f g h) rfl)))
def ay8(x y a b c e f):pv am (do PM .neq 143 x y (.agg #[bs a,bs b,bs c,bs e,bs f]) (.agg #[bs a,bs b,bs c,bs e,bs f]);binOp .neq 143 (.agg #[bs a,bs b,bs c,bs e,bs f]) (.agg #[bs a,bs b,bs c,bs e,bs f]))=some (.bool false):=by have h:=akS 9997 a b c e f a b c e f;rw[zX,akP _ _ _ _ _ kk];simp only[IC,binOp,Op.equal,Op.maxDepth,zX,h,Bool.and_true,beq_self_eq_true];rfl
def ay9(l F G v u w)(d:ly w F v l)(e:ly w G u l):nm 26 ([v,u]) w (.bool true):=by obtain⟨t,y,rfl,A,n⟩:=d.E;obtain⟨B,D,rfl,_,_⟩:=id e.E;unfold pJ at n;refine oY func26 λ E C=>?_;refine⟨λ h=>by simp at h,λ _=>?_⟩;refine z ?_;refine⟨Nat,λ j=>[(5,.O (.v (.int .i64 j)))],λ _=>[],λ j b=>j<=l.length/\bi w w b,λ j=>l.length-j,λ o p=>(⟨0,⟨fy _,p.B .Y QD⟩,oK,QD⟩),?_⟩;·rintro j o ⟨H,a⟩;have f:=a.size;refine oz (λ h=>?_) λ h=>?_;(·have q:j<l.length:=oo;obtain⟨g,i⟩:∃g,l[j]?=some g:=⟨_,List.getElem?_eq_getElem q⟩;obtain⟨I,J,K,k,_,L,r⟩:=(d.vB a (kg _)).Wf i;obtain⟨M,N,O,m,_,P,s⟩:=(e.vB a (kg _)).Wf i;simp only[cL]at k m;obtain⟨rfl,-,rfl⟩:=k;obtain⟨rfl,-,rfl⟩:=m;simp only[lR]at r s;refine z ?_;refine⟨[],sy 1000000000,kk,?_⟩;refine oy ?_;rw[ay8];refine z ?_;refine⟨λ h=>(by cases h),λ _=>?_⟩;refine x λ b c=>?_;exact⟨rfl,j+1,⟨oo,a.J (c.B f QD)⟩,oK,⟨QD,rfl⟩,(by grind)⟩);refine z ?_;intro b c;exact⟨rfl,a.J (c.B f QD)⟩
def EP(x:Nd):Prop:=x.prog.length<=60/\x.bA.length<=20
def MQ(a:List Nd):zs (a.length<=20/\∀b∈a,EP b):=.m
def akT(l F v w)(X:dj w F v l):eE am 157 #[v] w λ e c=>(∃b,ea e (.bool b)/\(b=false->MQ l))/\bi w w c:=by
 obtain⟨j,d,rfl,e,F⟩:=X.E;unfold pJ at F;refine br aY aZ func157 rfl λ F C=>?_;refine oz (λ h=>?_) λ h=>?_;refine z ?_;intro c F;exact⟨oV,F.B .Y QD⟩;refine z ?_;refine⟨Nat,λ j=>[(10,.O (.v (.int .i64 j)))],λ _=>[],λ j c=>j<=l.length/\(∀p∈l.take j,EP p)/\bi w w c,λ j=>l.length-j,λ d e=>(⟨0,⟨fy _,by simp,e.B .Y QD⟩,oK,QD⟩),?_⟩;rintro j d ⟨i,f,e⟩;have d:=e.size;refine oz (λ h=>?_) λ h=>?_;have y:j<l.length:=oo;obtain⟨p,g⟩:∃p,l[j]?=some p:=⟨_,List.getElem?_eq_getElem y⟩;obtain⟨k,m,n,p,y,_,o,_,a,i⟩:=(X.B e).get g;simp only[cL]at y;obtain⟨rfl,-,rfl⟩:=y;simp only[dM.cs]at i;have X:=a.np;have X:=a.nf;have i:¬60<p.np->¬20<p.nf->∀y∈l.take _,EP y:=λ a b y X=>by rw[uk,g]at X;rcases wH.1 X with X|X;exact f y X;simp at X;subst X;exact oK
 refine oy ?_;intro X b _;have b:w<=X:=oo;refine z ?_;refine⟨λ X=>?_,λ X=>?_⟩;have b:¬60<p.np:=by simp at X;omega
 refine oz (λ h=>?_) λ h=>?_;refine z ?_;intro c F;exact⟨oV,e.J (F.B d (oK))⟩;refine x λ c F=>?_;exact⟨rfl,j+1,⟨oo,i b oo,e.J (F.B d (oK))⟩,oK,⟨QD,rfl⟩,(by grind)⟩;refine z ?_;intro c F;exact⟨oV,e.J (F.B d (oK))⟩;have p:j=l.length:=oo;subst p;rw[wy]at f;refine z ?_;intro c F;exact⟨oV,e.J (F.B d QD)⟩
def azb{w F Y t k x}{p:dM}(h:w.heap[Y]?=some (.cells p.cs t k))(a:fw w F x p.cs):dj w (λ k=>k=Y\/F k) (ti Y 1) [x]:=⟨_,1,p.cs,rfl,.Y,et,Cs.O rfl (a.M λ _ _ a=> .I a),p.O,λ j u a=>⟨Y,0,rfl,.N rfl,by exact Hs h⟩⟩
def dM.pr{w F x}{p:dM}(h:fw w F x p.cs):lL w F (.slice p.ap p.np p.cp) x.prog:=by obtain⟨F,a,e,x,b,c⟩:=h;obtain⟨h,F,a,b,c,d,f,g,i⟩:=eight x;unfold dM.cs ij at e;grind
def akU{w G x q}(a:nu w G x (Eu x q)):fw w G x.node q.cs:=by obtain⟨G,q,x⟩:=a;unfold Eu at q;simp only[xD,List.cons.injEq,true_and]at q;rw[(List.append_inj' q rfl).1];exact x
def SpG(l:List Sp):Prop:=l.length<=20/\∀x∈l,EP x.node
def akV(l)(F)(v)(p)(G)(u)(w)(hv:dj w F v l)(hu:gP w G u p):eE am 82 #[v,u] w fun e w'=>(∃b,ea e (.bool b)∧(b=false→MQ l∧SpG p))∧bi w w w':=by
 obtain⟨av,cv,rfl,_,_⟩:=id hv.E
 obtain⟨au,cu,rfl,jU,hl2⟩:=hu.E
 unfold pJ at hl2
 refine br aY aZ func82 rfl λ C hC=>(zz ?_)
 refine aB.gen (bi.refl _ w) .Y QD (fun w1 b1 _ _=>akT l F _ w1 (hv.B b1)) ?_
 rintro w1 e w2 dA b1 n1 ⟨⟨bb,rfl,hb⟩,b2⟩
 refine(jt b2 (fun b3 n3 k3=>?_))
 cases bb
 case true=>
  refine zz ?_
  refine⟨fun h=>(by cases h),fun _=>?_⟩
  refine zz ?_
  intro w' hI
  exact⟨⟨true,rfl,y5⟩,(kG b3 hI n3)⟩
 case false=>
  have hb:=hb rfl
  refine zz ?_
  refine⟨fun _=>?_,fun h=>by cases h⟩
  refine zz ?_
  refine⟨fun h=>?_,fun h=>?_⟩<;>simp only [bb] at h
  ·refine zz ?_
   intro w' hI
   exact⟨⟨true,rfl,y5⟩,(kG b3 hI n3)⟩
  ·refine zz ?_
   refine⟨Nat,fun j=>[(16,.O (.v (.int .i64 j)))],fun _=>[],fun j w'=>j≤p.length∧(∀x∈p.take j,EP x.node)∧bi w w w',fun j=>p.length-j,?_,?_⟩
   ·intro w8 aT
    exact⟨0,⟨fy _,by simp,(kG b3 aT n3)⟩,ei,QD⟩
   ·rintro j w8 ⟨hj,hg,b8⟩
    have n8:=b8.size
    refine zz ?_
    refine⟨fun h=>?_,fun h=>?_⟩<;>simp only [bb] at h
    ·have dy:j<p.length:=by omega
     obtain⟨x,hx⟩:∃x,p[j]? =some x:=(eB dy)
     obtain⟨b1,o1,c1,q,e1,_,q1,hS,hq,r1⟩:=(hu.B b8).get hx
     simp only [cL] at e1
     obtain⟨rfl,-,rfl⟩:=e1
     simp only [Eu,dM.cs,xD,xe] at r1
     have hN:=akU hS
     refine zz ?_
     refine⟨_,_,rfl,kN,zz ?_⟩
     refine⟨_,rfl,⟨(az r1),QD⟩,zz ?_⟩
     intro X hX _
     have dx:w≤X:=by omega
     refine zz λ Y hY ja=>?_
     have bU:w≤Y:=by omega
     refine zz (aB.gen b8 n8 (mR dx bU) (fun w9 b9 _ dY=>akT _ _ _ w9 (azb (dY.cells (j:=1) rfl rfl) ((hN.M fun k hk a=>(⟨a,hk⟩:G k∧k<w8)).V fun k a hk=>dY.Q k a.2 (bQ (by omega) (by omega)).em))) ?_)
     rintro w9 e eW dY b9 n9 ⟨⟨bb,rfl,oX⟩,jL⟩
     refine(jt jL (fun tQ n11 jJ=>?_))
     cases bb
     case true=>
      refine zz ?_
      refine⟨fun _=>?_,fun h=>by cases h⟩
      refine zz ?_
      intro w' hI
      exact⟨⟨true,rfl,y5⟩,tQ.J (hI.B n11 (mR dx bU))⟩
     case false=>
      have oX:=(oX rfl).2 x.node (by simp)
      refine zz ?_
      refine⟨fun h=>(by cases h),fun _=>?_⟩
      refine zx λ w' hI=>?_
      refine⟨rfl,j+1,⟨by omega,fun y hy=>?_,tQ.J (hI.B n11 (mR dx bU))⟩,ei,eL,(by show p.length-(j+1)<p.length-j;omega)⟩
      rw [uk,hx] at hy
      rcases (lG hy) with hy|hy
      ·exact hg y hy
      ·simp  at hy
       subst hy
       exact oX
    ·have gV:j=p.length:=by omega
     subst gV
     rw [wy] at hg
     refine zz ?_
     intro w' hI
     exact⟨⟨false,rfl,fun _=>⟨hb,by omega,hg⟩⟩,(kG b8 hI n8)⟩
def akW(p)(F)(v X)(m:Int)(w)(l:lL w F v p)(o:w.heap[X]?=some (.cells #[m] 3 (0,0)))(R:p.length<=60)(S:f9 1 m 100000)(A:∀k,k<w.heap.size->F k->k≠X):eE am 158 #[v,X] w λ e a=>e=()/\(∃d:Int,a.heap[X]?=some (.cells [.int .i64 d].toArray 3 (0,0))/\f9 1 d 100000)/\aA w a λ k=>k=X:=by obtain⟨B,D,rfl,_,_⟩:=id l.E;have E:=Inv.FJ o;have T:=aQ o;refine vc aY aZ func158 rfl [.O (.v _),.O (.p 0 X 0)] _ (by exact⟨_,_,rfl,rfl,_,_,rfl,mH,rfl⟩) E λ U C=>(z ?_);refine⟨Nat×Nat,λ q=>[(3,.O (.v (.int .i64 q.2))),(8,.O (.v (.int .i64 q.1)))],λ _=>[none],λ q a=>q.1<=p.length/\q.2<=q.1/\aA w a λ k=>k=X,λ q=>p.length-q.1,λ r G=>(⟨(0,0),⟨fy _,.Y,G.bm (aA.Y ..) ⟨.N rfl,QD⟩⟩,oK,mD⟩),?_⟩;rintro⟨j,n⟩r ⟨H,I,b⟩;simp only at H I b;have s:=b.size;refine oz (λ h=>?_) λ h=>?_;have J:j<p.length:=oo;obtain⟨c,K⟩:∃c,p[j]?=some c:=(eB J);obtain⟨f,L,V,M,t,N,y,W,g,O⟩:=l.at K oo;simp only[cL]at t;obtain⟨rfl,-,rfl⟩:=t;have g:M=wm c:=g;subst g;have P:=A f y N;have Q:r.rangeAt f _ [c.op,c.a]:=λ i u q=>(cJ.cell?_of_block (b.block f y P)).J (O i u q);refine z ?_;refine(jj ?_);refine z ?_;refine⟨_,rfl,⟨(az Q),aX oo⟩,z λ Y i u=>?_⟩;have Z:Y≠X:=oo;refine z ?_;refine⟨λ h=>?_,λ h=>?_⟩<;>simp at h;refine x λ a q=>?_;exact⟨rfl,(j+1,n+1),⟨oo,oo,q.bm b ⟨.N rfl,.I (lI s i),QD⟩⟩,oK,oK,(by grind)⟩;refine x λ a q=>?_;exact⟨rfl,(j+1,n),⟨oo,oo,q.bm b ⟨.N rfl,.I (lI s i),QD⟩⟩,oK,oK,(by grind)⟩;refine oz (λ h=>?_) λ h=>?_;have h1:m*(1+n)<=1000*61:=Int.mul_le_mul oo oo oo oo;have h2:0<m*(1+n):=Int.mul_pos oo oo;refine x ?_;refine⟨⟨by show-9223372036854775808<=m*(1+n);omega,by show m*(1+n)<=9223372036854775807;omega⟩,?_⟩;refine x ?_;intro a q;exact⟨rfl,⟨m*(1+n),q.cells (j:=0) rfl rfl,oo,oo⟩,q.bm b ⟨.N rfl,QD⟩⟩;refine z ?_;intro a q;exact⟨rfl,⟨_,q.cells (j:=0) rfl rfl,oo,oo⟩,q.bm b ⟨.N rfl,QD⟩⟩
section
def azn(l)(F)(v)(p)(G)(u w)(U:dj w F v l)(V:gP w G u p)(hl:∀c∈l,c.prog.length<=60)(hp:∀c∈p,c.node.prog.length<=60):eE am 83 #[v,u] w λ e d=>(∃b,ea e (.bool b))/\bi w w d:=by
 obtain⟨av,cv,rfl,jU,W⟩:=U.E;obtain⟨au,cu,rfl,aJ,Z⟩:=V.E;unfold pJ at W Z;refine oY func83 λ aK C=>?_;intro X B _;refine z ?_;refine⟨Nat×Int,λ q=>[(14,.O (.v (.int .i64 q.1)))],λ q=>[some [.v q.2]],λ q d=>q.1<=l.length/\(1<=q.2/\q.2<=100000)/\bi w w d,λ q=>l.length-q.1,λ D aT=>(⟨(0,1),⟨fy _,oo,(rl aT)⟩,oK,mD⟩),?_⟩;rintro⟨j,m⟩D ⟨E,n,b⟩;simp only at E n b;have H:=b.size;refine oz (λ h=>?_) λ h=>?_;have I:j<l.length:=by omega
 obtain⟨c,J⟩:∃c,l[j]?=some c:=(eB I);obtain⟨b1,o1,c1,f,r,_,q1,K,tc,s⟩:=((U.M λ k g a=>(⟨a,g⟩:F k/\k<w.heap.size)).B b).get J;simp only[cL]at r;obtain⟨rfl,-,rfl⟩:=r;have L:=dM.pr K;simp only[dM.cs]at s;refine z ?_;refine(jj ?_);refine z ?_;refine⟨_,rfl,⟨(az s),aX oo⟩,z λ Y hY M=>?_⟩;have t:w<=Y:=oo;have BP:Y≠X:=(y1 M.1);refine z ?_;refine aB.turn (S:=λ _=>False) (F:=λ k=>k=X) 0 rfl rfl (lW b) (aF B t) (λ o N O i P=>akW _ _ _ X m o (L.di (mP i)) P oV n oo) ?_;rintro o e eW i N O ⟨rfl,⟨y,Q,R⟩,S⟩;refine⟨_,[y],rfl,S,(oK),oo,Q,λ T aI=>(x λ d A=>?_)⟩;exact⟨rfl,(j+1,y),⟨oo,R,(A.bm T (aF B t)).low⟩,oK,oK,(by grind)⟩;refine z ?_;refine⟨Nat×Int,λ q=>[(25,.O (.v (.int .i64 q.1)))],λ q=>[some [.v q.2]],λ q d=>q.1<=p.length/\(1<=q.2/\q.2<=100000)/\bi w w d,λ q=>p.length-q.1,λ o i=>(⟨(0,m),⟨fy _,n,(kB b i H)⟩,oK,mD⟩),?_⟩;rintro⟨j,m⟩D ⟨E,n,b⟩;simp only at E n b;have H:=b.size;refine oz (λ h=>?_) λ h=>?_;have I:j<p.length:=by omega
 obtain⟨c,J⟩:∃c,p[j]?=some c:=(eB I);obtain⟨b1,o1,c1,f,r,_,q1,q,tc,s⟩:=((V.M λ k g a=>(⟨a,g⟩:G k/\k<w.heap.size)).B b).get J;simp only[cL]at r;obtain⟨rfl,-,rfl⟩:=r;have K:=akU q;have L:=dM.pr K;simp only[Eu,dM.cs,xD,xe]at s;refine z ?_;refine⟨_,_,rfl,⟨by omega,oo⟩,z ?_⟩;refine⟨_,rfl,⟨(az s),aX oo⟩,z λ Y hY M=>?_⟩;have t:w<=Y:=oo;have BP:Y≠X:=(y1 M.1);refine z ?_;refine aB.turn (S:=λ _=>False) (F:=λ k=>k=X) 0 rfl rfl (lW b) (aF B t) (λ o N O i P=>akW _ _ _ X m o (L.di (mP i)) P oV n oo) ?_;rintro o e eW i N O ⟨rfl,⟨y,Q,R⟩,S⟩;refine⟨_,[y],rfl,S,(oK),oo,Q,λ T aI=>(x λ d A=>?_)⟩;exact⟨rfl,(j+1,y),⟨oo,R,(A.bm T (aF B t)).low⟩,oK,oK,(by grind)⟩;refine z ?_;intro d A;exact⟨ax,(kB b A H)⟩
def azo(l):∀y∈(mS l).1,y.node.prog.length<=60:=by unfold mS JL;split;intro y l;have:=(Sy _ _ y l).2.1;omega;intro y l;simp at l
structure abF where
 v:eQ
 l:List Sp
 q:Nat→Prop
 r:Nat→Prop
def Dp(w:cJ)(N:Nat)(F:Nat->Prop)(a:abF):Prop:=∃b,Sl w a.q 52 15 a.v a.l b/\Cs 15 (nu w λ k=>F k\/a.r k) a.l b/\hJ b/\∀k,a.q k\/a.r k->(N<=k/\k<w)/\(a.r k->¬a.q k)
section
variable {w w0 w':cJ} {N:Nat} {F:Nat→Prop} {a:abF}
def Dp.y(h:Dp w N F a)(d:w<=w'.heap.size)(c:∀k,k<w.heap.size->F k\/a.q k\/a.r k->cm w' k=w.heap[k]?):Dp w' N F a:=by obtain⟨x,b,c,d,e⟩:=h;exact⟨x,b.V oV,c.M λ x c _ h=>h.V oV,d,oV⟩
def Dp.rows(h:Dp w N F a):gP w (λ _=>True) a.v a.l:=by obtain⟨d,x,b,c,e⟩:=h;exact(x.M λ _ _ _=>QD).rows (b.M λ x b _ h=>h.M λ _ _ _=>QD) c oo
def Dp.lt(h:Dp w N F a){k}(b:a.q k\/a.r k):k<w:=by obtain⟨_,_,_,_,c⟩:=h;exact(c k b).1.2
def At.news{c a n k cap}(d:0<k)(f:a.length=n*k)(g:hJ a)(h:At w F c a):jn w k (.slice c n cap) n a:=by refine⟨f,g,c,cap,rfl,λ i=>?_⟩;have:1*1<=n*k:=Nat.mul_le_mul i d;obtain⟨u,l⟩:∃u,a[0]?=some u:=mj;obtain⟨b,p,rfl,_,_⟩:=h 0 u l;refine⟨_,rfl,λ j u m=>?_⟩;obtain⟨q,r,e,_,o⟩:=h j u m;simp only[BY,KH]at e;obtain⟨rfl,rfl,-⟩:=e;rw[Hq];exact o
def cG.all{s}{K}{y}{p}{v}(h:Nat->Prop)(z:bi w w w0)(X:w<=w0.heap.size)(A:fE w s)(C:Dp w0 w F a)(Y:sA F w)(D:gP w0 (λ k=>F k\/h k) y p)(l:∀k,k<w0.heap.size->F k\/a.q k\/a.r k\/h k->bX s k)(E:∀k,h k->(w<=k/\k<w0)/\¬a.q k)(Z:a.l+p.length<=100000)(H:∀v' w' i,i.v=v'/\i.l=a.l++p->Dp w' w F i->(∀k,i.q k\/i.r k->k<w'/\bX s k)->bi w w w'->w0<=w'.heap.size->(∀k,k<w0.heap.size->¬a.q k->bX s k->cm w' k=w0.heap[k]?)->K (.O (.v v')) s w'):cG am (pV #[28,28] v #[a.v,y]) s w0 K:=by
 obtain⟨n,I,J,h3,L⟩:=C;obtain⟨ao,aI,o,rfl,g2,g3,q,M,N⟩:=D;obtain⟨O,P,Q,R,S⟩:=sB Tryz.Z1;have T:=q.length;refine cG.app (S:=λ _=>False) (lW z) (A.M λ _ a=> .I a) VQ P Q R S rfl I oV (λ U r=>At.news oo T M ((At.M N (G:=λ b=>(F b\/h b)/\b<w0) hP).V λ b e _=>r.Q b e.2 (l b e.2 (e.1.imp id λ c=> .I (.I c))).em)) (et) oo λ v' w' U V W r=>?_;have t:∀(G:Nat->Prop)x g,(∀k,k<w0.heap.size->G k->bX s k/\¬a.q k)->nu w0 G x g->nu w' (λ k=>G k/\k<w0) x g:=λ G x g u j=>(j.M hP).V λ k b _=>r.block k b.2 λ d=>by rcases d with⟨B,m,e⟩|d;exact(u k b.2 b.1).1.em B m e;exact(u k b.2 b.1).2 d.1
 have G:∀k,F k->¬a.q k:=oV;refine H v' w' ⟨v',a.l++p,λ k=>(((a.q k/\k<w0)\/w0<=k)/\bX s k)/\k<w',λ k=>(a.r k\/h k)/\k<w0⟩ mH ⟨n++o,by rw[da];exact U.M hP,(J.M λ x g _ j=>(t _ x g (λ k f b=>⟨l k f (b.imp id λ c=> .I (.N c)),b.F (G k) λ c=>(L k (.I c)).2 c⟩) j).M λ k _ b=>b.1.imp id λ c=>⟨.N c,b.2⟩).append (q.M λ x g _ j=>(t _ x g (λ k f b=>⟨l k f (b.imp id λ c=> .I (.I c)),b.F (G k) λ c=>(E k c).2⟩) j).M λ k _ b=>b.1.imp id λ c=>⟨.I c,b.2⟩),oV,λ k b=>?_⟩ (λ k b=>?_) V.low W λ k f a c=>r.block k f λ d=>?_;grind;grind;rcases d with⟨B,m,e⟩|d;exact c.em B m e;exact a d.1
end
def CM.get{w F v l}(h:CM w F v l){i x}(n:l[i]?=some x):∃b a k c d e f g j,v= nx b a l k/\F b/\b<w/\Bm w F (.slice c x.l d) x.l/\gP w F (.slice e x.p f) x.p/\N2 w F (.slice g x.V j) x.V/\(Je x.n/\Je x.m)/\w.rangeAt b (a+i*8) [x.k,x.n,x.m,.slice c x.l d,.slice e x.p f,x.s,.slice g x.V j,x.cut]:=by obtain⟨b,a,k,u,o,p,q,y,⟨z,A,B,r,F,l,m,s⟩,t⟩:=bS.at h n oo;obtain⟨c,d,rfl,_,_⟩:=id F.E;obtain⟨e,f,rfl,_,_⟩:=id l.E;obtain⟨g,j,rfl,_,_⟩:=id m.E;subst r;exact⟨b,a,k,c,d,e,f,g,j,o,p,q,F,l,m,s,t⟩
def azp(l)(F)(v)(es)(G0)(u)(w)(hv:dj w F v l)(FA:CM w G0 u es):eE am 34 #[v,u,bs 100] w fun e w'=>(∃b,ea e (.bool b)∧(b=false→es.length≤100∧MQ l∧∀x∈es,Jv x))∧bi w w w':=by
 obtain⟨av,cv,rfl,_,_⟩:=id hv.E
 obtain⟨G,hG⟩:∃G:Nat→Prop,G=fun k=>G0 k∧k<w:=ax
 have AL:∀k,G k→k<w:=fun k a=>by rw [hG] at a;exact a.2
 have hu:CM w G u es:=bS.M FA (fun k hk a=>by rw [hG];exact⟨a,hk⟩) fun x cs _ hx=>hx.M fun k hk a=>by rw [hG];exact⟨a,hk⟩
 clear FA hG
 obtain⟨au,cu,rfl,jU,hl2⟩:=hu.E
 unfold pJ at hl2
 have tt:∀{w':cJ},bi _ w w'→(∃b,Db (.bool _)= .returned _∧(b=false→es.length≤100∧(l.length≤20∧∀x∈l,EP x)∧∀x∈es,Jv x))∧bi w w w':=fun b=>⟨⟨true,rfl,y5⟩,b⟩
 refine br aY aZ func34 rfl λ C hC=>(zz ?_)
 refine⟨fun h0=>?_,fun h0=>?_⟩
 ·have ak5:es.length≤100:=(oG h0)
  refine zz ?_
  refine aB.gen (bi.refl _ w) .Y QD (fun w1 b1 _ _=>akV l F _ [] (fun _=>False) _ w1 (hv.B b1) (kO)) ?_
  rintro w1 e w2 dA b1 n1 ⟨⟨bb,rfl,hb⟩,b2⟩
  refine(jt b2 (fun b3 n3 k3=>?_))
  cases bb
  case true=>
   refine zz ?_
   refine⟨fun _=>?_,fun h=>by cases h⟩
   refine zz ?_
   intro w' hI
   exact tt (kG b3 hI n3)
  case false=>
   have hb:=(hb rfl).1
   refine zz ?_
   refine⟨fun h=>(by cases h),fun _=>?_⟩
   refine zz ?_
   refine⟨Nat×abF,fun q=>[(7,.O (.v q.2.v)),(22,.O (.v (.int .i64 q.1)))],fun _=>[],fun q w'=>q.1≤es.length∧(∀x∈es.take q.1,Jv x)∧Dp w' w G q.2∧bi w w w'∧q.2.l.length≤26*q.1∧∀x∈q.2.l,x.node.prog.length≤60,fun q=>es.length-q.1,?_,?_⟩
   ·intro w8 aT
    exact⟨(0,⟨.slice _ 0 0,[],fun _=>False,fun _=>False⟩),⟨fy _,by simp,⟨[],lg,rfl,by simp,fun k a=>a.F False.F False.F⟩,(kG b3 aT n3),fy _,by simp⟩,o7,QD⟩
   ·rintro⟨j,a⟩ w8 ⟨hj,hg,hA,b8,iH,hap⟩
    simp only at hj hg hA b8 iH hap
    have n8:=b8.size
    obtain⟨aa,ca,hav,_,_⟩:=id hA.rows.E
    refine zz ?_
    refine⟨fun h=>?_,fun h=>?_⟩<;>simp only [bb] at h
    ·have dy:j<es.length:=by omega
     obtain⟨x,hx⟩:∃x,es[j]? =some x:=(eB dy)
     obtain⟨b1,o1,c1,al,cl,ap,cp,ak,ck,e1,_,q1,mL,ER,hxk,_,r1⟩:=(hu.V fun k _ hk=>b8.block k hk).get hx
     simp only [cL] at e1
     obtain⟨rfl,-,rfl⟩:=e1
     have aNu:=ER
     refine zz ?_
     refine⟨_,_,rfl,kN,zz ?_⟩
     refine⟨_,rfl,⟨(az r1),QD⟩,zz ?_⟩
     intro X hX _
     have dx:w≤X:=by omega
     have ret:∀{w':cJ} {t:zo} {cs:List Ce},Inv w8 [⟨X,t,cs⟩] w'→(∃b,Db _= .returned _∧(b=false→es.length≤100∧(l.length≤20∧∀x∈l,EP x)∧∀x∈es,Jv x))∧bi _ w w':=fun hI=>tt (b8.J (hI.B n8 ⟨dx,QD⟩))
     refine zz ?_
     refine⟨fun h1=>?_,fun h1=>?_⟩
     ·refine zz ?_
      refine⟨fun h2=>?_,fun h2=>?_⟩
      ·refine zz ?_
       refine⟨fun h3=>?_,fun h3=>?_⟩
       ·refine zz ?_
        refine aB.gen b8 n8 ⟨dx,QD⟩ (fun w9 b9 _ dY=>akV [] (fun _=>False) _ x.p G _ w9 (kO) (ER.V fun k a hk=>dY.Q k hk (aX (by have:=AL k a;omega)).em)) ?_
        rintro w9 e eW dY b9 n9 ⟨⟨bb,rfl,Mx⟩,jL⟩
        refine(jt jL (fun tQ n11 jJ=>?_))
        have yA:=dY.size
        have Gj:=jL.size
        cases bb
        case true=>
         refine zz ?_
         refine⟨fun h=>(by cases h),fun _=>?_⟩
         refine zz ?_
         intro w' hI
         exact tt (tQ.J (hI.B n11 ⟨dx,QD⟩))
        case false=>
         have Mx:=(Mx rfl).2
         refine zz ?_
         refine⟨fun _=>?_,fun h=>by cases h⟩
         refine zz ?_
         refine⟨fun h=>?_,fun h=>?_⟩<;>simp only [bb] at h
         ·refine zz ?_
          intro w' hI
          exact tt (tQ.J (hI.B n11 ⟨dx,QD⟩))
         ·have Pj:Jv x:=⟨(oG h1),(oG h2),(oG h3),Mx.1,Mx.2,by omega⟩
          have Dl:∀y∈es.take _,Jv y:=fun y hy=>by
           rw [uk,hx] at hy
           rcases (lG hy) with hy|hy
           ·exact hg y hy
           ·simp  at hy
            subst hy
            exact Pj
          have tr:=hX
          have azq:=hA.y jJ.size fun k hk _=>jJ.Q k hk (aX (by omega)).em
          have Kg:∀k,a.q k∨a.r k→k<w8:=fun k hk=>hA.lt hk
          have Gj:=jJ.size
          have aNv:=Mx.1
          have ak7:∀y∈x.p,y.node.prog.length≤60:=fun y hy=>(Mx.2 y hy).1
          refine zz ?_
          refine cG.all (a:=a) (fun _=>False) tQ n11 ⟨dx,QD⟩ azq AL (((ER.M fun k hk a=>(⟨a,hk⟩:G k∧k<w8)).V (fun k a hk=>jJ.Q k a.2 (aX (mg a)).em)).M fun k _ a=> .N a.1) (fun k _ a=>aX (by
           rcases a with a|a|a|a
           ·have:=AL k a;omega
           ·have:=Kg k (.N a);omega
           ·have:=Kg k (.I a);omega
           ·exact a.F)) (fun k a=>a.F) (by omega) ?_
          rintro v12 jT a12 ⟨rfl,SA⟩ ak8 WG uY z12 J0
          obtain⟨aNw,aNx,aNy,_,_⟩:=id ak8.rows.E
          have hs2:x.s.data.toList.length≤140737488351232:=by
           have e:x.s.data.toList.length=x.s.size:=rfl
           have:=Pj.s
           omega
          refine zz ?_
          refine aB.gen uY uY.size ⟨dx,QD⟩ (fun lB AK _ Iz=>OD x.s lB hs2) ?_
          rintro lB e jb Iz AK n13 ⟨pv,rfl,Kh,IA⟩
          obtain⟨apv,cpv,rfl,_,_⟩:=id Kh.E
          refine(jt IA (fun SB n15 ES=>?_))
          have F5:=Iz.size
          have Mj:=IA.size
          have azr:=Iz.bJ 0 rfl
          have hGX:∀k,G k→X≠k:=fun k a=>by have:=AL k a;omega
          have mQ:∀k,G k∨a12.q k∨a12.r k→X≠k:=fun k e=>e.F (hGX k) fun e=>(WG k e).2.1
          have ak9:=ak8.y ES.size fun k hk e=>ES.Q k hk (aX (mQ k e)).em
          refine zz ?_
          refine⟨fun h=>?_,fun h=>?_⟩<;>simp  at h
          ·have fD:=ajT x.s.data.toList
           have azs:=azo x.s.data.toList
           refine zz ?_
           refine cG.all (fun k=>lB≤k∧k<jb) SB n15 ⟨dx,QD⟩ ak9 AL (Kh.M fun k hk a=> .I ⟨a,hk⟩) (fun k _ e=>aX (by
            rcases e with e|e|e|e
            ·exact hGX k e
            ·exact mQ k (.I (.N e))
            ·exact mQ k (.I (.I e))
            ·have:=e.1;omega)) (fun k e=>⟨⟨(nX e),e.2⟩,fun d=>by have:=(WG k (.N d)).1;have:=e.1;omega⟩) (by have:=fD.2;rw [SA,da];omega) ?_
           rintro v16 w16 a16 ⟨rfl,ala⟩ alb azu My z16 R7
           obtain⟨aNB,aNC,aND,_,_⟩:=id alb.rows.E
           refine zx λ w' hI=>?_
           exact⟨rfl,(j+1,a16),⟨by omega,Dl,alb.y hI.size fun k hk e=>hI.Q k hk (aX (e.F (hGX k) fun e=>(azu k e).2.1)).em,My.J (hI.B My.size ⟨dx,QD⟩),by simp only;rw [ala,SA,da,da];have:=fD.2;omega,fun y hy=>by
            simp only at hy
            rw [ala,SA] at hy
            exact(wH.1 hy).F (fun hy=>(wH.1 hy).F (hap y) (ak7 y)) (azs y)⟩,o7,eL,(by show es.length-(j+1)<es.length-j;omega)⟩
          ·refine zx λ w' hI=>?_
           exact⟨rfl,(j+1,a12),⟨by omega,Dl,ak9.y hI.size fun k hk e=>hI.Q k hk (aX (mQ k e)).em,SB.J (hI.B n15 ⟨dx,QD⟩),by simp only;rw [SA,da];omega,fun y hy=>by
            simp only at hy
            rw [SA] at hy
            exact(wH.1 hy).F (hap y) (ak7 y)⟩,o7,eL,(by show es.length-(j+1)<es.length-j;omega)⟩
       ·exact zz λ w' hI=>(ret hI)
      ·exact zz λ w' hI=>(ret hI)
     ·exact zz λ w' hI=>(ret hI)
    ·have gV:j=es.length:=by omega
     subst gV
     rw [wy] at hg
     refine zz ?_
     refine aB.gen b8 n8 QD (fun w9 b9 _ dY=>azn l F _ a.l _ _ w9 (hv.B (kG b8 dY n8)) (hA.y dY.size fun k hk _=>(gW dY k hk)).rows (fun x hx=>(hb.2 x hx).1) hap) ?_
     rintro w9 e eW dY b9 n9 ⟨⟨bb,rfl⟩,jL⟩
     refine(jt jL (fun tQ n11 jJ=>?_))
     refine zz ?_
     intro w' hI
     exact⟨⟨bb,rfl,fun _=>⟨ak5,hb,hg⟩⟩,(kG tQ hI n11)⟩
 ·refine zz ?_
  intro w' hI
  exact tt (kW hI)
end
end Go.Proofs.YtinijkiakbbokaaGreat
