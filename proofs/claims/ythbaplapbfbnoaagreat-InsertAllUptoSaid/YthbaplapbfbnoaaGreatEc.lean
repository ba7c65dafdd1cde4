import Derived.Test.YthbaplapbfbnoaaGreatEb
import Derived.Recover
/- An interpreter of the model's code that follows one order and is proved right for all: part 3. -/

set_option maxRecDepth 100000
namespace Go.Eng
section
structure Cx where
 P:Program
 A:aN
 rn:ly
 ins:List Nat
 kept:List Nat
 n:Nat
 ops:List Oper
 fQ:List Nat
 σ0:pd
 D0:List gf
 H0:Heap
 nx0:Nat
abbrev Cx.Ok(X:Cx):List Rec->Rec->Prop:=OX X.P X.A X.rn X.ins X.kept X.n X.ops X.fQ
abbrev Cx.Ch(X:Cx):List Rec->Prop:=JM X.P X.A X.rn X.ins X.kept X.n X.ops X.fQ X.σ0 X.D0 X.H0 X.nx0
abbrev Cx.At(X:Cx):List Rec->pd->List gf->Heap->Nat->Prop:=Eng.At X.σ0 X.D0 X.H0 X.nx0
def Rec.hv(q:Rec):Prop:=cO (cK q.a)=true
def Rec.mk'(q:Rec):Prop:=jL (cK q.a)=true
variable {X:Cx}{S:Nat->Prop}
theorem du:∀{R:List Rec} {q:Rec},X.Ch R->q∈R->∃post pre,R=post++q::pre/\X.Ok pre q/\X.At pre q.σ q.D q.H q.nx/\X.Ch pre:=by
 intro R
 induction R with
 | nil=>intro q _ hq;simp at hq
 | cons r R ih=>
  intro q h hq;obtain⟨h1,h2,h3⟩:=h;rcases dT.1 hq with rfl|hq
  ·exact⟨[],R,rfl,h1,h2,h3⟩
  ·obtain⟨post,pre,e,k1,k2,k3⟩:=ih h3 hq;exact⟨r::post,pre,by rw[e];rfl,k1,k2,k3⟩
theorem ym:∀{post pre:List Rec},X.Ch (post++pre)->X.Ch pre:=by
 intro post
 induction post with
 | nil=>intro pre h;exact h
 | cons q post ih=>intro pre h;exact ih h.2.2
theorem rS:∀{post pre:List Rec} {r:Rec},X.Ch (post++r::pre)->∀q∈post,∃pq,X.Ok pq q/\r∈pq/\(∀p∈pre,p∈pq)/\X.At pq q.σ q.D q.H q.nx/\X.Ch pq:=by
 intro post
 induction post with
 | nil=>intro pre r _ q hq;simp at hq
 | cons p post ih=>
  intro pre r h q hq;rcases dT.1 hq with rfl|hq
  ·exact⟨post++r::pre,h.1,by simp,λp hp=>by simp[hp],h.2.1,h.2.2⟩
  ·exact ih h.2.2 q hq
theorem n6:∀{R:List Rec},X.Ch R->∀q∈R,∀q'∈R,q.i=q'.i->q=q':=by
 intro R
 induction R with
 | nil=>intro _ q hq;simp at hq
 | cons r R ih=>
  intro h q hq q' iE e;rcases dT.1 hq with e1|vR
  ·rcases dT.1 iE with e2|CE
   ·rw[e1,e2]
   ·rw[e1]at e;exact absurd e.symm (h.1.new q' CE)
  ·rcases dT.1 iE with e2|CE
   ·rw[e2]at e;exact absurd e (h.1.new q vR)
   ·exact ih h.2.2 q vR q' CE e
theorem TB{A:aN}{rn:ly}{o:Oper}{b:cr Od}{g:Option (Nat×Bool)}{T:Tr Value}{L:List Value}{D:List gf}{H:Heap}{nx:Nat}{v:Value}{D':List gf}{H':Heap}{nx':Nat}(hu:iR rn)(h:Step A rn o b g T L D H nx v D' H' nx'):nx<=nx':=by
 cases h with
 | alias=>exact au _
 | jc=>exact au _
 | did hw _ _ _ _ h _=>exact Tz hu h
theorem HT(hu:iR X.rn){pre:List Rec}{r:Rec}(h:X.Ok pre r):r.nx<=r.nx':=by
 obtain⟨env,T,L,b,g,_,_,_,_,hs⟩:=h.step;exact TB hu hs
theorem eV(hu:iR X.rn):∀{pre:List Rec} {σ:pd} {D:List gf} {H:Heap} {nx:Nat},X.Ch pre->X.At pre σ D H nx->X.nx0<=nx/\∀q∈pre,q.nx'<=nx/\X.nx0<=q.nx:=by
 intro pre
 induction pre with
 | nil=>intro σ D H nx _ h;exact⟨Nat.le_of_eq h.2.2.2.symm,λq hq=>by simp at hq⟩
 | cons r pre ih=>
  intro σ D H nx hc h;obtain⟨h1,h2,h3⟩:=hc;obtain⟨k1,k2⟩:=ih h3 h2;have h4:=HT hu h1;have h5:nx=r.nx':=h.2.2.2;refine⟨V,λq hq=>?_⟩;rcases dT.1 hq with rfl|hq
  ·exact⟨Nat.le_of_eq h5.symm,k1⟩
  ·have:=k2 q hq;omega
theorem nz:∀{pre:List Rec} {σ:pd} {D:List gf} {H:Heap} {nx:Nat},X.Ch pre->X.At pre σ D H nx->∀t,(∃q∈pre,q.o.dst=some t/\σ t=q.v)\/((∀q∈pre,q.o.dst≠some t)/\σ t=X.σ0 t):=by
 intro pre
 induction pre with
 | nil=>intro σ D H nx _ h t;exact .inr ⟨λq hq=>by simp at hq,by rw[h.1]⟩
 | cons r pre ih=>
  intro σ D H nx hc h t;obtain⟨h1,h2,h3⟩:=hc;have hσ:σ=r.σ.set r.o.dst r.v:=h.1;by_cases hd:r.o.dst=some t
  ·refine .inl ⟨r,hJ,hd,?_⟩;rw[hσ,hd];show (if t=t then r.v else r.σ t)=r.v;rw[aJ rfl]
  ·have hσt:σ t=r.σ t:=by
    rw[hσ];cases hdd:r.o.dst with
    | none=>rfl
    | some d=>
     show (if t=d then r.v else r.σ t)=r.σ t;rw[aw (λe=>hd (by rw[hdd,e]))]
   rcases ih h3 h2 t with⟨q,hq,e1,e2⟩|⟨e1,e2⟩
   ·exact .inl ⟨q,fY _ hq,e1,hσt.trans e2⟩
   ·refine .inr ⟨λq hq=>?_,hσt.trans e2⟩;rcases dT.1 hq with rfl|hq
    ·exact hd
    ·exact e1 q hq
def cT(S:Nat->Prop)(H0:Heap):List Rec->Nat->jb->Prop
 | [],b,k=>ah H0 (at_ b)=some k
 | q::R,b,k=>(S q.i/\q.hv/\ah q.H' (at_ b)=some k)\/(S q.i/\q.mk'/\q.nx<q.nx'/\b=q.nx/\ah q.H' (at_ b)=some k)\/(¬(S q.i/\q.hv)/\cT S H0 R b k)
def JQ(S:Nat->Prop)(D0:List gf):List Rec->List gf->Prop
 | [],D=>D=D0
 | q::R,D=>(S q.i/\q.hv/\D=q.D')\/(¬(S q.i/\q.hv)/\JQ S D0 R D)
theorem pG{H0:Heap}{pre:List Rec}{b:Nat}{k:jb}:∀{post:List Rec},(∀q∈post,¬(S q.i/\q.hv))->cT S H0 pre b k->cT S H0 (post++pre) b k:=by
 intro post
 induction post with
 | nil=>intro _ h;exact h
 | cons q post ih=>intro hp h;exact .inr (.inr ⟨hp q hJ,ih (λp hq=>hp p (fY _ hq)) h⟩)
theorem E1{H0:Heap}{pre:List Rec}{b:Nat}{k:jb}{m:Rec}:∀{post:List Rec},(∀q∈post,¬(S q.i/\q.hv))->m∈post->S m.i->m.mk'->m.nx<m.nx'->b=m.nx->ah m.H' (at_ b)=some k->cT S H0 (post++pre) b k:=by
 intro post
 induction post with
 | nil=>intro _ hm;simp at hm
 | cons q post ih=>
  intro hp hm h1 h2 h3 h4 h5;rcases dT.1 hm with rfl|hm
  ·exact .inr (.inl ⟨h1,h2,h3,h4,h5⟩)
  ·exact .inr (.inr ⟨hp q hJ,ih (λp hq=>hp p (fY _ hq)) hm h1 h2 h3 h4 h5⟩)
theorem HU{H0:Heap}{pre:List Rec}{b:Nat}{k:jb}:∀{post:List Rec},(∀q∈post,¬(S q.i/\q.hv))->cT S H0 (post++pre) b k->
  cT S H0 pre b k\/∃m∈post,S m.i/\m.mk'/\m.nx<m.nx'/\b=m.nx/\ah m.H' (at_ b)=some k:=by
 intro post
 induction post with
 | nil=>intro _ h;exact .inl h
 | cons q post ih=>
  intro hp h;rcases h with⟨h1,h2,_⟩|⟨h1,h2,h3,h4,h5⟩|⟨_,h⟩
  ·exact absurd ⟨h1,h2⟩ (hp q hJ)
  ·exact .inr ⟨q,hJ,h1,h2,h3,h4,h5⟩
  ·rcases ih (λp hq=>hp p (fY _ hq)) h with h|⟨m,hm,g⟩
   ·exact .inl h
   ·exact .inr ⟨m,fY _ hm,g⟩
theorem CF{H0:Heap}{S':Nat->Prop}{b:Nat}{k:jb}:∀{R:List Rec},(∀q∈R,(q.hv\/q.mk'/\q.nx<q.nx')->(S' q.i↔S q.i))->cT S' H0 R b k->cT S H0 R b k:=by
 intro R
 induction R with
 | nil=>intro _ h;exact h
 | cons q R ih=>
  intro hp h;have hq:=hp q hJ;rcases h with⟨h1,h2,h3⟩|⟨h1,h2,h3,h4,h5⟩|⟨h1,h⟩
  ·exact .inl ⟨(hq (.inl h2)).1 h1,h2,h3⟩
  ·exact .inr (.inl ⟨(hq (.inr ⟨h2,h3⟩)).1 h1,h2,h3,h4,h5⟩)
  ·refine .inr (.inr ⟨λ⟨g1,g2⟩=>h1 ⟨(hq (.inl g2)).2 g1,g2⟩,ih (λp hm=>hp p (fY _ hm)) h⟩)
theorem E2{H0:Heap}{S':Nat->Prop}{b:Nat}{k:jb}{r:Rec}(hr:r.mk')(hs:∀i,S' i↔S i\/i=r.i):∀{R:List Rec},(∀q∈R,q.i=r.i->q=r)->cT S' H0 R b k->
  cT S H0 R b k\/(r.nx<r.nx'/\b=r.nx/\ah r.H' (at_ b)=some k):=by
 have Xo:¬r.hv:=by
  intro hh;unfold Rec.hv at hh;unfold Rec.mk' at hr;cases hk:cK r.a<;>rw[hk]at hh hr<;>simp[cO,jL]at hh hr
 intro R
 induction R with
 | nil=>intro _ h;exact .inl h
 | cons q R ih=>
  intro hu h;have hq:∀_:q.hv,(S' q.i↔S q.i):=by
   intro hv;rw[hs];refine⟨λh=>h.elim id λe=>?_,.inl⟩;have:=hu q hJ e;subst this;exact absurd hv Xo
  rcases h with⟨h1,h2,h3⟩|⟨h1,h2,h3,h4,h5⟩|⟨h1,h⟩
  ·exact .inl (.inl ⟨(hq h2).1 h1,h2,h3⟩)
  ·rcases(hs q.i).1 h1 with h1|e
   ·exact .inl (.inr (.inl ⟨h1,h2,h3,h4,h5⟩))
   ·have:=hu q hJ e;subst this;exact .inr ⟨h3,h4,h5⟩
  ·rcases ih (λp hm=>hu p (fY _ hm)) h with h|h
   ·exact .inl (.inr (.inr ⟨λ⟨g1,g2⟩=>h1 ⟨(hq g2).2 g1,g2⟩,h⟩))
   ·exact .inr h
theorem E3{D0:List gf}{pre:List Rec}{D:List gf}:∀{post:List Rec},(∀q∈post,¬(S q.i/\q.hv))->(JQ S D0 (post++pre) D↔JQ S D0 pre D):=by
 intro post
 induction post with
 | nil=>intro _;exact Iff.rfl
 | cons q post ih=>
  intro hp;have h1:=ih λp hq=>hp p (fY _ hq)
  have h2:=hp q hJ;constructor
  ·rintro(⟨g1,g2,_⟩|⟨_,g⟩)
   ·exact absurd ⟨g1,g2⟩ h2
   ·exact h1.1 g
  ·intro h;exact .inr ⟨h2,h1.2 h⟩
theorem Bo{D0:List gf}{S':Nat->Prop}{D:List gf}:∀{R:List Rec},(∀q∈R,q.hv->(S' q.i↔S q.i))->JQ S D0 R D->JQ S' D0 R D:=by
 intro R
 induction R with
 | nil=>intro _ h;exact h
 | cons q R ih=>
  intro hp h;have hq:=hp q hJ;rcases h with⟨h1,h2,h3⟩|⟨h1,h⟩
  ·exact .inl ⟨(hq h2).2 h1,h2,h3⟩
  ·exact .inr ⟨λ⟨g1,g2⟩=>h1 ⟨(hq g2).1 g1,g2⟩,ih (λp hm=>hp p (fY _ hm)) h⟩
theorem E4{D0:List gf}{D D':List gf}:∀{R:List Rec},JQ S D0 R D->JQ S D0 R D'->D=D':=by
 intro R
 induction R with
 | nil=>intro h h';exact h.trans h'.symm
 | cons q R ih=>
  intro h h';rcases h with⟨h1,h2,h3⟩|⟨h1,h⟩
  ·rcases h' with⟨_,_,Nw⟩|⟨ru,_⟩
   ·exact h3.trans Nw.symm
   ·exact absurd ⟨h1,h2⟩ ru
  ·rcases h' with⟨g1,g2,_⟩|⟨_,h'⟩
   ·exact absurd ⟨g1,g2⟩ h1
   ·exact ih h h'
end
section
variable {X:Cx}{S:Nat->Prop}{A:aN}{rn:ly}{T:Tr Value}{L:List Value}{D:List gf}{H:Heap}{nx:Nat}
theorem ko{α:Type}{a:cr α}(h:¬cO (cK a)=true):a.plain=true:=by
 cases a<;>first|rfl|(exact absurd rfl h)
theorem CG{b:cr Od}{v:Value}{D':List gf}{H':Heap}{nx':Nat}(hp:b.plain=true)(h:∀p ag k,uf b A rn p ag k b T L D H nx=bX A.P p ag k T L D' v H' nx'):∀k,cY b A.P T L H nx k=k v H' nx':=by
 have h1:=h none [] uT;rw[lh hp]at h1;obtain⟨r0,HL⟩:∃r0,bX A.P none [] uT T L D' v H' nx'=some r0:=⟨_,jR.trans rfl⟩;have h2:cY b A.P T L H nx (uk λx=>bX A.P none [] uT T L D x.1 x.2.1 x.2.2)=some r0:=h1.trans HL;obtain⟨x,g1,g2⟩:=th b _ _ h2;obtain⟨e1,_,e2,e3⟩:=EO (g1.trans HL.symm);intro k;rw[<-e1,<-e2,<-e3];exact g2 λx=>k x.1 x.2.1 x.2.2
theorem O3{pre:List Rec}{r:Rec}(h:X.Ok pre r)(hm:r.mk')(cg:r.nx<r.nx'):∃blk,r.H'=cA (at_ r.nx) r.H (some blk)/\r.nx'=r.nx+1:=by
 obtain⟨env,T,L,b,g,ht,_,_,_,hs⟩:=h.step;have hk:cK b=.make:=by
  have h1:jL (cK r.a)=true:=hm;rw[lj (.loc 0) ht];cases hk:cK r.a<;>rw[hk]at h1<;>first|rfl|simp[jL]at h1
 generalize r.v=v at hs;generalize r.D'=D' at hs;generalize hH:r.H'=H' at hs;generalize hn:r.nx'=nx' at hs cg;cases hs with
 | alias=>omega
 | jc=>omega
 | did hw _ _ _ _ hd _=>
  obtain⟨blk,e1,e2,_⟩:=yl hk (CG (ko (by rw[hk];simp[cO])) hd);exact⟨blk,e1,e2⟩
theorem E5{pre:List Rec}{r:Rec}(h:X.Ok pre r)(hh:¬r.hv):r.D'=r.D/\(¬(r.mk'/\r.nx<r.nx')->r.H'=r.H/\r.nx'=r.nx):=by
 obtain⟨env,T,L,b,g,ht,_,_,_,hs⟩:=h.step;have GX:cK b=cK r.a:=lj (.loc 0) ht;unfold Rec.hv at hh;unfold Rec.mk';generalize r.v=v at hs;generalize hD:r.D'=D' at hs;generalize hH:r.H'=H' at hs;generalize hn:r.nx'=nx' at hs;cases hs with
 | alias=>exact⟨rfl,λ_=>⟨rfl,rfl⟩⟩
 | jc=>exact⟨rfl,λ_=>⟨rfl,rfl⟩⟩
 | did hw _ _ _ _ hd hD=>
  have hp:b.plain=true:=ko (by rw[GX];exact hh);have wM:=CG hp hd;refine⟨hD hp,λhn=>?_⟩;cases hk:cK r.a with
  | pure=>
   obtain⟨e1,e2,_⟩:=EZ (GX.trans hk) wM;exact⟨e1,e2⟩
  | load=>
   obtain⟨e1,e2,_⟩:=E0 (GX.trans hk) wM;exact⟨e1,e2⟩
  | make=>
   obtain⟨blk,e1,e2,_⟩:=yl (GX.trans hk) wM;exfalso;apply hn;rw[hk];exact⟨rfl,V⟩
  | di=>rw[hk]at hh;exact absurd rfl hh
theorem pH:∀{pre:List Rec} {σ:pd} {D:List gf} {H:Heap} {nx:Nat},X.Ch pre->X.At pre σ D H nx->∀{b:Nat} {k:jb},(∀q∈pre,q.hv->S q.i)->(∀q∈pre,q.mk'->q.nx<q.nx'->q.nx=b->S q.i)->
  ah H (at_ b)=some k->cT S X.H0 pre b k:=by
 intro pre
 induction pre with
 | nil=>intro σ D H nx _ h b k _ _ hb;rw[h.2.2.1]at hb;exact hb
 | cons r pre ih=>
  intro σ D H nx hc h b k hh hm hb;obtain⟨h1,h2,h3⟩:=hc;have hH:H=r.H':=h.2.2.1;rw[hH]at hb;have ih':=λhb=>ih h3 h2 (b:=b) (k:=k) (λq hq=>hh q (fY _ hq)) (λq hq=>hm q (fY _ hq)) hb
  by_cases SD:r.hv
  ·exact .inl ⟨hh r hJ SD,SD,hb⟩
  ·by_cases JR:r.mk'/\r.nx<r.nx'
   ·obtain⟨blk,e1,e2⟩:=O3 h1 JR.1 JR.2;by_cases e:b=r.nx
    ·exact .inr (.inl ⟨hm r hJ JR.1 JR.2 e.symm,JR.1,JR.2,e,hb⟩)
    ·refine .inr (.inr ⟨λg=>SD g.2,ih' ?_⟩);rw[e1,bz _ _ _ _ (λe'=>e (gy e'))]at hb;exact hb
   ·refine .inr (.inr ⟨λg=>SD g.2,ih' ?_⟩);rw[((E5 h1 SD).2 JR).1]at hb;exact hb
theorem O4:∀{pre:List Rec} {σ:pd} {D:List gf} {H:Heap} {nx:Nat},X.Ch pre->X.At pre σ D H nx->(∀q∈pre,q.hv->S q.i)->JQ S X.D0 pre D:=by
 intro pre
 induction pre with
 | nil=>intro σ D H nx _ h _;exact h.2.1
 | cons r pre ih=>
  intro σ D H nx hc h hh;obtain⟨h1,h2,h3⟩:=hc;have hD:D=r.D':=h.2.1;by_cases SD:r.hv
  ·exact .inl ⟨hh r hJ SD,SD,hD⟩
  ·refine .inr ⟨λg=>SD g.2,?_⟩;rw[hD,(E5 h1 SD).1];exact ih h3 h2 λq hq=>hh q (fY _ hq)
structure gh(X:Cx)(R:List Rec)(ρ0:bY)(w0:World)(S:Nat->Prop)(ρ:bY)(c:Act)(w:World):Prop where
 dom:∀b r,ρ b=some r->b<X.nx0\/∃q∈R,S q.i/\q.nx<=b/\b<q.nx'
 size:X.n<=c.tmps.size
 val:∀q∈R,S q.i->∀t,q.o.dst=some t->VR ρ q.v (c.tmps.getD t undef)
 abi:∀q∈R,S q.i->kU q.nx' q.v
 kep:∀t,eI X.kept t=true->(∀q∈R,S q.i->q.o.dst≠some t)->VR ρ (X.σ0 t) (c.tmps.getD t undef)
 blk:∀b k,cT S X.H0 R b k->∃r,ρ b=some r/\BR ρ w.heap r k
 inj:∀b b' k k' r r',cT S X.H0 R b k->cT S X.H0 R b' k'->k.kj=true->ρ b=some r->ρ b'=some r'->r.blk=r'.blk->b=b'
 fE:∀q∈R,S q.i->q.hv->∀b k,ah q.H' (at_ b)=some k->qW q.nx' b k
 TC:∀q∈R,S q.i->q.mk'->q.nx<q.nx'->∀k,ah q.H' (at_ q.nx)=some k->qW q.nx' q.nx k
 sx:∃D,JQ S X.D0 R D/\je ρ D c.defers
 LU:∀q∈R,S q.i->q.hv->AD q.nx' q.D'
 ext:Ext ρ0 ρ
 low:∀b,b<X.nx0->ρ b=ρ0 b
 own:∀b k r,cT S X.H0 R b k->k.kj=true->ρ b=some r->mf ρ0 X.H0 r.blk\/w0.heap.size<=r.blk
 ro:∀b k,cT S X.H0 R b k->k.kj=false->ah X.H0 (at_ b)=some k
 frame:∀k,k<w0.heap.size->¬mf ρ0 X.H0 k->w.heap[k]?=w0.heap[k]?
 tl:w0.heap.size<=w.heap.size
 os:w.os=w0.os
 tape:w.tape=w0.tape
 output:w.output=w0.output
structure Start(X:Cx)(ρ0:bY)(w0:World):Prop where
 hr:HR ρ0 X.H0 X.nx0 w0.heap
 aeG:∀t,eI X.kept t=true->kU X.nx0 (X.σ0 t)
 LU:AD X.nx0 X.D0
 up:iR X.rn
 eq:X.A.P=X.P
theorem rT{R:List Rec}{ρ0 ρ:bY}{w0 w:World}{c:Act}(bO:Start X ρ0 w0)(inv:gh X R ρ0 w0 S ρ c w){b:Nat}{k:jb}{m:Nat}:∀{pre:List Rec},(∀q∈pre,q∈R)->X.nx0<=m->(∀q∈pre,q.nx'<=m)->cT S X.H0 pre b k->qW m b k:=by
 intro pre
 induction pre with
 | nil=>intro _ h0 _ h;exact(bO.hr.Xn h).mono h0
 | cons q pre ih=>
  intro hR h0 hm h;rcases h with⟨h1,h2,h3⟩|⟨h1,h2,h3,h4,h5⟩|⟨_,h⟩
  ·exact(inv.fE q (hR q hJ) h1 h2 b k h3).mono (hm q hJ)
  ·subst h4;exact(inv.TC q (hR q hJ) h1 h2 h3 k h5).mono (hm q hJ)
  ·exact ih (λp hp=>hR p (fY _ hp)) h0 (λp hp=>hm p (fY _ hp)) h
end
section
theorem mD{α β:Type}{c c':α->Option β}:∀{l:List α},(∀x∈l,c x=c' x)->jm c l=jm c' l:=by
 intro l
 induction l with
 | nil=>intro _;rfl
 | cons x l ih=>
  intro h;unfold jm;rw[h x hJ,ih λy hy=>h y (fY _ hy)]
theorem E6{α β:Type}{c c':α->Option β}:∀{l:List (Nat×Nat×α)},(∀x∈l,c x.2.2=c' x.2.2)->sK c l=sK c' l:=by
 intro l
 induction l with
 | nil=>intro _;rfl
 | cons x l ih=>
  obtain⟨i,j,x⟩:=x;intro h;unfold sK;have:=h (i,j,x) hJ;simp only at this;rw[this,ih λy hy=>h y (fY _ hy)]
theorem iT{α β:Type}{c c':α->Option β}{o:Option α}(h:∀x∈o,c x=c' x):oF c o=oF c' o:=by
 cases o with
 | none=>rfl
 | some x=>show (c x).map some=(c' x).map some;rw[h x rfl]
theorem HV{α β:Type}{c c':α->Option β}{a:cr α}(h:a.all λx=>c x=c' x):a.hZ c=a.hZ c':=by
 cases a<;>simp only[cr.all]at h<;>simp only[cr.hZ]<;>first
  | rfl
  | rw[h]
  | rw[h.1,h.2]
  | rw[h.1,h.2.1,h.2.2]
  | rw[mD h]
  | rw[E6 h]
  | rw[iT h]
  | rw[h.1,mD h.2]
  | rw[mD h.1,mD h.2]
  | rw[h.1,iT h.2.1,iT h.2.2]
  | rw[h.1,iT h.2.1,iT h.2.2.1,iT h.2.2.2]
theorem ju{l:List Nat}{t:Nat}:eI l t=true↔t∈l:=by
 unfold eI;rw[List.any_eq_true];constructor
 ·rintro⟨x,hx,e⟩;have:=dB e;subst this;exact hx
 ·intro h;exact⟨t,h,Nat.beq_refl t⟩
theorem E7{l:List Nat}{p:Nat->Bool}{t:Nat}(h:p t=true):eI (l.filter p) t=eI l t:=by
 have:eI (l.filter p) t=true↔eI l t=true:=by rw[ju,ju,rC];simp[h]
 cases h1:eI (l.filter p) t<;>cases h2:eI l t<;>first|rfl|(rw[h1,h2]at this;simp at this)
theorem vS{p:Nat->Bool}{t:Nat}(h:p t=true):∀{env:Env},find (env.filter λx=>p x.1) t=find env t:=by
 intro env
 induction env with
 | nil=>rfl
 | cons y env ih=>
  obtain⟨u,x⟩:=y;rw[List.filter_cons];by_cases hu:p u=true
  ·simp only[hu,if_true];show (bif Nat.beq u t then some x else find (env.filter λx=>p x.1) t)=(bif Nat.beq u t then some x else find env t);rw[ih]
  ·simp only[hu,Bool.false_eq_true,if_false];rw[ih];show find env t=(bif Nat.beq u t then some x else find env t);cases hb:Nat.beq u t with
   | false=>rfl
   | true=>
    have:=dB hb;subst this;exact absurd h hu
theorem HW{ops:List Oper}{fQ:List Nat}{j t i:Nat}{o q:Oper}(h:hygienic ops fQ j o=true)(ht:t∈tmpsOf o)(hq:ops[i]?=some q)(hd:q.dst=some t):bit fQ j i=true\/bit fQ i j=true:=by
 unfold hygienic at h;have h1:=List.all_eq_true.1 h t ht;have h2:=List.all_eq_true.1 h1 (q,i) (List.mem_zipIdx_iff_getElem?.2 hq);simp only[hd]at h2;simp only[Nat.beq_refl,Bool.not_true,Bool.false_or,Bool.or_eq_true]at h2;exact h2
theorem still_at{ops:List Oper}{fQ:List Nat}{done j t i:Nat}{o q:Oper}(h:lD ops fQ done j o=true)(ht:t∈tmpsOf o)(hq:ops[i]?=some q)(hd:q.dst=some t):bit fQ j i=true\/Nat.testBit done i=false:=by
 unfold lD at h;have h1:=List.all_eq_true.1 h t ht;have h2:=List.all_eq_true.1 h1 (q,i) (List.mem_zipIdx_iff_getElem?.2 hq);simp only[hd]at h2;simp only[Nat.beq_refl,Bool.not_true,Bool.false_or,Bool.or_eq_true,Bool.not_eq_true']at h2;exact h2
theorem HX{ops:List Oper}{i j t:Nat}{o q:Oper}(h:uB ops=true)(ho:ops[i]?=some o)(hq:ops[j]?=some q)(hd:o.dst=some t)(Hn:q.dst=some t):i=j:=by
 unfold uB at h;have h1:=List.all_eq_true.1 h (o,i) (List.mem_zipIdx_iff_getElem?.2 ho);have h2:=List.all_eq_true.1 h1 (q,j) (List.mem_zipIdx_iff_getElem?.2 hq);simp only[hd,Hn]at h2;simp only[Nat.beq_refl,Bool.not_true,Bool.or_false]at h2;exact dB h2
variable {X:Cx}{S:Nat->Prop}{R post pre:List Rec}{r:Rec}{ρ0 ρ:bY}{w0 w:World}{c:Act}
structure Next(X:Cx)(R:List Rec)(S:Nat->Prop)(post pre:List Rec)(r:Rec):Prop where
 eq:R=post++r::pre
 ch:X.Ch R
 one:uB X.ops=true
 not:¬S r.i
 cl:∀q∈R,S q.i->∀j,bit X.fQ q.i j=true->S j
 rd:∀j,bit X.fQ r.i j=true->S j
theorem Next.mem(h:Next X R S post pre r):r∈R:=by rw[h.eq];simp
theorem Next.sub(h:Next X R S post pre r):∀q∈pre,q∈R:=λq hq=>by rw[h.eq];simp[hq]
theorem Next.aeH(h:Next X R S post pre r):∀q∈post,q∈R:=λq hq=>by rw[h.eq];simp[hq]
theorem Next.tail(h:Next X R S post pre r):X.Ch (r::pre):=by
 have:=h.ch;rw[h.eq]at this;exact ym this
theorem Next.ok(h:Next X R S post pre r):X.Ok pre r:=h.tail.1
theorem Next.at(h:Next X R S post pre r):X.At pre r.σ r.D r.H r.nx:=h.tail.2.1
theorem Next.zW(h:Next X R S post pre r):X.Ch pre:=h.tail.2.2
theorem Bp(bO:Start X ρ0 w0)(inv:gh X R ρ0 w0 S ρ c w)(h:Next X R S post pre r){t:Nat}{q:Rec}(hq:q∈pre)(hd:q.o.dst=some t)(hS:S q.i):VR ρ (r.σ t) (c.tmps.getD t undef)/\kU r.nx (r.σ t):=by
 rcases nz h.zW h.at t with⟨q',iE,e1,e2⟩|⟨e1,_⟩
 ·have hi:q'.i=q.i:=by
   obtain⟨_,_,_,k1,_⟩:=du h.zW hq;obtain⟨_,_,_,k2,_⟩:=du h.zW iE;exact HX h.one k2.op k1.op e1 hd
  have:=n6 h.zW q' iE q hq hi;subst this;rw[e2];exact⟨inv.val q' (h.sub _ hq) hS t hd,(inv.abi q' (h.sub _ hq) hS).mono ((eV bO.up h.zW h.at).2 q' hq).1⟩
 ·exact absurd hd (e1 q hq)
theorem Bq(bO:Start X ρ0 w0)(inv:gh X R ρ0 w0 S ρ c w)(h:Next X R S post pre r){t:Nat}(ht:t∈tmpsOf r.o)(hk:(∃q∈pre,q.o.dst=some t)\/eI X.kept t=true):VR ρ (r.σ t) (c.tmps.getD t undef)/\kU r.nx (r.σ t):=by
 by_cases hp:∃q∈pre,q.o.dst=some t
 ·obtain⟨q,hq,hd⟩:=hp;obtain⟨p1,p2,e,k1,_⟩:=du h.zW hq;rcases HW h.ok.hyg ht k1.op hd with hb|hb
  ·exact Bp bO inv h hq hd (h.rd _ hb)
  ·obtain⟨p,hp,hi⟩:=k1.LO _ hb;exact absurd hi (h.ok.new p (by rw[e];simp[hp]))
 ·have iS:eI X.kept t=true:=hk.resolve_left hp;rcases nz h.zW h.at t with⟨q',iE,e1,_⟩|⟨_,e2⟩
  ·exact absurd ⟨q',iE,e1⟩ hp
  ·rw[e2];refine⟨inv.kep t iS λq hq hS hd=>?_,(bO.aeG t iS).mono (eV bO.up h.zW h.at).1⟩;have iE:=hq;rw[h.eq]at iE;rcases ee.1 iE with vR|vR
   ·have sy:=h.ch;rw[h.eq]at sy;obtain⟨pq,k1,k2,k3,_⟩:=rS sy q vR;rcases HW h.ok.hyg ht k1.op hd with hb|hb
    ·obtain⟨p,GY,hi⟩:=h.ok.LO _ hb;exact absurd hi (k1.new p (k3 p GY))
    ·exact h.not (h.cl q hq hS _ hb)
   ·rcases dT.1 vR with rfl|CE
    ·exact h.not hS
    ·exact hp ⟨q,CE,hd⟩
theorem qw(bO:Start X ρ0 w0)(inv:gh X R ρ0 w0 S ρ c w)(h:Next X R S post pre r):r.a.all λx=>VR ρ (uR r.σ x) (c.eval x)/\kU r.nx (uR r.σ x):=by
 obtain⟨env,T,L,b,g,ht,hg,hE,mU,hs⟩:=h.ok.step;obtain⟨_,h2⟩:=jO (.loc 0) ht;have h3:=mV h.ok.comp;have h4:r.a.all λx=>(∃y,cv X.kept X.n env x=some y)/\x∈r.o.op.operands.toList:=by
  revert h2 h3
  generalize r.a=a;intro h2 h3;cases a<;>simp only[cr.all]at h2 h3 ⊢<;>grind
 refine ns (λx hx=>?_) h4;obtain⟨⟨y,hy⟩,hm⟩:=hx;cases x with
 | tmp t=>
  refine Bq bO inv h ?_ ?_
  ·exact List.mem_filterMap.2 ⟨_,hm,rfl⟩
  ·simp only[cv]at hy;have hy1:=(fx hy).2;cases hf:find env t with
   | some z=>exact .inl (mU t z (ti hf))
   | none=>
    rw[hf]at hy1;exact .inr (fx hy1).1
 | const v=>
  simp only[cv]at hy;have hk:=(fx hy).1;exact⟨.jt hk,⟨λ_=>none,v,.jt hk,λ_ _=>rfl⟩⟩
 | func f=>exact⟨.func .nil .nil,⟨λ_=>none,_,.func .nil .nil,λ_ _=>rfl⟩⟩
 | global g=>cases hy
end
section
variable {X:Cx}{S:Nat->Prop}{R post pre:List Rec}{r:Rec}{ρ0 ρ:bY}{w0 w:World}{c:Act}
def qX(S:Nat->Prop)(r:Rec):Nat->Prop:=λi=>S i\/i=r.i
theorem Next.uniq(h:Next X R S post pre r){q:Rec}(hq:q∈R)(e:q.i=r.i):q=r:=n6 h.ch q hq r h.mem e
theorem Next.w9(h:Next X R S post pre r){q:Rec}(hq:q∈post):∃pq,X.Ok pq q/\r∈pq/\(∀p∈pre,p∈pq)/\X.At pq q.σ q.D q.H q.nx/\X.Ch pq:=by
 have sy:=h.ch;rw[h.eq]at sy;exact rS sy q hq
theorem Next.JS(h:Next X R S post pre r){q:Rec}(hq:q∈post):q.i≠r.i:=by
 obtain⟨pq,k1,k2,_⟩:=h.w9 hq;exact λe=>k1.new r k2 e.symm
theorem Next.le(hu:iR X.rn)(h:Next X R S post pre r):r.nx<=r.nx':=HT hu h.ok
theorem yn(bO:Start X ρ0 w0)(inv:gh X R ρ0 w0 S ρ c w)(h:Next X R S post pre r){b:Nat}(h1:r.nx<=b)(h2:b<r.nx'):ρ b=none:=by
 cases hb:ρ b with
 | none=>rfl
 | some rr=>
  exfalso;obtain⟨k1,k2⟩:=eV bO.up h.zW h.at;rcases inv.dom b rr hb with h3|⟨q,hq,hS,h3,h4⟩
  ·omega
  ·have iE:=hq;rw[h.eq]at iE;rcases ee.1 iE with vR|vR
   ·obtain⟨pq,g1,g2,_,g4,g5⟩:=h.w9 vR;have:=((eV bO.up g5 g4).2 r g2).1;omega
   ·rcases dT.1 vR with rfl|CE
    ·exact h.not hS
    ·have:=(k2 q CE).1;omega
theorem CH{ρ':bY}{c2:Act}{u:Value}(inv:gh X R ρ0 w0 S ρ c w)(h:Next X R S post pre r)(he:Ext ρ ρ')(hv:VR ρ' r.v u)(hl:kU r.nx' r.v)(hc:c2.tmps=c.tmps) :
  X.n<=(c2.put r.o.dst u).tmps.size/\(∀q∈R,qX S r q.i->∀t,q.o.dst=some t->VR ρ' q.v ((c2.put r.o.dst u).tmps.getD t undef))/\(∀q∈R,qX S r q.i->kU q.nx' q.v)/\
  (∀t,eI X.kept t=true->(∀q∈R,qX S r q.i->q.o.dst≠some t)->VR ρ' (X.σ0 t) ((c2.put r.o.dst u).tmps.getD t undef)):=by
 have m7:X.n<=c2.tmps.size:=by rw[hc];exact inv.size
 have key:∀t,r.o.dst≠some t->(c2.put r.o.dst u).tmps.getD t undef=c.tmps.getD t undef:=by
  intro t ht;rw[<-hc];cases hd:r.o.dst with
  | none=>rfl
  | some d=>
   rw[yj (kN (h.ok.dst d hd) m7),aw (λe=>ht (by rw[hd,e]))]
 refine⟨?_,λq hq hS t hd=>?_,λq hq hS=>?_,λt ht hn=>?_⟩
 ·cases hd:r.o.dst with
  | none=>exact m7
  | some d=>show X.n<=(c2.tmps.setIfInBounds d u).size;simpa using m7
 ·by_cases e:q.i=r.i
  ·have:=h.uniq hq e;subst this;rw[hd,yj (kN (h.ok.dst t hd) m7),aJ rfl];exact hv
  ·rw[key t λHn=>e ?_]
   ·exact(inv.val q hq (hS.resolve_right e) t hd).mono he
   ·obtain⟨_,_,_,k1,_⟩:=du h.ch hq;exact HX h.one k1.op h.ok.op hd Hn
 ·by_cases e:q.i=r.i
  ·have:=h.uniq hq e;subst this;exact hl
  ·exact inv.abi q hq (hS.resolve_right e)
 ·rw[key t (hn r h.mem (.inr rfl))];exact(inv.kep t ht λq hq hS=>hn q hq (.inl hS)).mono he
structure Still(w w':World):Prop where
 heap:∀k,k<w.heap.size->w'.heap[k]?=w.heap[k]?
 size:w.heap.size<=w'.heap.size
 os:w'.os=w.os
 tape:w'.tape=w.tape
 output:w'.output=w.output
theorem Still.refl(w:World):Still w w:=⟨λ_ _=>rfl,au _,rfl,rfl,rfl⟩
theorem LV{w':World}{c2:Act}{u:Value}(inv:gh X R ρ0 w0 S ρ c w)(h:Next X R S post pre r)(hw:Still w w')(hv:VR ρ r.v u)(hl:kU r.nx' r.v)(hc:c2.tmps=c.tmps)(Xp:c2.defers=c.defers)(hB:∀b k,cT (qX S r) X.H0 R b k->cT S X.H0 R b k)(hhl:r.hv->∀b k,ah r.H' (at_ b)=some k->qW r.nx' b k)(Xq:r.mk'->r.nx<r.nx'->False)(aeI:∃D,JQ (qX S r) X.D0 R D/\je ρ D c.defers)(hdl:r.hv->AD r.nx' r.D'):gh X R ρ0 w0 (qX S r) ρ (c2.put r.o.dst u) w':=by
 obtain⟨t1,t2,t3,t4⟩:=CH inv h (Ext.refl ρ) hv hl hc;refine⟨λb rr hb=>?_,t1,t2,t3,t4,λb k hb=>?_,λb b' k k' rr rr' hb ia=>inv.inj b b' k k' rr rr' (hB _ _ hb) (hB _ _ ia),λq hq hS hh=>?_,λq hq hS hm cg=>?_,?_,λq hq hS hh=>?_,inv.ext,inv.low,
  λb k rr hb=>inv.own b k rr (hB _ _ hb),λb k hb=>inv.ro b k (hB _ _ hb),λk hk hn=>?_,hX inv.tl hw.size,hw.os.trans inv.os,hw.tape.trans inv.tape,hw.output.trans inv.output⟩
 ·rcases inv.dom b rr hb with h1|⟨q,hq,hS,g⟩
  ·exact .inl h1
  ·exact .inr ⟨q,hq,.inl hS,g⟩
 ·obtain⟨rr,h1,h2⟩:=inv.blk b k (hB _ _ hb);exact⟨rr,h1,h2.of_same (hw.heap _ h2.lt)⟩
 ·by_cases e:q.i=r.i
  ·have:=h.uniq hq e;subst this;exact hhl hh
  ·exact inv.fE q hq (hS.resolve_right e) hh
 ·by_cases e:q.i=r.i
  ·have:=h.uniq hq e;subst this;exact(Xq hm cg).elim
  ·exact inv.TC q hq (hS.resolve_right e) hm cg
 ·have:(c2.put r.o.dst u).defers=c.defers:=by rw[<-Xp];cases r.o.dst<;>rfl
  rw[this];exact aeI
 ·by_cases e:q.i=r.i
  ·have:=h.uniq hq e;subst this;exact hdl hh
  ·exact inv.LU q hq (hS.resolve_right e) hh
 ·rw[hw.heap k (kN hk inv.tl)];exact inv.frame k hk hn
theorem O5{ρ':bY}{w':World}{c2:Act}{u:Value}{rr:Ref}{blk:jb}(bO:Start X ρ0 w0)(inv:gh X R ρ0 w0 S ρ c w)(h:Next X R S post pre r)(hw:Still w w')(hm:r.mk')(SE:r.nx'=r.nx+1)(hH:ah r.H' (at_ r.nx)=some blk)(hρ:∀b,b≠r.nx->ρ' b=ρ b)(hρn:ρ' r.nx=some rr)(hbm:blk.kj=true)(zO:BR ρ' w'.heap rr blk)(gQ:w.heap.size<=rr.blk)(pI:qW r.nx' r.nx blk)(hv:VR ρ' r.v u)(hl:kU r.nx' r.v)(hc:c2.tmps=c.tmps)(Xp:c2.defers=c.defers) :
  gh X R ρ0 w0 (qX S r) ρ' (c2.put r.o.dst u) w':=by
 have Xo:¬r.hv:=by
  intro hh;unfold Rec.hv at hh;unfold Rec.mk' at hm;cases hk:cK r.a<;>rw[hk]at hh hm<;>simp[cO,jL]at hh hm
 have gu:ρ r.nx=none:=yn bO inv h (au _) V;have AE:Ext ρ ρ':=by
  intro b s hb;rw[hρ b (λe=>by rw[e,gu]at hb;cases hb)];exact hb
 have hB:∀b k,cT (qX S r) X.H0 R b k->(cT S X.H0 R b k/\b≠r.nx)\/(b=r.nx/\k=blk):=by
  intro b k hb;rcases E2 hm (λi=>Iff.rfl) (λq hq e=>h.uniq hq e) hb with h1|⟨_,h2,h3⟩
  ·refine .inl ⟨h1,λe=>?_⟩;obtain⟨s,g,_⟩:=inv.blk b k h1;rw[e,gu]at g;cases g
  ·refine .inr ⟨h2,?_⟩;rw[h2,hH]at h3;exact(jk h3).symm
 obtain⟨t1,t2,t3,t4⟩:=CH inv h AE hv hl hc;refine⟨λb s hb=>?_,t1,t2,t3,t4,λb k hb=>?_,λb b' k k' s s' hb ia sA hs fD e=>?_,λq hq hS hh=>?_,λq hq hS hm cg=>?_,?_,λq hq hS hh=>?_,inv.ext.trans AE,λb hb=>?_,
  λb k s hb sA hs=>?_,λb k hb sA=>?_,λk hk hn=>?_,hX inv.tl hw.size,hw.os.trans inv.os,hw.tape.trans inv.tape,hw.output.trans inv.output⟩
 ·by_cases e:b=r.nx
  ·exact .inr ⟨r,h.mem,.inr rfl,V,V⟩
  ·rw[hρ b e]at hb;rcases inv.dom b s hb with h1|⟨q,hq,hS,g⟩
   ·exact .inl h1
   ·exact .inr ⟨q,hq,.inl hS,g⟩
 ·rcases hB b k hb with⟨h1,h2⟩|⟨h1,h2⟩
  ·obtain⟨s,g1,g2⟩:=inv.blk b k h1;exact⟨s,AE _ _ g1,(g2.mono AE).of_same (hw.heap _ g2.lt)⟩
  ·rw[h1,h2];exact⟨rr,hρn,zO⟩
 ·rcases hB b k hb with⟨h1,h2⟩|⟨h1,h2⟩
  ·rcases hB b' k' ia with⟨ru,DP⟩|⟨ru,DP⟩
   ·rw[hρ b h2]at hs;rw[hρ b' DP]at fD;exact inv.inj b b' k k' s s' h1 ru sA hs fD e
   ·exfalso;rw[hρ b h2]at hs;rw[ru,hρn]at fD;cases fD;obtain⟨s2,g1,g2⟩:=inv.blk b k h1;rw[hs]at g1;cases g1;have:=g2.lt;omega
  ·rcases hB b' k' ia with⟨ru,DP⟩|⟨ru,DP⟩
   ·exfalso;rw[hρ b' DP]at fD;rw[h1,hρn]at hs;cases hs;obtain⟨s2,g1,g2⟩:=inv.blk b' k' ru;rw[fD]at g1;cases g1;have:=g2.lt;omega
   ·rw[h1,ru]
 ·by_cases e:q.i=r.i
  ·have:=h.uniq hq e;subst this;exact absurd hh Xo
  ·exact inv.fE q hq (hS.resolve_right e) hh
 ·by_cases e:q.i=r.i
  ·have:=h.uniq hq e;subst this;intro k hk;rw[hH]at hk;cases hk;exact pI
  ·exact inv.TC q hq (hS.resolve_right e) hm cg
 ·have:(c2.put r.o.dst u).defers=c.defers:=by rw[<-Xp];cases r.o.dst<;>rfl
  rw[this];obtain⟨D,g1,g2⟩:=inv.sx;refine⟨D,Bo (λq hq hh=>?_) g1,g2.mono AE⟩;constructor
  ·rintro(h1|e)
   ·exact h1
   ·have:=h.uniq hq e;subst this;exact absurd hh Xo
  ·exact .inl
 ·by_cases e:q.i=r.i
  ·have:=h.uniq hq e;subst this;exact absurd hh Xo
  ·exact inv.LU q hq (hS.resolve_right e) hh
 ·have:=(eV bO.up h.zW h.at).1;rw[hρ b V];exact inv.low b hb
 ·rcases hB b k hb with⟨h1,h2⟩|⟨h1,h2⟩
  ·rw[hρ b h2]at hs;exact inv.own b k s h1 sA hs
  ·rw[h1,hρn]at hs;cases hs;exact .inr (hX inv.tl gQ)
 ·rcases hB b k hb with⟨h1,h2⟩|⟨h1,h2⟩
  ·exact inv.ro b k h1 sA
  ·rw[h2,hbm]at sA;cases sA
 ·rw[hw.heap k (kN hk inv.tl)];exact inv.frame k hk hn
end
section
variable {X:Cx}{S:Nat->Prop}{R post pre:List Rec}{r:Rec}{ρ0 ρ:bY}{w0 w:World}{c:Act}
theorem rU(h:Next X R S post pre r)(hh:r.hv):∀q∈post,¬(S q.i/\q.hv):=by
 intro q hq ⟨hS,hv⟩;obtain⟨pq,k1,k2,_⟩:=h.w9 hq;exact h.not (h.cl q (h.aeH q hq) hS _ (k1.di hv r k2 (.inl hh)))
theorem Br(h:Next X R S post pre r)(hh:r.hv):(∀q∈pre,q.hv->S q.i)/\(∀q∈pre,q.mk'->S q.i):=
 ⟨λq hq hv=>h.rd _ (h.ok.di hh q hq (.inl hv)),λq hq hm=>h.rd _ (h.ok.di hh q hq (.inr hm))⟩
theorem fP(h:Next X R S post pre r)(hh:r.hv){b:Nat}{k:jb}(hb:ah r.H (at_ b)=some k):cT S X.H0 pre b k/\cT S X.H0 R b k:=by
 obtain⟨h1,h2⟩:=Br h hh;have h3:=pH h.zW h.at (b:=b) (k:=k) h1 (λq hq hm _ _=>h2 q hq hm) hb;refine⟨h3,?_⟩;rw[h.eq];exact pG (rU h hh) (.inr (.inr ⟨λg=>h.not g.1,h3⟩))
theorem O6(bO:Start X ρ0 w0)(inv:gh X R ρ0 w0 S ρ c w)(h:Next X R S post pre r)(hh:r.hv):HR (ρ.upto r.nx) r.H r.nx w.heap:=by
 obtain⟨l1,l2⟩:=eV bO.up h.zW h.at;refine⟨λb k hb=>?_,λb b' k k' s s' hb ia sA hs fD e=>?_,lL⟩
 ·obtain⟨g1,g2⟩:=fP h hh hb;obtain⟨s,g3,g4⟩:=inv.blk b k g2;have fE:=rT bO inv (m:=r.nx) h.sub l1 (λq hq=>(l2 q hq).1) g1;exact⟨s,by rw[bY.qu fE.lt];exact g3,fE.cut g4⟩
 ·exact inv.inj b b' k k' s s' (fP h hh hb).2 (fP h hh ia).2 sA (pE _ _ hs) (pE _ _ fD) e
theorem LW(bO:Start X ρ0 w0)(inv:gh X R ρ0 w0 S ρ c w)(h:Next X R S post pre r)(hh:r.hv):je (ρ.upto r.nx) r.D c.defers/\je ρ r.D c.defers/\AD r.nx r.D:=by
 obtain⟨l1,l2⟩:=eV bO.up h.zW h.at;obtain⟨D,g1,g2⟩:=inv.sx;have hd:JQ S X.D0 pre r.D:=O4 h.zW h.at (Br h hh).1;have Hn:JQ S X.D0 R r.D:=by
  rw[h.eq];exact(E3 (rU h hh)).2 (.inr ⟨λg=>h.not g.1,hd⟩)
 have:=E4 g1 Hn;subst this;have fE:∀{p:List Rec} {D:List gf},(∀q∈p,q∈R/\q.nx'<=r.nx)->JQ S X.D0 p D->AD r.nx D:=by
  intro p
  induction p with
  | nil=>intro D _ hD;rw[show D=X.D0 from hD];exact bO.LU.mono l1
  | cons q p ih=>
   intro D hp hD;rcases hD with⟨k1,k2,rfl⟩|⟨_,hD⟩
   ·exact(inv.LU q (hp q hJ).1 k1 k2).mono (hp q hJ).2
   ·exact ih (λx hx=>hp x (fY _ hx)) hD
 have hl:=fE (λq hq=>⟨h.sub q hq,(l2 q hq).1⟩) hd;exact⟨hl.cut g2,g2,hl⟩
theorem LX{ρ2:bY}{w':World}{c2:Act}{u:Value}(bO:Start X ρ0 w0)(inv:gh X R ρ0 w0 S ρ c w)(h:Next X R S post pre r)(hh:r.hv)(hv:VR ρ2 r.v u)(hw:lJ (ρ.upto r.nx) r.H r.nx w ρ2 r.H' r.nx' w')(hD:je ρ2 r.D' c2.defers)(hc:c2.tmps=c.tmps) :
  ∃ρ',gh X R ρ0 w0 (qX S r) ρ' (c2.put r.o.dst u) w':=by
 have hnm:¬r.mk':=by
  intro hm;unfold Rec.hv at hh;unfold Rec.mk' at hm;cases hk:cK r.a<;>rw[hk]at hh hm<;>simp[cO,jL]at hh hm
 obtain⟨l1,l2⟩:=eV bO.up h.zW h.at;have VE:=rU h hh;have O7:∀q∈post,¬(qX S r q.i/\q.hv):=λq hq ⟨g1,g2⟩=>VE q hq ⟨g1.resolve_right (h.JS hq),g2⟩
 obtain⟨ρ',hρ'⟩:∃ρ':bY,∀b,ρ' b=if r.nx<=b/\b<r.nx' then ρ2 b else ρ b:=⟨λb=>if r.nx<=b/\b<r.nx' then ρ2 b else ρ b,λ_=>rfl⟩
 have AE:Ext ρ ρ':=by
  intro b s hb;rw[hρ',aw (λg=>by rw[yn bO inv h g.1 g.2]at hb;cases hb)];exact hb
 have JT:Ext ρ2 ρ':=by
  intro b s hb;rw[hρ'];by_cases dS:b<r.nx
  ·rw[aw V];rw[hw.low b dS,bY.qu dS]at hb;exact hb
  ·by_cases k9:b<r.nx'
   ·rw[aJ ⟨V,k9⟩];exact hb
   ·rw[hw.hr.new b V]at hb;cases hb
 have hB:∀b k,cT (qX S r) X.H0 R b k->ah r.H' (at_ b)=some k\/(cT S X.H0 R b k/\r.nx'<=b):=by
  intro b k hb;rw[h.eq]at hb;rcases HU O7 hb with h1|⟨m,hm,g1,g2,g3,g4,g5⟩
  ·rcases h1 with⟨_,_,h1⟩|⟨_,h1,_⟩|⟨h1,_⟩
   ·exact .inl h1
   ·exact absurd h1 hnm
   ·exact absurd ⟨.inr rfl,hh⟩ h1
  ·refine .inr ⟨?_,?_⟩
   ·rw[h.eq];exact E1 VE hm (g1.resolve_right (h.JS hm)) g2 g3 g4 g5
   ·obtain⟨pq,k1,k2,_,k4,k5⟩:=h.w9 hm;have:=((eV bO.up k5 k4).2 r k2).1;omega
 have HY:∀j,mf (ρ.upto r.nx) r.H j->∃b k s,cT S X.H0 R b k/\k.kj=true/\ρ b=some s/\s.blk=j/\b<r.nx:=by
  rintro j ⟨b,k,s,g1,gm,g2,g3⟩;refine⟨b,k,s,(fP h hh g1).2,gm,pE _ _ g2,g3,?_⟩;rcases rD b r.nx with h1|h1
  ·exact h1
  ·rw[bY.JP h1]at g2;cases g2
 have vT:∀b k s,cT S X.H0 R b k->r.nx'<=b->ρ b=some s->s.blk<w.heap.size/\¬mf (ρ.upto r.nx) r.H s.blk:=by
  intro b k s hb hle hs;obtain⟨s',g1,g2⟩:=inv.blk b k hb;rw[hs]at g1;cases g1;refine⟨g2.lt,λho=>?_⟩;obtain⟨b2,k2,s2,q1,qm,q2,q3,q4⟩:=HY _ ho;have:=inv.inj b2 b k2 k s2 s q1 hb qm q2 hs q3;have:=h.le bO.up;omega
 have ie:∀b k,ah r.H' (at_ b)=some k->∃s,ρ2 b=some s/\ρ' b=some s/\BR ρ2 w'.heap s k:=by
  intro b k hb;obtain⟨s,g1,g2⟩:=hw.hr.blk b k hb;exact⟨s,g1,JT _ _ g1,g2⟩
 have O8:∀b b' k k' s s',ah r.H' (at_ b)=some k->cT S X.H0 R b' k'->r.nx'<=b'->(k.kj=true\/k'.kj=true)->ρ' b=some s->ρ' b'=some s'->s.blk=s'.blk->False:=by
  intro b b' k k' s s' hb ia hle sA hs fD e;obtain⟨s1,g1,g2,g3⟩:=ie b k hb;rw[hs]at g2;cases g2;rw[hρ',aw V]at fD;obtain⟨q1,q2⟩:=vT b' k' s' ia hle fD;cases Bs:k.kj with
  | true=>
   rcases hw.iw.own s.blk ⟨b,k,s,hb,Bs,g1,rfl⟩with ho|ho
   ·exact q2 (e ▸ ho)
   ·omega
  | false=>
   have hold:=hw.iw.ro b k hb Bs;have CI:=(fP h hh hold).2;obtain⟨s2,p1,p2⟩:=inv.blk b k CI;have cg:b<r.nx:=(rT bO inv (m:=r.nx) h.sub l1 (λq hq=>(l2 q hq).1) (fP h hh hold).1).lt;rw[hρ',aw V,p1]at hs;cases hs;have:=inv.inj b' b k' k s' s ia CI (by rcases sA with g|g<;>first|(rw[Bs]at g;cases g)|exact g) fD p1 e.symm;have:=h.le bO.up;omega
 obtain⟨t1,t2,t3,t4⟩:=CH inv h AE (hv.mono JT) (hv.low hw.hr.new) hc;refine⟨ρ',λb s hb=>?_,t1,t2,t3,t4,λb k hb=>?_,λb b' k k' s s' hb ia sA hs fD e=>?_,λq hq hS hv=>?_,λq hq hS hm cg=>?_,?_,λq hq hS hv=>?_,inv.ext.trans AE,λb hb=>?_,
  λb k s hb sA hs=>?_,λb k hb sA=>?_,λk hk hn=>?_,hX inv.tl hw.iw.size,hw.iw.os.trans inv.os,hw.iw.tape.trans inv.tape,hw.iw.output.trans inv.output⟩
 ·by_cases hi:r.nx<=b/\b<r.nx'
  ·exact .inr ⟨r,h.mem,.inr rfl,hi.1,hi.2⟩
  ·rw[hρ',aw hi]at hb;rcases inv.dom b s hb with h1|⟨q,hq,hS,g⟩
   ·exact .inl h1
   ·exact .inr ⟨q,hq,.inl hS,g⟩
 ·rcases hB b k hb with h1|⟨h1,h2⟩
  ·obtain⟨s,g1,g2,g3⟩:=ie b k h1;exact⟨s,g2,g3.mono JT⟩
  ·obtain⟨s,g1,g2⟩:=inv.blk b k h1;obtain⟨q1,q2⟩:=vT b k s h1 h2 g1;exact⟨s,AE _ _ g1,(g2.mono AE).of_same (hw.iw.frame _ q1 q2)⟩
 ·rcases hB b k hb with h1|⟨h1,h2⟩
  ·rcases hB b' k' ia with ru|⟨ru,DP⟩
   ·obtain⟨s1,g1,g2,_⟩:=ie b k h1;obtain⟨s1',g1',g2',_⟩:=ie b' k' ru;rw[hs]at g2;rw[fD]at g2';cases g2;cases g2'
    exact hw.hr.inj b b' k k' s s' h1 ru sA g1 g1' e
   ·exact(O8 b b' k k' s s' h1 ru DP (.inl sA) hs fD e).elim
  ·rcases hB b' k' ia with ru|⟨ru,DP⟩
   ·exact(O8 b' b k' k s' s ru h1 h2 (.inr sA) fD hs e.symm).elim
   ·rw[hρ',aw V]at hs;rw[hρ',aw V]at fD;exact inv.inj b b' k k' s s' h1 ru sA hs fD e
 ·by_cases e:q.i=r.i
  ·have:=h.uniq hq e;subst this;exact λb k hb=>hw.hr.Xn hb
  ·exact inv.fE q hq (hS.resolve_right e) hv
 ·by_cases e:q.i=r.i
  ·have:=h.uniq hq e;subst this;exact absurd hm hnm
  ·exact inv.TC q hq (hS.resolve_right e) hm cg
 ·have:(c2.put r.o.dst u).defers=c2.defers:=by cases r.o.dst<;>rfl
  rw[this];refine⟨r.D',?_,hD.mono JT⟩;rw[h.eq];exact(E3 O7).2 (.inl ⟨.inr rfl,hh,rfl⟩)
 ·by_cases e:q.i=r.i
  ·have:=h.uniq hq e;subst this;exact⟨ρ2,_,hD,hw.hr.new⟩
  ·exact inv.LU q hq (hS.resolve_right e) hv
 ·rw[hρ',aw V];exact inv.low b hb
 ·rcases hB b k hb with h1|⟨h1,h2⟩
  ·obtain⟨s1,g1,g2,_⟩:=ie b k h1;rw[hs]at g2;cases g2;rcases hw.iw.own s.blk ⟨b,k,s,h1,sA,g1,rfl⟩with ho|ho
   ·obtain⟨b2,k2,s2,q1,qm,q2,q3,_⟩:=HY _ ho;have:=inv.own b2 k2 s2 q1 qm q2
    rwa [q3]at this
   ·exact .inr (hX inv.tl ho)
  ·rw[hρ',aw V]at hs;exact inv.own b k s h1 sA hs
 ·rcases hB b k hb with h1|⟨h1,h2⟩
  ·exact inv.ro b k (fP h hh (hw.iw.ro b k h1 sA)).2 sA
  ·exact inv.ro b k h1 sA
 ·have iS:=kN hk inv.tl;rw[hw.iw.frame k iS λho=>?_]
  ·exact inv.frame k hk hn
  ·obtain⟨b2,k2,s2,q1,qm,q2,q3,_⟩:=HY _ ho;rcases inv.own b2 k2 s2 q1 qm q2 with g|g
   ·rw[q3]at g;exact hn g
   ·rw[q3]at g;omega
end
section
section
variable {P:Program}{ins:List Nat}{w:World}{ρ:bY}{H:Heap}{nx:Nat}{r:Ex×St}{T:Tr Value}{L:List Value}{ρa ρc:Operand->Value}{o:Oper}
theorem E8{a:cr Operand}{k:KV}(hk:cK a=.load)(hc:ar P ins o=some a)(ha:a.all λx=>VR ρ (ρa x) (ρc x))(hH:HR ρ H nx w.heap)(h:e7 (a.map (Av ρa)) P T L H k=some r) :
  ∃x y,k x=some r/\(execOp ρc o).run P w=.ok (.value y) w/\VR ρ x y:=by
 have fin:∀s:Sem Value,execOp ρc o=(do pure (.value (<-s)))->(∃x y,k x=some r/\s.run P w=.ok y w/\VR ρ x y)->∃x y,k x=some r/\(execOp ρc o).run P w=.ok (.value y) w/\VR ρ x y:=by
  rintro s hs ⟨x,y,h1,h2,h3⟩;exact⟨x,y,h1,by rw[hs];simp only[Sem.run_bind,h2,Result.andThen_ok,Sem.run_pure],h3⟩
 have EL:=tf hc;cases ho:o.op with
 | load t x=>
  simp only[ar,ho,Option.map_eq_some_iff]at hc;obtain⟨g,hg,rfl⟩:=hc;exact fin (Instr.loadAt t (ρc x)) (by simp only[execOp,ho]) (uC hg hH ha h)
 | lookup t x i ok=>
  simp only[ar,ho]at hc;split at hc
  ·rename_i kt e hu;simp only[Option.map_eq_some_iff]at hc;obtain⟨z,hz,rfl⟩:=hc;exact fin (Instr.lookup t (ρc x) (ρc i) ok) (by simp only[execOp,ho]) (Bb hu hz hH ha.1 ha.2 h)
  ·cases hc
 | call d=>
  cases hb:d.callee with
  | builtin b=>
   simp only[ar,ho,hb]at hc;unfold dh at hc;split at hc
   ·split at hc
    ·split at hc<;>first|cases hc|(replace hc:=ey hc;cases hc;cases hk)
    ·cases hc
   ·rename_i t l x Bj cF;have hl:∀u:Value,Builtin.len_ d.argTypes o.type #[u]=Builtin.len_ #[t] o.type #[u]:=λu=>OB (s6 Bj)
    split at hc
    ·cases hc;cases hk
    ·cases hc;cases hk
    ·rename_i kt e hu;cases hc;refine fin (Builtin.len_ #[t] o.type #[ρc x]) ?_ (Ba hu hH ha (show Ce H (ρa x) k=some r from h));rw[rN ho hb,mz cF,<-hl];rfl
    ·cases hc
   ·split at hc
    ·cases hc;cases hk
    ·cases hc
   ·split at hc
    ·split at hc
     ·cases hc;cases hk
     ·cases hc
    ·cases hc
   ·cases hc;cases hk
   ·cases hc;cases hk
   ·cases hc;cases hk
   ·split at hc
    ·split at hc
     ·cases hc;cases hk
     ·cases hc
    ·cases hc
   ·cases hc
  | value f=>
   exfalso;cases f with
   | func g=>
    simp only[ar,ho,hb]at hc;cases hg:eI ins g with
    | true=>
     rw[hg]at hc;simp only[cond_true]at hc;split at hc
     ·split at hc
      ·split at hc
       ·cases hc;cases hk
       ·cases hc
      ·cases hc
     ·cases hc
    | false=>rw[hg]at hc;cases hc;cases hk
   | _=>simp only[ar,ho,hb]at hc;cases hc;cases hk
  | invoke x name=>simp only[ar,ho,hb]at hc;cases hc;cases hk
 | binOp op t x y b=>
  exfalso;simp only[ar,ho]at hc;unfold jK at hc
  repeat' split at hc
  all_goals first
   | (replace hc:=ey hc;cases hc;cases hk;done)
   | (cases hc;done)
   | (cases hc;cases hk;done)
 | makeFunc f a b=>
  exfalso;cases f<;>simp only[ar,ho]at hc<;>first|(cases hc;done)|(cases hc;cases hk;done)
 | next x q=>
  exfalso;cases q with
  | false=>simp only[ar,ho]at hc;cases hc;cases hk
  | true=>simp only[ar,ho]at hc;cases hc
 | _=>
  exfalso;simp only[ar,ho]at hc
  repeat' split at hc
  all_goals first
   | (cases hc;done)
   | (obtain⟨z,_,rfl⟩:=Option.map_eq_some_iff.1 (ey hc);cases hk;done)
   | (replace hc:=ey hc;cases hc;cases hk;done)
   | (obtain⟨z,_,rfl⟩:=Option.map_eq_some_iff.1 hc;cases hk;done)
   | (cases hc;cases hk;done)
theorem O9{a a':cr Operand}(h:ar P ins o=some a)(h':ar P [] o=some a')(hk:cK a=.load):a'=a:=by
 cases ho:o.op with
 | call d=>
  cases hd:d.callee with
  | value f=>
   exfalso;cases f with
   | func g=>
    simp only[ar,ho,hd]at h;cases hg:eI ins g with
    | true=>
     rw[hg]at h;simp only[cond_true]at h;split at h
     ·split at h
      ·split at h
       ·cases h;cases hk
       ·cases h
      ·cases h
     ·cases h
    | false=>rw[hg]at h;cases h;cases hk
   | _=>simp only[ar,ho,hd]at h;cases h;cases hk
  | _=>
   simp only[ar,ho,hd]at h h';rw[h]at h';exact(jk h').symm
 | makeFunc f a b=>
  cases f<;>simp only[ar,ho]at h h'
  all_goals first
   | (cases h;done)
   | (rw[h]at h';exact(jk h').symm)
 | next x q=>
  cases q<;>simp only[ar,ho]at h h'
  all_goals first
   | (cases h;done)
   | (rw[h]at h';exact(jk h').symm)
   | (cases h;cases h';rfl)
 | _=>
  simp only[ar,ho]at h h';rw[h]at h';exact(jk h').symm
end
end
section
variable {X:Cx}{S:Nat->Prop}{R post pre:List Rec}{r:Rec}{ρ0 ρ:bY}{w0 w:World}{c:Act}
theorem Pb{ops:List Oper}{o:Oper}{σ:pd}{tm:Array Value}(h:∀j w q t,o.guard=some (j,w)->ops[j]?=some q->q.dst=some t->∃ρ,VR ρ (σ t) (tm.getD t undef)) :
  Region.wanted o (yielded ops.toArray tm)=kJ ops σ o.guard:=by
 unfold Region.wanted;cases hg:o.guard with
 | none=>rfl
 | some p=>
  obtain⟨j,want⟩:=p;show (yielded ops.toArray tm j == some want)=kJ ops σ (some (j,want));cases hj:ops[j]? with
  | none=>simp[yielded,kJ,hj]
  | some q=>
   cases hd:q.dst with
   | none=>simp[yielded,kJ,hj,hd]
   | some t=>
    obtain⟨ρ,hv⟩:=h j want q t hg hj hd;have hy:yielded ops.toArray tm j=match tm.getD t undef with | .bool b=>some b|_=>none:=by
     unfold yielded;simp only[List.getElem?_toArray,hj,Option.bind_some,hd,Array.getD_eq_getD_getElem?];cases tm[t]? with
     | none=>rfl
     | some v=>cases v<;>rfl
    have hs:kJ ops σ (some (j,want))=rk want (σ t):=by simp only[kJ,hj,Option.bind_some,hd]
    rw[hy,hs];generalize tm.getD t undef=u at hv;generalize σ t=v at hv;cases hv with
    | sc h=>cases u<;>first|rfl|(rename_i b;cases b<;>cases want<;>rfl)|(simp[scalar]at h)
    | any h=>cases u<;>first|rfl|(simp[xL]at h)
    | _=>rfl
theorem vU(bO:Start X ρ0 w0)(inv:gh X R ρ0 w0 S ρ c w)(h:Next X R S post pre r){j:Nat}{want:Bool}{q:Oper}{t:Nat}(hg:r.o.guard=some (j,want))(hj:X.ops[j]?=some q)(hd:q.dst=some t) :
  VR ρ (r.σ t) (c.tmps.getD t undef)/\kU r.nx (r.σ t):=by
 have hb:=h.ok.grd j want hg;obtain⟨q1,vR,hi⟩:=h.ok.LO j hb;obtain⟨_,_,_,k1,_⟩:=du h.zW vR;have ho:q1.o=q:=by
  have:=k1.op;rw[hi,hj]at this;exact(jk this).symm
 exact Bp bO inv h vR (ho ▸ hd) (by rw[hi];exact h.rd _ hb)
theorem HZ(bO:Start X ρ0 w0)(inv:gh X R ρ0 w0 S ρ c w)(h:Next X R S post pre r):Region.wanted r.o (yielded X.ops.toArray c.tmps)=kJ X.ops r.σ r.o.guard:=
 Pb λ_ _ _ _ hg hj hd=>⟨ρ,(vU bO inv h hg hj hd).1⟩
theorem mE{w':World}{c2:Act}{u:Value}(inv:gh X R ρ0 w0 S ρ c w)(h:Next X R S post pre r)(hh:¬r.hv)(hm:r.mk'->¬r.nx<r.nx')(hw:Still w w')(hv:VR ρ r.v u)(hl:kU r.nx' r.v)(hc:c2.tmps=c.tmps)(Xp:c2.defers=c.defers) :
  gh X R ρ0 w0 (qX S r) ρ (c2.put r.o.dst u) w':=by
 refine LV inv h hw hv hl hc Xp (λb k hb=>CF (λq hq hk=>?_) hb) (λg=>absurd g hh) (λg1 g2=>hm g1 g2) ?_ (λg=>absurd g hh)
 ·refine⟨λg=>g.elim id λe=>?_,.inl⟩;have:=h.uniq hq e;subst this;rcases hk with hk|⟨k1,k2⟩
  ·exact absurd hk hh
  ·exact absurd k2 (hm k1)
 ·obtain⟨D,g1,g2⟩:=inv.sx;refine⟨D,Bo (λq hq hk=>?_) g1,g2⟩;refine⟨λg=>g.elim id λe=>?_,.inl⟩;have:=h.uniq hq e;subst this;exact absurd hk hh
theorem yo{ρ:bY}{n:Nat}{hp:Array Obj}:HR (ρ.upto n) .e n hp:=
 ⟨(λb k hb=>by cases hb),(λb b' k k' s s' hb=>by cases hb),lL⟩
theorem E9{ρ ρ':bY}{H':Heap}{w w':World}(h:Hm ρ .e w ρ' H' w'):Still w w':=
 ⟨λk hk=>h.frame k hk (λ⟨b,x,s,hb,_⟩=>by cases hb),h.size,h.os,h.tape,h.output⟩
theorem rV(bO:Start X ρ0 w0)(inv:gh X R ρ0 w0 S ρ c w)(h:Next X R S post pre r){m:Nat}(hm:r.nx<=m):r.a.all λx=>VR (ρ.upto m) (uR r.σ x) (c.eval x):=
 ns (λ_ hx=>(hx.2.mono hm).cut hx.1) (qw bO inv h)
theorem upon_value{P:Program}{o:Oper}{next:Act->World->Prop}{Q:Exit->Act->World->Prop}{s:Result Go.Next}{u:Value}{w':World}(h:s=.ok (.value u) w'\/(s=.ok .skip w'/\u=undef))(hn:next (c.put o.dst u) w'):o.upon P c next Q s:=by
 rcases h with h|⟨h,rfl⟩<;>(rw[h];exact hn)
theorem pure_run{next:Act->World->Prop}{Q:Exit->Act->World->Prop}{env:Env}{T:Tr Value}{L:List Value}{b:cr Od}(bO:Start X ρ0 w0)(inv:gh X R ρ0 w0 S ρ c w)(h:Next X R S post pre r)(ht:r.a.hZ (cv X.kept X.n env)=some b)(hE:gq X.kept r.σ env T L)(hk:cK r.a=.pure)(wM:∀k,cY b X.P T L r.H r.nx k=k r.v r.H' r.nx')(hn:∀ρ' c' w',gh X R ρ0 w0 (qX S r) ρ' c' w'->next c' w'):r.o.upon X.P c next Q ((execOp c.eval r.o).run X.P w):=by
 have GX:cK b=.pure:=(lj (.loc 0) ht).trans hk;obtain⟨e1,e2,h2⟩:=EZ GX wM;have h3:=VB ht hE (H:=.e) (nx:=r.nx) (λk=>h2 .e r.nx k) T L TA;have hh:¬r.hv:=by unfold Rec.hv;rw[hk];simp[cO]
 obtain⟨v2,H2,nx2,u,w',ρ',g1,g2,g3,g4,g5,g6,g7⟩:=uN (T:=T) (L:=L) (w:=w) h.ok.comp (ko hh) (rV bO inv h (au _)) yo (h3.trans rfl);obtain⟨rfl,rfl,rfl⟩:=tk (g1.trans rfl);have hex:Ext ρ' ρ:=by
  intro b s hb;rcases rD b r.nx with h1|h1
  ·rw[g7 b h1,bY.qu h1]at hb;exact hb
  ·rw[g4.new b h1]at hb;cases hb
 exact upon_value g2 (hn ρ _ w' (mE inv h hh (λ_=>by omega) (E9 g5) (g3.mono hex) (by rw[e2];exact g3.low g4.new) rfl rfl))
theorem Pc{next:Act->World->Prop}{Q:Exit->Act->World->Prop}{env:Env}{T:Tr Value}{L:List Value}{b:cr Od}(bO:Start X ρ0 w0)(inv:gh X R ρ0 w0 S ρ c w)(h:Next X R S post pre r)(ht:r.a.hZ (cv X.kept X.n env)=some b)(hE:gq X.kept r.σ env T L)(hk:cK r.a=.make)(wM:∀k,cY b X.P T L r.H r.nx k=k r.v r.H' r.nx')(hn:∀ρ' c' w',gh X R ρ0 w0 (qX S r) ρ' c' w'->next c' w'):r.o.upon X.P c next Q ((execOp c.eval r.o).run X.P w):=by
 have GX:cK b=.make:=(lj (.loc 0) ht).trans hk;obtain⟨blk,e1,e2,h2⟩:=yl GX wM;have h3:=VB ht hE (H:=.e) (nx:=r.nx) (λk=>h2 .e k) T L TA;have hh:¬r.hv:=by unfold Rec.hv;rw[hk];simp[cO]
 obtain⟨v2,H2,nx2,u,w',ρ',g1,g2,g3,g4,g5,g6,g7⟩:=uN (T:=T) (L:=L) (w:=w) h.ok.comp (ko hh) (rV bO inv h (au _)) yo (h3.trans rfl);obtain⟨rfl,rfl,rfl⟩:=tk (g1.trans rfl);have rL:ah (cA (at_ r.nx) (.e:Heap) (some blk)) (at_ r.nx)=some blk:=cB _ _ _;obtain⟨rr,q1,q2⟩:=g4.blk r.nx blk rL;have hbm:blk.kj=true:=by
  cases hm:blk.kj with
  | true=>rfl
  | false=>cases g5.ro _ _ rL hm
 have gQ:w.heap.size<=rr.blk:=by
  rcases g5.own rr.blk ⟨r.nx,blk,rr,rL,hbm,q1,rfl⟩with⟨b,x,s,hb,_⟩|h1
  ·cases hb
  ·exact h1
 have hex:Ext ρ' (λb=>if b=r.nx then ρ' b else ρ b):=by
  intro b s hb;show (if b=r.nx then ρ' b else ρ b)=some s;by_cases e:b=r.nx
  ·rw[aJ e];exact hb
  ·rw[aw e];rcases rD b r.nx with h1|h1
   ·rw[g7 b h1,bY.qu h1]at hb;exact hb
   ·rw[g4.new b V]at hb;cases hb
 refine upon_value g2 (hn (λb=>if b=r.nx then ρ' b else ρ b) _ w' ?_);exact O5 (blk:=blk) (rr:=rr) bO inv h (E9 g5) (by unfold Rec.mk';rw[hk];rfl) e2 (by rw[e1];exact cB _ _ _) (λb hb=>aw hb) (by show (if r.nx=r.nx then ρ' r.nx else ρ r.nx)=some rr;rw[aJ rfl];exact q1) hbm (q2.mono hex) gQ
  (by rw[e2];exact g4.Xn rL) (g3.mono hex) (by rw[e2];exact g3.low g4.new) rfl rfl
end
section
variable {X:Cx}{S:Nat->Prop}{R post pre:List Rec}{r:Rec}{ρ0 ρ:bY}{w0 w:World}{c:Act}
theorem rW{b b':Nat}{x:Option jb}{k:jb}(h:ah (cA (at_ b) (.e:Heap) x) (at_ b')=some k):b'=b/\x=some k:=by
 by_cases e:at_ b'=at_ b
 ·rw[e,cB]at h;exact⟨gy e,h⟩
 ·rw[bz _ _ _ _ e]at h;cases h
theorem Bt{ρ:bY}{m b:Nat}{x:Option jb}{hp:Array Obj}(h:∀k,x=some k->∃rr,ρ b=some rr/\BR ρ hp rr k)(hm:Below ρ m):HR ρ (cA (at_ b) .e x) m hp:=by
 refine⟨λb' k hb=>?_,λb1 b2 k1 k2 s1 s2 h1 h2 _ _ _ _=>?_,hm⟩
 ·obtain⟨rfl,e⟩:=rW hb;exact h k e
 ·rw[(rW h1).1,(rW h2).1]
theorem tn{a:cr Operand}(hk:cK a=.load):∃x,mC a=some x:=by
 cases a<;>first|(cases hk;done)|exact⟨_,rfl⟩
theorem xd{H:Heap}{m:Nat}(bO:Start X ρ0 w0)(inv:gh X R ρ0 w0 S ρ c w)(h:Next X R S post pre r)(hk:cK r.a=.load)(hm:r.nx<=m)(hl:∀T L k,e7 (r.a.map (Av (uR r.σ))) X.P T L H k=k r.v)(hb:∀x b,mC r.a=some x->pF (uR r.σ x)=some b->∀k,ah H (at_ b)=some k->∃rr,ρ b=some rr/\BR ρ w.heap rr k/\qW m b k):∃u,(execOp c.eval r.o).run X.P w=.ok (.value u) w/\VR (ρ.upto m) r.v u:=by
 obtain⟨x,hx⟩:=tn hk;have hs:∃Hs:Heap,HR (ρ.upto m) Hs m w.heap/\∀b,pF (uR r.σ x)=some b->ah Hs (at_ b)=ah H (at_ b):=by
  cases pI:pF (uR r.σ x)with
  | none=>exact⟨.e,yo,λb hb=>by cases hb⟩
  | some b=>
   refine⟨cA (at_ b) .e (ah H (at_ b)),Bt (λk hg=>?_) lL,λb' ia=>by cases ia;exact cB _ _ _⟩;obtain⟨rr,g1,g2,g3⟩:=hb x b hx pI k hg;exact⟨rr,by rw[bY.qu g3.lt];exact g1,g3.cut g2⟩
 obtain⟨Hs,h1,h2⟩:=hs;have h3:e7 (r.a.map (Av (uR r.σ))) X.P .e [] Hs ui=ui r.v:=by
  rw[Bn (H:=H) hk λx' b sV ia=>?_]
  ·exact hl _ _ _
  ·rw[hx]at sV;cases sV;exact h2 b ia
 obtain⟨v,u,g1,g2,g3⟩:=E8 hk h.ok.comp (rV bO inv h hm) h1 (h3.trans rfl);have hv:v=r.v:=by
  have e:ui v=ui r.v:=g1;unfold ui at e;simp only[Option.some.injEq,Prod.mk.injEq,St.mk.injEq,Tr.n.injEq,true_and,and_true]at e;exact e
 rw[hv]at g3;exact⟨u,g2,g3⟩
theorem Ia{ρ ρ':bY}{v u:Value}{b:Nat}{rr:Ref}(h:VR ρ v u)(hb:pF v=some b)(hr:ρ' b=some rr):∃u',VR ρ' v u':=by
 cases h with
 | ptr h=>cases hb;exact⟨_,.ptr hr⟩
 | map h=>cases hb;exact⟨_,.map hr⟩
 | sc h=>unfold pF at hb;split at hb<;>first|(simp[scalar]at h;done)|cases hb
 | _=>cases hb
theorem Pd{ρ:bY}{v u:Value}{b:Nat}(h:VR ρ v u)(hb:pF v=some b):∃rr,ρ b=some rr:=by
 cases h with
 | ptr h=>cases hb;exact⟨_,h⟩
 | map h=>cases hb;exact⟨_,h⟩
 | sc h=>unfold pF at hb;split at hb<;>first|(simp[scalar]at h;done)|cases hb
 | _=>cases hb
theorem vV{a:cr Operand}{p:Operand->Prop}{x:Operand}(h:a.all p)(hx:mC a=some x):p x:=by
 cases a<;>simp only[mC]at hx<;>first|(cases hx;done)|(cases hx;simp only[cr.all]at h;first|exact h|exact h.1)
theorem Pe(bO:Start X ρ0 w0)(inv:gh X R ρ0 w0 S ρ c w)(h:Next X R S post pre r)(hk:cK r.a=.load)(hl:∀T L k,e7 (r.a.map (Av (uR r.σ))) X.P T L r.H k=k r.v)(hb:∀x b,mC r.a=some x->pF (uR r.σ x)=some b->∀k,ah r.H (at_ b)=some k->qW r.nx b k):kU r.nx r.v:=by
 obtain⟨x,hx⟩:=tn hk;cases pI:pF (uR r.σ x)with
 | none=>
  obtain⟨u,_,g⟩:=xd bO inv h hk (au _) hl (λx' b sV ia=>by rw[hx]at sV;cases sV;rw[pI]at ia;cases ia);exact g.low lL
 | some b=>
  cases hg:ah r.H (at_ b)with
  | none=>
   obtain⟨u,_,g⟩:=xd bO inv h hk (au _) hl (λx' b' sV ia k iS=>by rw[hx]at sV;cases sV;rw[pI]at ia;cases ia;rw[hg]at iS;cases iS);exact g.low lL
  | some k=>
   obtain⟨ρg,hpg,rg,q1,q2,q3⟩:=hb x b hx pI k hg;have kk:r.a.all λy=>VR ρg (uR r.σ y) (Classical.epsilon λu=>VR ρg (uR r.σ y) u):=by
    refine O2 (P:=X.P) (T:=.e) (L:=[]) (H:=r.H) hk (λk=>hl _ _ k) (λy hy=>?_) (λy hy=>Classical.epsilon_spec (p:=λu=>VR ρg (uR r.σ y) u) ⟨_,.of_flat hy⟩);rw[hx]at hy;cases hy;have:=vV (qw bO inv h) hx;exact Classical.epsilon_spec (p:=λu=>VR ρg (uR r.σ x) u) (Ia this.1 pI q1)
   have h3:e7 (r.a.map (Av (uR r.σ))) X.P .e [] (cA (at_ b) .e (some k)) ui=ui r.v:=by
    rw[Bn (H:=r.H) hk λx' b' sV ia=>?_]
    ·exact hl _ _ _
    ·rw[hx]at sV;cases sV;rw[pI]at ia;cases ia;rw[cB,hg]
   obtain⟨v,u,g1,_,g3⟩:=E8 (w:={ w with heap:=hpg }) (nx:=r.nx) hk h.ok.comp kk (Bt (m:=r.nx) (hp:=hpg) (λk' iS=>by cases iS;exact⟨rg,q1,q2⟩) q3) (h3.trans rfl);have hv:v=r.v:=by
    have e:ui v=ui r.v:=g1;unfold ui at e;simp only[Option.some.injEq,Prod.mk.injEq,St.mk.injEq,Tr.n.injEq,true_and,and_true]at e;exact e
   rw[hv]at g3;exact g3.low q3
theorem TD(bO:Start X ρ0 w0)(inv:gh X R ρ0 w0 S ρ c w)(sy:X.Ch R){q:Rec}{b:Nat}{rr:Ref}(hq:q∈R)(h1:q.nx<=b)(h2:b<q.nx')(hb:ρ b=some rr):S q.i:=by
 obtain⟨p,pq,e,k1,k2,k3⟩:=du sy hq;obtain⟨l1,l2⟩:=eV bO.up k3 k2;rcases inv.dom b rr hb with h3|⟨q2,CE,hS,h3,h4⟩
 ·omega
 ·have abj:=CE;rw[e]at abj;rcases ee.1 abj with hm|hm
  ·rw[e]at sy;obtain⟨p2,g1,g2,_,g4,g5⟩:=rS sy q2 hm;have:=((eV bO.up g5 g4).2 q g2).1;omega
  ·rcases dT.1 hm with rfl|hm
   ·exact hS
   ·have:=(l2 q2 hm).1;omega
theorem Ib:∀{post:List Rec},(∃q∈post,S q.i/\q.hv)->∃p1 q p2,post=p1++q::p2/\S q.i/\q.hv/\∀x∈p1,¬(S x.i/\x.hv):=by
 intro post
 induction post with
 | nil=>rintro⟨q,hq,_⟩;simp at hq
 | cons p post ih=>
  intro h;by_cases hp:S p.i/\p.hv
  ·exact⟨[],p,post,rfl,hp.1,hp.2,λx hx=>by simp at hx⟩
  ·obtain⟨q,hq,hS⟩:=h;rcases dT.1 hq with rfl|hq
   ·exact absurd hS hp
   ·obtain⟨p1,q',p2,e,g1,g2,g3⟩:=ih ⟨q,hq,hS⟩;refine⟨p::p1,q',p2,by rw[e];rfl,g1,g2,λx hx=>?_⟩;rcases dT.1 hx with rfl|hx
    ·exact hp
    ·exact g3 x hx
end
section
variable {X:Cx}{S:Nat->Prop}{R post pre:List Rec}{r:Rec}{ρ0 ρ:bY}{w0 w:World}{c:Act}
theorem oe(Ic:uB X.ops=true){l:List Rec}{σ:pd}{D:List gf}{H:Heap}{nx:Nat}(hc:X.Ch l)(ha:X.At l σ D H nx){p:Rec}{t:Nat}(hp:p∈l)(hd:p.o.dst=some t):σ t=p.v:=by
 rcases nz hc ha t with⟨q,hq,e1,e2⟩|⟨e1,_⟩
 ·obtain⟨_,_,_,k1,_⟩:=du hc hp;obtain⟨_,_,_,k2,_⟩:=du hc hq;have:=n6 hc q hq p hp (HX Ic k2.op k1.op e1 hd);subst this;exact e2
 ·exact absurd hd (e1 p hp)
theorem Fa{ops:List Oper}{σ σ':pd}{g:Option (Nat×Bool)}(h:∀j w q t,g=some (j,w)->ops[j]?=some q->q.dst=some t->σ' t=σ t):kJ ops σ' g=kJ ops σ g:=by
 cases g with
 | none=>rfl
 | some p=>
  obtain⟨j,want⟩:=p;show (match (ops[j]?).bind (·.dst)with|some t=>rk want (σ' t)|none=>false)=(match (ops[j]?).bind (·.dst)with|some t=>rk want (σ t)|none=>false);cases hb:(ops[j]?).bind (·.dst)with
  | none=>rfl
  | some t=>
   obtain⟨q,hj,hd⟩:=Option.bind_eq_some_iff.1 hb;show rk want (σ' t)=rk want (σ t);rw[h j want q t rfl hj hd]
theorem TE(bO:Start X ρ0 w0)(inv:gh X R ρ0 w0 S ρ c w)(h:Next X R S post pre r)(hk:cK r.a=.load)(hw:kJ X.ops r.σ r.o.guard=true)(hl:∀T L k,e7 (r.a.map (Av (uR r.σ))) X.P T L r.H k=k r.v) :
  ∃u,(execOp c.eval r.o).run X.P w=.ok (.value u) w/\VR ρ r.v u/\kU r.nx r.v:=by
 obtain⟨l1,l2⟩:=eV bO.up h.zW h.at;have VF:lB (cK r.a)=true:=by rw[hk];rfl
 have Xo:¬r.hv:=by unfold Rec.hv;rw[hk];simp[cO]
 have aeJ:∀q∈pre,q.hv->S q.i:=λq hq hv=>h.rd _ (h.ok.load VF q hq hv)
 have VG:∀x b,mC r.a=some x->pF (uR r.σ x)=some b->∀k,ah r.H (at_ b)=some k->cT S X.H0 pre b k/\qW r.nx b k:=by
  intro x b hx hb k hg;obtain⟨rr,rX⟩:=Pd (vV (qw bO inv h) hx).1 hb;have h1:=pH h.zW h.at (b:=b) (k:=k) aeJ (λq hq _ cg e=>TD bO inv h.ch (h.sub q hq) V V rX) hg;exact⟨h1,rT bO inv h.sub l1 (λq hq=>(l2 q hq).1) h1⟩
 have fE:kU r.nx r.v:=Pe bO inv h hk hl λx b hx hb k hg=>(VG x b hx hb k hg).2
 by_cases hp:∃q∈post,S q.i/\q.hv
 ·obtain⟨p1,q,p2,e,hqS,hqv,GY⟩:=Ib hp;have eR:R=p1++q::(p2++r::pre):=by rw[h.eq,e];simp
  have hqR:q∈R:=by rw[eR];simp
  have sy:=h.ch;rw[eR]at sy;have VH:=ym sy;have JU:r∈p2++r::pre:=by simp
  have LQ:bit X.fQ q.i r.i=false:=by
   cases hb:bit X.fQ q.i r.i with
   | false=>rfl
   | true=>exact absurd (h.cl q hqR hqS _ hb) h.not
  obtain⟨done,JV,q',a,t,e1,e2,e3,e4,e5⟩:=VH.1.again hqv r JU VF LQ;rw[h.ok.op]at e1;cases e1;have ha:=O9 h.ok.comp e2 hk;subst ha;have zV:X.At (q::(p2++r::pre)) (q.σ.set q.o.dst q.v) q.D' q.H' q.nx':=⟨rfl,rfl,rfl,rfl⟩;have abk:∀t,t∈tmpsOf r.o->q.σ.set q.o.dst q.v t=r.σ t:=by
   intro t ht;rcases nz VH zV t with⟨q1,vR,d1,v1⟩|⟨n1,v1⟩
   ·obtain⟨_,_,_,k1,_⟩:=du VH vR;have hb:bit X.fQ r.i q1.i=true:=by
     rcases still_at e4 ht k1.op d1 with hb|hb
     ·exact hb
     ·rcases dT.1 vR with rfl|aeK
      ·rcases HW h.ok.hyg ht k1.op d1 with ia|ia
       ·exact ia
       ·rw[LQ]at ia;cases ia
      ·rw[(JV q1.i).2 ⟨q1,aeK,rfl⟩]at hb;cases hb
    obtain⟨p,hp,hi⟩:=h.ok.LO _ hb;have aeL:q1∈R:=by
     rw[eR];exact ee.2 (.inr vR)
    have:=n6 h.ch p (h.sub p hp) q1 aeL hi;subst this;rw[v1];exact(oe h.one h.zW h.at hp d1).symm
   ·rcases nz h.zW h.at t with⟨q2,CE,d2,_⟩|⟨_,v2⟩
    ·exact absurd d2 (n1 q2 (by simp[CE]))
    ·rw[v1,v2]
  have Xr:kJ X.ops (q.σ.set q.o.dst q.v) r.o.guard=kJ X.ops r.σ r.o.guard:=by
   refine Fa λj want qq t hg hj hd=>?_
   obtain⟨p,hp,hi⟩:=h.ok.LO _ (h.ok.grd j want hg);obtain⟨_,_,_,k1,_⟩:=du h.zW hp;have ho:p.o=qq:=by
    have:=k1.op;rw[hi,hj]at this;exact(jk this).symm
   rw[<-ho]at hd;rw[oe h.one VH zV (by simp[hp]) hd,oe h.one h.zW h.at hp hd]
  have aeM:r.a.map (Av (uR (q.σ.set q.o.dst q.v)))=r.a.map (Av (uR r.σ)):=by
   refine map_congr (ns (λx hx=>?_) (mV h.ok.comp));cases x with
   | tmp t=>
    show Od.aO (q.σ.set q.o.dst q.v t)=Od.aO (r.σ t);rw[abk t (List.mem_filterMap.2 ⟨_,hx,rfl⟩)]
   | _=>rfl
  obtain⟨u,hlu,abl⟩:=e5 (Xr.trans hw);rw[oe h.one VH zV (fY _ JU) e3]at abl;have:=LS abl;subst this;rw[aeM]at hlu;have hle:r.nx<=q.nx':=by
   have g1:=h.le bO.up;have g2:=((eV bO.up VH.2.2 VH.2.1).2 r JU).1;have g3:=HT bO.up VH.1;omega
  obtain⟨u,g1,g2⟩:=xd bO inv h hk hle hlu λx b hx hb k hg=>by
   have hB:cT S X.H0 R b k:=by
    rw[eR];exact pG GY (.inl ⟨hqS,hqv,hg⟩)
   obtain⟨rr,q1,q2⟩:=inv.blk b k hB;exact⟨rr,q1,q2,inv.fE q hqR hqS hqv b k hg⟩
  exact⟨u,g1,g2.mono pE,fE⟩
 ·have gu:∀q∈post,¬(S q.i/\q.hv):=λq hq g=>hp ⟨q,hq,g⟩
  obtain⟨u,g1,g2⟩:=xd bO inv h hk (au _) hl λx b hx hb k hg=>by
   obtain⟨h1,h2⟩:=VG x b hx hb k hg;have hB:cT S X.H0 R b k:=by
    rw[h.eq];exact pG gu (.inr (.inr ⟨λg=>Xo g.2,h1⟩))
   obtain⟨rr,q1,q2⟩:=inv.blk b k hB;exact⟨rr,q1,q2,h2⟩
  exact⟨u,g1,g2.mono pE,fE⟩
def tp(ops:List Oper)(o:Oper):List Nat:=tmpsOf o++(match o.guard with
 | some (j,_)=>((ops[j]?).bind (·.dst)).toList
 | none=>[])
theorem CJ{env:Env}{T:Tr Value}{L:List Value}{b:cr Od}{g:Option (Nat×Bool)}(bO:Start X ρ0 w0)(inv:gh X R ρ0 w0 S ρ c w)(h:Next X R S post pre r)(ht:r.a.hZ (cv X.kept X.n env)=some b)(hg:jM X.ops env r.o.guard=some g)(hE:gq X.kept r.σ env T L)(mU:∀t od,(t,od)∈env->∃q∈pre,q.o.dst=some t) :
  ∃Pf AB,r.a.hZ (cv Pf X.n AB)=some b/\jM X.ops AB r.o.guard=some g/\jQ (ρ.upto r.nx) Pf X.n AB T L c:=by
 refine⟨X.kept.filter (eI (tp X.ops r.o)),env.filter (λp=>eI (tp X.ops r.o) p.1),?_,?_,?_⟩
 ·rw[<-ht];refine HV (ns (λx hx=>?_) (mV h.ok.comp));cases x with
  | tmp t=>
   have hm:eI (tp X.ops r.o) t=true:=ju.2 (ee.2 (.inl (List.mem_filterMap.2 ⟨_,hx,rfl⟩)));simp only[cv];rw[vS hm,E7 hm]
  | _=>rfl
 ·rw[<-hg];cases m9:r.o.guard with
  | none=>rfl
  | some p=>
   obtain⟨j,want⟩:=p;simp only[jM];cases hj:X.ops[j]? with
   | none=>rfl
   | some q=>
    simp only;cases hd:q.dst with
    | none=>rfl
    | some t=>
     have hm:eI (tp X.ops r.o) t=true:=ju.2 (ee.2 (.inr (by simp[m9,hj,hd])));simp only;rw[vS hm]
 ·have key:∀t,eI (tp X.ops r.o) t=true->((∃q∈pre,q.o.dst=some t)\/eI X.kept t=true)->VR (ρ.upto r.nx) (r.σ t) (c.tmps.getD t undef):=by
   intro t hm hk;have hv:VR ρ (r.σ t) (c.tmps.getD t undef)/\kU r.nx (r.σ t):=by
    rcases ee.1 (ju.1 hm)with hm|hm
    ·exact Bq bO inv h hm hk
    ·cases m9:r.o.guard with
     | none=>rw[m9]at hm;simp at hm
     | some p=>
      obtain⟨j,want⟩:=p;rw[m9]at hm;simp only[Option.mem_toList]at hm;obtain⟨q,hj,hd⟩:=Option.bind_eq_some_iff.1 hm;exact vU bO inv h m9 hj hd
   exact hv.2.cut hv.1
  refine⟨inv.size,λt od hf=>?_,λt hk=>?_⟩
  ·have hm:=ti hf;rw[rC]at hm;rw[hE.env t od hm.1];exact key t hm.2 (.inl (mU t od hm.1))
  ·have iS:=ju.1 hk;rw[rC]at iS;rw[hE.kept t (ju.2 iS.1)];exact key t iS.2 (.inr (ju.2 iS.1))
theorem LY(bO:Start X ρ0 w0)(dt:ig X.P X.rn)(tg:ri X.P X.ins)(inv:gh X R ρ0 w0 S ρ c w)(h:Next X R S post pre r){next:Act->World->Prop}{Q:Exit->Act->World->Prop}(hn:∀ρ' c' w',gh X R ρ0 w0 (qX S r) ρ' c' w'->next c' w') :
  (if Region.wanted r.o (yielded X.ops.toArray c.tmps)then r.o.wp X.P c w next Q\/(r.o.asks X.P c w/\LetsOut Q)else next (c.put r.o.dst undef) w):=by
 obtain⟨env,T,L,b,g,ht,hg,hE,mU,hs⟩:=h.ok.step;by_cases hh:r.hv
 ·obtain⟨Pf,AB,ht',Nx,hR⟩:=CJ bO inv h ht hg hE mU;refine ET bO.eq dt tg h.ok.comp ht' Nx hR (LW bO inv h hh).1 (O6 bO inv h hh) hs λρ' u w' c' hv hw hD hc=>?_
  obtain⟨ρ2,hi⟩:=LX bO inv h hh hv hw hD hc;exact hn ρ2 _ w' hi
 ·rw[HZ bO inv h,<-CA hg hE];have kk:=qw bO inv h;have hwS:=CA hg hE;have hP:=bO.eq;have hu:=bO.up;generalize hv:r.v=v at hs;generalize hDd:r.D'=D' at hs;generalize hH:r.H'=H' at hs;generalize hx:r.nx'=nx' at hs;cases hs with
  | alias od hb hm Nu=>
   rw[hb]at ht;obtain⟨x,OS,DQ⟩:=ER ht;have hw:wanted L g=true:=by rw[Nu];rfl
   rw[aJ hw];refine .inl ?_;unfold Oper.wp;rw[EP hm h.ok.comp OS];rw[OS]at kk;have HH:r.v=uR r.σ x:=hv.trans (abe hE DQ);refine hn ρ _ w (mE inv h hh (λ_=>by omega) (.refl w) ?_ ?_ rfl rfl)
   ·rw[HH];exact kk.1
   ·rw[HH,hx];exact kk.2
  | jc hw=>
   rw[hw,aw (by simp)];exact hn ρ _ w (mE inv h hh (λ_=>by omega) (.refl w) (by rw[hv];exact VR.undef) (by rw[hv];exact kU.none) rfl rfl)
  | did hw _ _ _ _ hd hdd=>
   rw[hw,aJ rfl];refine .inl ?_;unfold Oper.wp;have GX:cK b=cK r.a:=lj (.loc 0) ht;have wM:=CG (ko (by rw[GX];exact hh)) hd;rw[hP]at wM;cases hk:cK r.a with
   | pure=>exact pure_run bO inv h ht hE hk (by rw[hv,hH,hx];exact wM) hn
   | make=>exact Pc bO inv h ht hE hk (by rw[hv,hH,hx];exact wM) hn
   | di=>exact absurd (show r.hv by unfold Rec.hv;rw[hk];rfl) hh
   | load=>
    obtain⟨e1,e2,e3,_⟩:=E0 (GX.trans hk) wM;obtain⟨u,g1,g2,g3⟩:=TE bO inv h hk (hwS.symm.trans hw) (by rw[hv];exact ON ht hE e3);rw[g1];refine hn ρ _ w (mE inv h hh (λhm=>?_) (.refl w) g2 ?_ rfl rfl)
    ·omega
    ·rw[hx,e2];exact g3
end
section
variable {X:Cx}{S:Nat->Prop}{R post pre:List Rec}{r:Rec}{ρ0 ρ:bY}{w0 w:World}{c:Act}
theorem Pg{acc:List Nat}{j:Nat}:∀(l:List Edge) (s:Nat),Nat.testBit (l.foldl (λs e=>bif Region.binds .any e then s||| 2 ^ e.on||| acc.getD e.on 0 else s) s) j=true↔
  Nat.testBit s j=true\/∃e∈l,Region.binds .any e=true/\(j=e.on\/Nat.testBit (acc.getD e.on 0) j=true):=by
 intro l
 induction l with
 | nil=>intro s;simp
 | cons e l ih=>
  intro s;rw[List.foldl_cons,ih];cases hb:Region.binds .any e with
  | false=>
   simp only[cond_false,dT,exists_eq_or_imp,hb,Bool.false_eq_true,false_and,false_or]
  | true=>
   simp only[cond_true,dT,exists_eq_or_imp,hb,true_and];rw[Nat.testBit_or,Bool.or_eq_true,uU];constructor
   ·rintro((h|h)|h)
    ·rcases h with h|h
     ·exact .inl h
     ·exact .inr (.inl (.inl h))
    ·exact .inr (.inl (.inr h))
    ·exact .inr (.inr h)
   ·rintro(h|h)
    ·exact .inl (.inl (.inl h))
    ·rcases h with(h|h)|h
     ·exact .inl (.inl (.inr h))
     ·exact .inl (.inr h)
     ·exact .inr h
def og(acc:List Nat)(o:Oper):Nat:=o.after.toList.foldl (λs e=>bif Region.binds .any e then s||| 2 ^ e.on||| acc.getD e.on 0 else s) 0
theorem CL:∀(ops:List Oper) (acc:List Nat),∃l,ops.foldl (λacc o=>acc++[og acc o]) acc=acc++l/\l.length=ops.length/\
  ∀i o,ops[i]?=some o->l[i]?=some (og (acc++l.take i) o):=by
 intro ops
 induction ops with
 | nil=>intro acc;exact⟨[],by simp,rfl,λi o h=>by simp at h⟩
 | cons o ops ih=>
  intro acc;obtain⟨l,h1,h2,h3⟩:=ih (acc++[og acc o]);refine⟨og acc o::l,by rw[List.foldl_cons,h1];simp,by simp[h2],λi q h=>?_⟩;cases i with
  | zero=>
   simp at h;subst h;simp
  | succ i=>
   simp only[DV]at h ⊢;rw[h3 i q h];simp
theorem JW{ops:List Oper}{i j:Nat}{o:Oper}(ho:ops[i]?=some o):bit (mq ops) i j=true↔∃e∈o.after.toList,Region.binds .any e=true/\(j=e.on\/(e.on<i/\bit (mq ops) e.on j=true)):=by
 obtain⟨l,h1,h2,h3⟩:=CL ops [];have hb:mq ops=l:=by
  have:mq ops=ops.foldl (λacc o=>acc++[og acc o]) []:=rfl;rw[this,h1];simp
 have hi:=h3 i o ho;unfold bit;rw[hb];have hg:l.getD i 0=og (l.take i) o:=by
  rw[aY,hi];simp
 rw[hg];unfold og;rw[Pg];have ht:∀k,(l.take i).getD k 0=if k<i then l.getD k 0 else 0:=by
  intro k;rw[aY,aY,wA];split<;>simp
 constructor
 ·rintro(h|⟨e,he,Bu,h⟩)
  ·simp at h
  ·refine⟨e,he,Bu,h.imp id λh=>?_⟩;rw[ht]at h;split at h
   ·exact⟨by assumption,h⟩
   ·simp at h
 ·rintro⟨e,he,Bu,h⟩;refine .inr ⟨e,he,Bu,h.imp id λh=>?_⟩;rw[ht,aJ h.1];exact h.2
theorem yp{ops:List Oper}{S:Nat->Prop}(h:∀i o,S i->ops[i]?=some o->∀e∈o.after.toList,Region.binds .any e=true->S e.on)(ie:∀i,S i->∃o,ops[i]?=some o) :
  ∀i o,ops[i]?=some o->(∀e∈o.after.toList,Region.binds .any e=true->S e.on)->∀j,bit (mq ops) i j=true->S j:=by
 intro i
 induction i using Nat.strongRecOn with
 | _ i ih=>
  intro o ho ha j hj;obtain⟨e,he,Bu,h1⟩:=(JW ho).1 hj;rcases h1 with rfl|⟨cg,h1⟩
  ·exact ha e he Bu
  ·have hS:=ha e he Bu;obtain⟨o',ho'⟩:=ie _ hS;exact ih e.on cg o' ho' (λe' zP ia=>h _ _ hS ho' e' zP ia) j h1
theorem LZ{T':Tr Value}{σ':pd}{D':List gf}{H':Heap}{nx':Nat}(bO:Start X ρ0 w0)(inv:gh X R ρ0 w0 S ρ c w)(sy:X.Ch R)(zV:X.At R σ' D' H' nx')(hT:∀t,eI X.kept t=true->(ah T' (cP t)).getD undef=σ' t)(kk:∀q∈R,S q.i) :
  nt ρ0 X.H0 X.nx0 w0 X.kept X.n (.normal,⟨T',D',H',nx'⟩) .normal c w:=by
 obtain⟨l1,l2⟩:=eV bO.up sy zV;have hB:∀b k,ah H' (at_ b)=some k->cT S X.H0 R b k:=λb k hb=>pH sy zV (λq hq _=>kk q hq) (λq hq _ _ _=>kk q hq) hb
 refine⟨ρ,⟨⟨λb k hb=>inv.blk b k (hB b k hb),λb b' k k' s s' hb ia hm hs fD e=>inv.inj b b' k k' s s' (hB _ _ hb) (hB _ _ ia) hm hs fD e,λb hb=>?_⟩,
  ⟨inv.ext,?_,λb k hb hm=>inv.ro b k (hB b k hb) hm,inv.frame,inv.tl,inv.os,inv.tape,inv.output⟩,l1,inv.low⟩,⟨⟨inv.size,λt od h=>by simp[find]at h,λt ht=>?_⟩,?_⟩,trivial⟩
 ·cases hr:ρ b with
  | none=>rfl
  | some s=>
   exfalso;have ia:nx'<=b:=hb;rcases inv.dom b s hr with h1|⟨q,hq,_,_,h1⟩
   ·omega
   ·have:=(l2 q hq).1;omega
 ·rintro k ⟨b,x,s,hb,hm,hs,rfl⟩;exact inv.own b x s (hB b x hb) hm hs
 ·show VR ρ ((ah T' (cP t)).getD undef) _;rw[hT t ht];rcases nz sy zV t with⟨q,hq,d,v⟩|⟨n,v⟩
  ·rw[v];exact inv.val q hq (kk q hq) t d
  ·rw[v];exact inv.kep t ht λq hq _=>n q hq
 ·obtain⟨D,g1,g2⟩:=inv.sx;have:=E4 g1 (O4 sy zV λq hq _=>kk q hq);rw[this]at g2;exact g2
theorem gh.congr{S':Nat->Prop}(h:∀i,S' i↔S i)(inv:gh X R ρ0 w0 S ρ c w):gh X R ρ0 w0 S' ρ c w:=by
 have:S'=S:=funext λi=>propext (h i)
 rw[this];exact inv
theorem Ph{Q:Exit->Act->World->Prop}(bO:Start X ρ0 w0)(dt:ig X.P X.rn)(tg:ri X.P X.ins)(sy:X.Ch R)(Ic:uB X.ops=true)(Xs:X.fQ=mq X.ops)(hR:∀i o,X.ops[i]?=some o->∃q∈R,q.i=i)(ny:∀S ρ c w,gh X R ρ0 w0 S ρ c w->(∀q∈R,S q.i)->Q .normal c w):∀(fuel:Nat) (rest:List Nat) (cZ:Array Bool) (ρ:bY) (c:Act) (w:World),rest.Nodup->rest.length=fuel->cZ.size=X.ops.length->
   (∀i,i<X.ops.length->(cZ.getD i true=false↔i∈rest))->(∀i∈rest,i<X.ops.length)->(∀i o,cZ.getD i false=true->X.ops[i]?=some o->∀e∈o.after.toList,Region.binds .any e=true->cZ.getD e.on false=true)->
   gh X R ρ0 w0 (λi=>cZ.getD i false=true) ρ c w->wpAny X.P .any X.ops.toArray Q fuel cZ c w:=by
 have Pj:∀(cZ:Array Bool),cZ.size=X.ops.length->Region.ready .any X.ops.toArray cZ=[]->∀q∈R,cZ.getD q.i false=true:=by
  intro cZ m7 gu;have key:∀l:List Rec,X.Ch l->(∀q∈l,q∈R)->∀q∈l,cZ.getD q.i false=true:=by
   intro l
   induction l with
   | nil=>intro _ _ q hq;simp at hq
   | cons p l ih=>
    intro hc hl q hq;rcases dT.1 hq with rfl|hq
    ·cases hb:cZ.getD q.i false with
     | true=>rfl
     | false=>
      exfalso;have cg:q.i<X.ops.length:=(cS.1 hc.1.op).1;have hm:q.i∈Region.ready .any X.ops.toArray cZ:=by
       refine mem_ready.2 ⟨?_,q.o,by simpa using hc.1.op,λe he Bu=>?_⟩
       ·have oh:q.i<cZ.size:=V;simp only[Array.getD_eq_getD_getElem?,Array.getElem?_eq_getElem oh,wB]at hb ⊢;exact hb
       ·have LQ:bit X.fQ q.i e.on=true:=by
         rw[Xs];exact(JW hc.1.op).2 ⟨e,Array.mem_def.1 he,Bu,.inl rfl⟩
        obtain⟨p,hp,hi⟩:=hc.1.LO _ LQ;rw[<-hi];exact ih hc.2.2 (λx hx=>hl x (fY _ hx)) p hp
      rw[gu]at hm;simp at hm
    ·exact ih hc.2.2 (λx hx=>hl x (fY _ hx)) q hq
  exact key R sy λq hq=>hq
 intro fuel
 induction fuel with
 | zero=>
  intro rest cZ ρ c w Fb hlen m7 ie cg kI inv;have HL:rest=[]:=mM hlen;subst HL;have gu:Region.ready .any X.ops.toArray cZ=[]:=by
   cases jz:Region.ready .any X.ops.toArray cZ with
   | nil=>rfl
   | cons j l=>
    exfalso;have hj:j∈Region.ready .any X.ops.toArray cZ:=by rw[jz];exact hJ
    obtain⟨h1,o,h2,_⟩:=mem_ready.1 hj;have hjl:j<X.ops.length:=by
     have:=(Array.getElem?_eq_some_iff.1 h2).1
     simpa using this
    have:=(ie j hjl).1 h1;simp at this
  exact⟨gu,ny _ ρ c w inv (Pj cZ m7 gu)⟩
 | succ fuel ih=>
  intro rest cZ ρ c w Fb hlen m7 ie cg kI inv;refine⟨λgu=>ny _ ρ c w inv (Pj cZ m7 gu),λi hi=>?_⟩;obtain⟨h1,o,h2,h3⟩:=mem_ready.1 hi;have ho:X.ops[i]?=some o:=by simpa using h2
  have jT:i<X.ops.length:=(cS.1 ho).1;obtain⟨r,hr,rfl⟩:=hR i o ho;obtain⟨post,pre,e,k1,k2,k3⟩:=du sy hr;have o8:r.o=o:=by
   have:=k1.op;rw[ho]at this;exact(jk this).symm
  have gg:¬cZ.getD r.i false=true:=by
   have oh:r.i<cZ.size:=V;simp only[Array.getD_eq_getD_getElem?,Array.getElem?_eq_getElem oh,wB]at h1 ⊢;simp[h1]
  have JX:∀j,cZ.getD j false=true->∃o,X.ops[j]?=some o:=by
   intro j hj;have hjs:j<cZ.size:=by
    rcases rD j cZ.size with h|h
    ·exact h
    ·rw[Array.getD_eq_getD_getElem?,Array.getElem?_eq_none h]at hj;simp at hj
   exact⟨X.ops[j]'V,aM V⟩
  have SE:Next X R (λi=>cZ.getD i false=true) post pre r:=by
   refine⟨e,sy,Ic,gg,λq hq hS j hj=>?_,λj hj=>?_⟩
   ·obtain⟨_,_,_,g1,_⟩:=du sy hq;rw[Xs]at hj;exact yp kI JX q.i q.o g1.op (kI q.i q.o hS g1.op) j hj
   ·rw[Xs]at hj;exact yp kI JX r.i o ho (λe he Bu=>h3 e (Array.mem_def.2 he) Bu) j hj
  have Ep:X.ops.toArray[r.i]?=some r.o:=by rw[o8];exact h2
  unfold wpOp;rw[Ep];refine LY bO dt tg inv SE λρ' c' w' aeN=>?_
  have Pk:∀j,(cZ.setIfInBounds r.i true).getD j false=true↔qX (λi=>cZ.getD i false=true) r j:=by
   intro j;by_cases hj:r.i=j
   ·subst hj;have oh:r.i<cZ.size:=V;constructor
    ·intro _;exact .inr rfl
    ·intro _;simp[oh]
   ·rw[getD_set_ne false hj];constructor
    ·intro h;exact .inl h
    ·rintro(h|h)
     ·exact h
     ·exact absurd h.symm hj
  have hri:r.i∈rest:=(ie r.i jT).1 h1;refine ih (rest.erase r.i) _ ρ' c' w' (Fb.erase _) (by rw[List.length_erase_of_mem hri];omega) (by simpa using m7) (λj hj=>?_) (λj hj=>cg j (List.mem_of_mem_erase hj)) (λj q hj hq e he Bu=>?_) (aeN.congr Pk)
  ·rw[Fb.mem_erase_iff];by_cases hjr:r.i=j
   ·subst hjr;have oh:r.i<cZ.size:=V;simp[oh]
   ·rw[getD_set_ne true hjr,ie j hj];exact⟨λh=>⟨λe=>hjr e.symm,h⟩,λh=>h.2⟩
  ·rw[Pk]at hj;rw[Pk];rcases hj with hj|rfl
   ·exact .inl (kI j q hj hq e he Bu)
   ·rw[ho]at hq;cases hq;exact .inl (h3 e (Array.mem_def.2 he) Bu)
theorem kx{H0:Heap}{b:Nat}{k:jb}:∀{R:List Rec},cT (λ_=>False) H0 R b k->ah H0 (at_ b)=some k:=by
 intro R
 induction R with
 | nil=>intro h;exact h
 | cons q R ih=>
  rintro(⟨h,_⟩|⟨h,_⟩|⟨_,h⟩)
  ·exact h.elim
  ·exact h.elim
  ·exact ih h
theorem Pm{D0:List gf}:∀{R:List Rec},JQ (λ_=>False) D0 R D0:=by
 intro R
 induction R with
 | nil=>rfl
 | cons q R ih=>exact .inr ⟨λg=>g.1,ih⟩
theorem TF{P:Program}{ins kept:List Nat}{n:Nat}{A:aN}{rn:ly}{id:Nat}{ops:Array Oper}{l:List (AO×List cz)}(hA:A.P=P)(dt:ig P rn)(tg:ri P ins)(yq:iR rn)(hm:P.follows .mixedOrders=true)(h:jN P ins kept n true ops.toList=some l) :
  ij P ins kept n (Vp A rn l) (.region id ops true):=by
 intro T D H nx o hr ρ a w hH ha;unfold jN at h;simp only[cond_true,Option.map_eq_some_iff]at h;obtain⟨s',hs,rfl⟩:=h;obtain⟨Ic,hs⟩:=fx hs;obtain⟨s,bt,bN⟩:=Option.bind_eq_some_iff.1 hs;obtain⟨kk,bN⟩:=fx bN;cases bN;obtain⟨o1,ql,Ek⟩:=bn (show bd (cx A rn s'.out.reverse T [] D H nx) xF=some o from hr);obtain⟨rfl,abm⟩:=EW Ek;obtain⟨new,oU,htr⟩:=LP (A:=A) (rn:=rn) (σ0:=λt=>(ah T (cP t)).getD undef) (D0:=D) (H0:=H) (nx0:=nx) hA _ _ _ bt;have hn:s'.out.reverse=new:=by rw[oU];simp[rp]
 rw[hn]at ql;obtain⟨R,T',σ',D',H',nx',q1,q2,q3,q4,q5⟩:=htr [] T [] D H nx _ (λt=>(ah T (cP t)).getD undef) ql ⟨λt od h=>by simp[rp]at h,λt _=>rfl⟩
  ⟨λj=>by simp[rp],λq hq=>by simp at hq,λq hq=>by simp at hq,λq hq=>by simp at hq,λj hj=>by simp[rp]at hj,λt od h=>by simp[rp]at h⟩ trivial ⟨rfl,rfl,rfl,rfl⟩ (λch e=>by rw[abm]at e;cases e)
 let X:Cx:=⟨P,A,rn,ins,kept,n,ops.toList,mq ops.toList,λt=>(ah T (cP t)).getD undef,D,H,nx⟩
 let w1:World:={ w with drawn:=w.drawn+1 }
 have bO:Start X ρ w1:=⟨hH,λt ht=>⟨ρ,_,ha.env.kept t ht,hH.new⟩,⟨ρ,_,ha.sx,hH.new⟩,yq,hA⟩;have abn:gh X R ρ w1 (λ_=>False) ρ a w1:=by
  refine⟨λb r hb=>?_,ha.env.size,λq hq h=>h.elim,λq hq h=>h.elim,λt ht _=>ha.env.kept t ht,λb k hb=>hH.blk b k (kx hb),λb b' k k' s s' hb ia hm hs fD e=>hH.inj b b' k k' s s' (kx hb) (kx ia) hm hs fD e,
   λq hq h=>h.elim,λq hq h=>h.elim,⟨D,Pm,ha.sx⟩,λq hq h=>h.elim,.refl ρ,λ_ _=>rfl,λb k s hb hm hs=>.inl ⟨b,k,s,kx hb,hm,hs,rfl⟩,λb k hb _=>kx hb,λ_ _ _=>rfl,au _,rfl,rfl,rfl⟩
  rcases rD b nx with h1|h1
  ·exact .inl h1
  ·rw[hH.new b h1]at hb;cases hb
 refine wp_region_any hm ?_;have m7:ops.size=ops.toList.length:=by simp
 have abo:∀i,(Array.replicate ops.size false).getD i false=false:=by
  intro i;rw[Array.getD_eq_getD_getElem?,Array.getElem?_replicate];split<;>rfl
 have:=Ph (X:=X) (R:=R) (ρ0:=ρ) (w0:=w1) (Q:=nt ρ H nx w kept n o1) bO dt tg q2 Ic rfl (λi q hq=>?_) (λS ρ' c w' inv hS=>?_) ops.size (List.range ops.size) (Array.replicate ops.size false) ρ a w1 List.nodup_range (by simp) (by simp[X]) (λi hi=>?_) (λi hi=>?_) (λi q hi=>?_) (abn.congr λi=>by rw[abo];simp)
 ·have e:X.ops.toArray=ops:=by simp[X]
  rw[e]at this;exact this
 ·have hi:i<ops.toList.length:=(cS.1 hq).1;have:=List.all_eq_true.1 kk i (wC.2 hi);exact(q1.done i).1 this
 ·have hd:=LZ bO inv q2 q3 q4 hS;rw[q5];exact nt.trans (w1:=w1) ⟨hH,.drew ρ H w (w.drawn+1),au _,λ_ _=>rfl⟩ hd
 ·have zR:i<ops.size:=by simpa[X]using hi
  rw[wC];refine⟨λ_=>zR,λ_=>?_⟩;rw[Array.getD_eq_getD_getElem?,Array.getElem?_replicate,aJ zR];rfl
 ·rw[wC]at hi
  simpa[X]using hi
 ·rw[abo]at hi;cases hi
end
section
theorem Sem.bind_pure'{α:Type}(x:Sem α):Sem.bind x Sem.pure=x:=by
 induction x with
 | pure a=>rfl
 | halt h=>rfl
 | load m a k ih=>exact congrArg (Sem.load m a) (funext ih)
 | store m a v k ih=>exact congrArg (Sem.store m a v) ih
 | new o k ih=>exact congrArg (Sem.new o) (funext ih)
 | shape r k ih=>exact congrArg (Sem.shape r) (funext ih)
 | freeze a n k ih=>exact congrArg (Sem.freeze a n) ih
 | frozen a k ih=>exact congrArg (Sem.frozen a) (funext ih)
 | getObj r k ih=>exact congrArg (Sem.getObj r) (funext ih)
 | setObj r o k ih=>exact congrArg (Sem.setObj r o) ih
 | choose q k ih=>exact congrArg (Sem.choose q) (funext ih)
 | sys c k ih=>exact congrArg (Sem.sys c) (funext ih)
 | program k ih=>exact congrArg Sem.program (funext ih)
 | mark m k ih=>exact congrArg (Sem.mark m) ih
theorem Sem.bind_assoc'{α β γ:Type}(x:Sem α)(f:α->Sem β)(g:β->Sem γ):Sem.bind (Sem.bind x f) g=Sem.bind x λa=>Sem.bind (f a) g:=by
 induction x with
 | pure a=>rfl
 | halt h=>rfl
 | load m a k ih=>exact congrArg (Sem.load m a) (funext ih)
 | store m a v k ih=>exact congrArg (Sem.store m a v) ih
 | new o k ih=>exact congrArg (Sem.new o) (funext ih)
 | shape r k ih=>exact congrArg (Sem.shape r) (funext ih)
 | freeze a n k ih=>exact congrArg (Sem.freeze a n) ih
 | frozen a k ih=>exact congrArg (Sem.frozen a) (funext ih)
 | getObj r k ih=>exact congrArg (Sem.getObj r) (funext ih)
 | setObj r o k ih=>exact congrArg (Sem.setObj r o) ih
 | choose q k ih=>exact congrArg (Sem.choose q) (funext ih)
 | sys c k ih=>exact congrArg (Sem.sys c) (funext ih)
 | program k ih=>exact congrArg Sem.program (funext ih)
 | mark m k ih=>exact congrArg (Sem.mark m) ih
theorem Sem.lawful:LawfulMonad Sem:=LawfulMonad.mk' Sem (λx=>Sem.bind_pure' x) (λ_ _=>rfl) (λx f g=>Sem.bind_assoc' x f g)
variable {P:Program}{w:World}
theorem L0{α β:Type}{f:α->Sem β}:∀{l:List α} {r:List β},l.length=r.length->(∀(i:Nat) (x:α) (y:β),l[i]?=some x->r[i]?=some y->(f x).run P w=.ok y w)->(l.mapM f).run P w=.ok r w:=by
 haveI:=Sem.lawful
 intro l
 induction l with
 | nil=>
  intro r hl _;cases r with
  | nil=>rfl
  | cons=>simp at hl
 | cons x l ih=>
  intro r hl h;cases r with
  | nil=>simp at hl
  | cons y r=>
   have h0:=h 0 x y rfl rfl;have h1:=ih (by simpa using hl) λi x y hx hy=>h (i+1) x y (by simpa using hx) (by simpa using hy)
   rw[List.mapM_cons];simp only[Sem.run_bind,h0,Result.andThen_ok,h1,Sem.run_pure]
theorem L2{α β:Type}{f:α->Sem β}{l:Array α}{r:List β}(hl:l.toList.length=r.length)(h:∀(i:Nat) (x:α) (y:β),l.toList[i]?=some x->r[i]?=some y->(f x).run P w=.ok y w):(l.mapM f).run P w=.ok ⟨r⟩ w:=by
 haveI:=Sem.lawful
 rw[Array.mapM_eq_mapM_toList];have:=L0 hl h;show (Sem.bind (l.toList.mapM f) λa=>Sem.pure a.toArray).run P w=_;rw[show (Sem.bind (l.toList.mapM f) λa=>Sem.pure a.toArray)=(do let a <-l.toList.mapM f;pure a.toArray)from rfl];simp only[Sem.run_bind,this,Result.andThen_ok,Sem.run_pure]
variable {ρ:bY}{T:Tr Value}{H:Heap}{nx:Nat}{kept:List Nat}{n:Nat}{a:Act}
def yr(tmps:Array Value):ResultVar->Sem Value
 | .tmp t=>pure (tmps.getD t undef)
 | .cell b t=>do loadVar t (<-asAddr (tmps.getD b undef))
theorem Xt{x:ResultVar}{y:Od×Option (Option Nat)}{k:Value->Option eF}{c:eF}(hH:HR ρ H nx w.heap)(he:jQ ρ kept n [] T [] a)(hc:j7 P kept n x=some y)(h:Ld T H y k=some c) :
  ∃v u,k v=some c/\VR ρ v u/\(yr a.tmps x).run P w=.ok u w:=by
 cases x with
 | tmp t=>
  simp only[j7]at hc;obtain⟨lZ,vE⟩:=fx hc;cases vE;simp only[gd]at lZ;have h':bd (ah T (cP t)) k=some c:=h;obtain⟨v,hv,h1⟩:=bn h';have:=he.kept t lZ.2;rw[hv]at this;exact⟨v,_,h1,this,rfl⟩
 | cell b t=>
  simp only[j7]at hc;obtain⟨lZ,vE⟩:=fx hc;simp only[gd]at lZ;obtain⟨g,hg,rfl⟩:=Option.map_eq_some_iff.1 vE;have hk:=he.kept b lZ.2;have h':(match ah T (cP b)with
   | some (.pointer (some ⟨b,o,none⟩))=>match ah H (at_ b)with
    | some (.cells cs)=>bd (partOf cs o g) k
    | _=>none
   | _=>none)=some c:=h
  split at h'
  ·rename_i b' o hb;rw[hb]at hk;split at h'
   ·rename_i cs oG;obtain⟨v,hv,h1⟩:=bn h';have iS:VR ρ (.pointer (some ⟨b',o,none⟩)) (a.tmps.getD b undef):=hk;generalize hu:a.tmps.getD b undef=u at iS;have hl:(dU (Value.pointer (some ⟨b',o,none⟩)) λb o=>db H b λcs=>bd (partOf cs o g) ui)=ui v:=by
     show onRead (ah H (at_ b')) (λcs=>bd (partOf cs o g) ui)=ui v;rw[oG];show bd (partOf cs o g) ui=ui v;rw[hv];rfl
    obtain⟨x,y,g1,g2,g3⟩:=uC (P:=P) (w:=w) hg hH iS (hl.trans rfl);have hx:x=v:=by
     have e:ui x=ui v:=g1;unfold ui at e;simp only[Option.some.injEq,Prod.mk.injEq,St.mk.injEq,Tr.n.injEq,true_and,and_true]at e;exact e
    rw[hx]at g3;refine⟨v,y,h1,g3,?_⟩;rw[<-g2];show (do loadVar t (<-asAddr (a.tmps.getD b undef)):Sem Value).run P w=_;rw[hu];cases iS with
    | sc h=>simp[scalar]at h
    | ptr hr=>rfl
   ·cases h'
  ·cases h'
end
section
variable {P:Program}{ins:List Nat}{A:aN}{rn:ly}{kept:List Nat}{n:Nat}
def dX(P:Program)(g:FuncId)(vs:List Value)(H:Heap)(nx:Nat)(c:eF):Prop:=fI P g/\nx<=c.count/\∀ρ us w,dJ ρ vs us->HR ρ H nx w.heap->Calls P g ⟨us⟩ w (EF ρ H nx w c)
structure GR(P:Program)(ins:List Nat)(A:aN):Prop where
 eq:A.P=P
 insert:ri P ins
 mix:P.follows .mixedOrders=true
 aS:∀g vs H nx c,A.aS g vs H nx=some c->dX P g vs H nx c
 func:∀g af,A.funcs g=some af->∃fn kept,P.funcs[g]?=some fn/\fn.body.isNone=false/\(fn.name == "runtime.NumGoroutine")=false/\mr P ins kept fn=some af
def uX(P:Program)(ins:List Nat)(r:ly):Prop:=∀kept n x ac,cd P ins kept n x=some ac->∃m,s9 P kept n (r.code (.loop ac)) m x
theorem nA{draw:Bool}{ops:List Oper}{ac:bA}(h:lE P ins kept n draw ops=some ac) :
  (∃p,Oe kept n ops=some p/\draw=false/\ac=.ae false [(⟨some p,none,.AX⟩,[])])\/(∃l,jN P ins kept n draw ops=some l/\ac=.ae draw l/\l.any (λx=>Jv x.1.op)=false):=by
 unfold lE at h;split at h
 ·rename_i p hp;cases h;exact .inl ⟨p,hp,rfl,rfl⟩
 ·split at h
  ·rename_i l hl;cases hb:l.any λx=>Jv x.1.op with
   | true=>rw[hb]at h;cases h
   | false=>rw[hb]at h;cases h;exact .inr ⟨l,hl,rfl,hb⟩
  ·cases h
theorem tq(hA:GR P ins A)(dt:ig P rn)(yq:iR rn)(pJ:uX P ins rn):∀(x:Code) (ac:bA),cd P ins kept n x=some ac->ij P ins kept n (cJ ac A rn) x:=by
 intro x
 induction x with
 | skip=>intro ac h;cases h;exact To
 | label l=>
  intro ac h;cases h;intro T D H nx o h ρ a w hH ha;have h':Oa T D H nx=some o:=h;cases h';exact wp_label ⟨ρ,.refl hH,ha,trivial⟩
 | region id ops draw=>
  intro ac h;rcases nA (show lE P ins kept n draw ops.toList=some ac from h)with⟨p,_,rfl,rfl⟩|⟨l,hl,rfl,_⟩
  ·intro T D H nx o h;have h':(none:R0)=some o:=h;cases h'
  ·cases draw with
   | false=>exact Xi hA.eq dt hA.insert hl
   | true=>exact TF hA.eq dt hA.insert yq hA.mix hl
 | seq a b s7 Nv=>
  intro ac h;simp only[cd]at h;split at h
  ·rename_i ca cb ha hb;cases h;exact Xc (s7 ca ha) (Nv cb hb)
  ·cases h
 | cond c a b s7 Nv=>
  intro ac h;simp only[cd]at h;split at h
  ·rename_i cc ca cb hc ha hb;cases h;exact Tq hc (s7 ca ha) (Nv cb hb)
  ·cases h
 | block id a s7=>
  intro ac h;obtain⟨ca,ha,rfl⟩:=Option.map_eq_some_iff.1 (show (cd P ins kept n a).map (.block id)=some ac from h);exact OE (s7 ca ha)
 | loop a s7=>
  intro ac h;obtain⟨ca,ha,rfl⟩:=Option.map_eq_some_iff.1 (show (cd P ins kept n a).map .loop=some ac from h);obtain⟨m,hm⟩:=pJ kept n a ca ha;exact Ts (vN (s7 ca ha) hm)
 | exit id=>intro ac h;cases h;exact Tp
 | ret=>intro ac h;cases h;exact Xb
 | _=>intro ac h;cases h
theorem Ie{ρ:bY}{T:Tr Value}{H:Heap}{nx:Nat}{a:Act}{w:World}(hH:HR ρ H nx w.heap)(he:jQ ρ kept n [] T [] a):∀{xs:List ResultVar} {ys:List (Od×Option (Option Nat))} {k:List Value->Option eF} {c:eF},
  dC P kept n xs=some ys->ir T H ys k=some c->∃vs us,k vs=some c/\dJ ρ vs us/\xs.length=us.length/\
   ∀(i:Nat) (x:ResultVar) (y:Value),xs[i]?=some x->us[i]?=some y->(yr a.tmps x).run P w=.ok y w:=by
 intro xs
 induction xs with
 | nil=>
  intro ys k c hc h;cases hc;exact⟨[],[],h,.nil,rfl,λi x y hx=>by simp at hx⟩
 | cons x xs ih=>
  intro ys k c hc h;simp only[dC]at hc;split at hc
  ·rename_i y ys' hy hys;cases hc;have h':Ld T H y (λv=>ir T H ys' λvs=>k (v::vs))=some c:=h;obtain⟨v,u,h1,h2,h3⟩:=Xt hH he hy h';obtain⟨vs,us,g1,g2,g3,g4⟩:=ih hys h1;refine⟨v::vs,u::us,g1,.cons h2 g2,by simp[g3],λi x' y' hx hy=>?_⟩;cases i with
   | zero=>
    simp at hx hy;subst hx;subst hy
    exact h3
   | succ i=>exact g4 i x' y' (by simpa using hx) (by simpa using hy)
  ·cases hc
theorem Fe{fn:Func}{tmps:Array Value}{w:World}{us:List Value}(hl:fn.results.toList.length=us.length)(h:∀(i:Nat) (x:ResultVar) (y:Value),fn.results.toList[i]?=some x->us[i]?=some y->(yr tmps x).run P w=.ok y w) :
  (results fn tmps).run P w=.ok (oneOf us) w:=by
 have e:results fn tmps=(do let vs <-fn.results.mapM (yr tmps);pure (if h:vs.size=1 then vs[0]else .tuple vs)):=by
  unfold results
  congr 2
 rw[e];have:=L2 (P:=P) (w:=w) (f:=yr tmps) hl h;simp only[Sem.run_bind];refine Eq.trans (congrArg (λr=>Result.andThen r _) this) ?_;simp only[Result.andThen_ok,Sem.run_pure]
 congr 1
 match us with
 | []=>simp[oneOf]
 | [u]=>simp[oneOf]
 | u::v::l=>simp[oneOf]
theorem dJ.single{ρ:bY}{vs us:List Value}(h:dJ ρ vs us):VR ρ (oneOf vs) (oneOf us):=by
 cases h with
 | nil=>exact .tuple .nil
 | cons h hs=>
  cases hs with
  | nil=>exact h
  | cons h1 h2=>exact .tuple (.cons h (.cons h1 h2))
inductive iU (ρ:bY):FrameMode->FrameMode->Prop
 | returning:iU ρ .returning .returning
 | panicking {ch Ay:List PanicEntry} (h:oV ρ ch Ay):iU ρ (.panicking ch) (.panicking Ay)
theorem iU.mono{ρ ρ':bY}(e:Ext ρ ρ'){u u':FrameMode}(h:iU ρ u u'):iU ρ' u u':=by
 cases h with
 | returning=>exact .returning
 | panicking h=>exact .panicking (h.mono e)
theorem iU.ne{ρ:bY}{u u':FrameMode}(h:iU ρ u u'):u'≠.run:=by
 cases h<;>simp
theorem oV.append{ρ:bY}{a a' b b':List PanicEntry}(h:oV ρ a a')(h':oV ρ b b'):oV ρ (a++b) (a'++b'):=by
 induction h with
 | nil=>exact h'
 | cons hv hr hg _ ih=>exact .cons hv hr hg ih
theorem oV.drop{ρ:bY}{a a':List PanicEntry}(h:oV ρ a a'):oV ρ (a.dropWhile (!·.goexit)) (a'.dropWhile (!·.goexit)):=by
 induction h with
 | nil=>exact .nil
 | @cons e e' l l' hv hr hg h ih=>
  rw[List.dropWhile_cons,List.dropWhile_cons,hg];cases e.goexit with
  | true=>exact .cons hv hr hg h
  | false=>exact ih
theorem Bv{ρ:bY}{u u':FrameMode}(h:iU ρ u u'):iU ρ (settle u) (settle u'):=by
 cases h with
 | returning=>exact .returning
 | panicking h=>
  cases h with
  | nil=>exact .panicking .nil
  | @cons e e' l l' hv hr hg h=>
   obtain⟨v,rec,ge⟩:=e;obtain⟨v',Xu,ge'⟩:=e';simp only at hr hg;subst hr;subst hg
   cases Xu with
   | false=>exact .panicking (.cons hv rfl rfl h)
   | true=>
    have hd:=h.drop;show iU ρ (match l.dropWhile (!·.goexit)with|[]=>.returning|rest=>.panicking rest) (match l'.dropWhile (!·.goexit)with|[]=>.returning|rest=>.panicking rest);generalize l.dropWhile (!·.goexit)=m at hd;generalize l'.dropWhile (!·.goexit)=m' at hd;cases hd with
    | nil=>exact .returning
    | cons hv hr hg h=>exact .panicking (.cons hv hr hg h)
theorem L3{ρ:bY}{u u':FrameMode}{ch Ay:List PanicEntry}(h:iU ρ u u')(hc:oV ρ ch Ay):iU ρ (raised u ch) (raised u' Ay):=by
 cases h with
 | returning=>exact .panicking hc
 | panicking h=>exact .panicking (hc.append h)
theorem CM{ρ:bY}{u u':FrameMode}(h:iU ρ u u'):VR ρ (recovered u).1 (recovered u').1/\iU ρ (recovered u).2 (recovered u').2:=by
 cases h with
 | returning=>exact⟨.wF,.returning⟩
 | panicking h=>
  cases h with
  | nil=>exact⟨.wF,.panicking .nil⟩
  | @cons e e' l l' hv hr hg h=>
   obtain⟨v,rec,ge⟩:=e;obtain⟨v',Xu,ge'⟩:=e';simp only at hr hg;subst hr;subst hg
   cases Xu<;>cases ge'<;>first|exact⟨hv,.panicking (.cons hv rfl rfl h)⟩|exact⟨.wF,.panicking (.cons hv rfl rfl h)⟩
theorem Ff(c:Frame)(cs:List Frame):(match recoverD (c::cs)with|some (v,cs')=>(v,cs')|none=>(.nilIface,c::cs))=((recovered c.mode).1,{ c with mode:=(recovered c.mode).2 }::cs):=by
 have hc:∀m,c.mode=m->({ c with mode:=m }:Frame)=c:=λm h=>by subst h;rfl
 cases hm:c.mode with
 | run=>simp[recoverD,recovered,hm,hc]
 | returning=>simp[recoverD,recovered,hm,hc]
 | panicking ch=>
  cases ch with
  | nil=>simp[recoverD,recovered,hm,hc]
  | cons e l=>
   obtain⟨v,rec,ge⟩:=e;cases rec<;>cases ge<;>simp[recoverD,recovered,hm,hc]
end
section
variable {P:Program}{ins:List Nat}{A:aN}{rn:ly}{kept:List Nat}{n:Nat}
theorem yt:∀(l:List Value) (i:Nat) (T:Tr Value) (t:Nat),ah (rQ l i T) (at_ t)=if i<=t/\t<i+l.length then l[t-i]? else ah T (at_ t):=by
 intro l
 induction l with
 | nil=>intro i T t;rw[aw (by simp)];rfl
 | cons v l ih=>
  intro i T t;show ah (rQ l (i+1) (cA (at_ i) T (some v))) (at_ t)=_;rw[ih];by_cases h1:i+1<=t/\t<i+1+l.length
  ·rw[aJ h1,aJ (by simp;omega)];have:t-i=(t-(i+1))+1:=V;rw[this,DV]
  ·rw[aw h1];by_cases h2:t=i
   ·subst h2;rw[cB,aJ (by simp)];simp
   ·rw[bz _ _ _ _ (λe=>h2 (gy e)),aw (by simp;omega)]
theorem Fg{ρ:bY}{vs us:List Value}(h:dJ ρ vs us):LH ρ kept n (rQ vs 0 .e) [] { tmps:=⟨us⟩++Array.replicate (n-us.length) undef,defers:=[] }:=by
 refine⟨⟨by simp;omega,λt od hf=>by simp[find]at hf,λt _=>?_⟩,.nil⟩;rw[kg,yt];have hl:=h.length;have hg:(⟨us⟩++Array.replicate (n-us.length) undef:Array Value).getD t undef=us.getD t undef:=by
  rw[Array.getD_eq_getD_getElem?,aY,Array.getElem?_append];by_cases ht:t<us.length
  ·rw[aJ (by simpa using ht)];simp
  ·rw[aw (by simpa using ht),Array.getElem?_replicate,gx V];split<;>rfl
 show VR ρ _ ((⟨us⟩++Array.replicate (n-us.length) undef:Array Value).getD t undef);rw[hg,aY];by_cases ht:t<vs.length
 ·rw[aJ V];have hv:vs[t]?=some vs[t]:=aM ht;obtain⟨u,hu,hr⟩:=h.get hv;rw[Nat.sub_zero,hv,hu];exact hr
 ·rw[aw V,gx V];exact VR.undef
theorem Fh{o:Oper}{d:Call}{a:Act}{w:World}(ho:o.op=.call d)(hd:d.callee=.builtin .recover)(cF:d.args.toList=[]):(execOp a.eval o).run P w=.ok .recover w:=by
 rw[rN ho hd];rfl
theorem Xv(hA:GR P ins A)(dt:ig P rn)(yq:iR rn)(pJ:uX P ins rn){v vm:Value}{cs cs':List Frame}(oG:(match recoverD cs with|some (v,cs')=>(v,cs')|none=>(.nilIface,cs))=(vm,cs')) :
  ∀(x:Code) (ac Ny:bA) (p:List Bool),cd P ins kept n x=some ac->nj ac=some (p,Ny)->∀T D H nx o,cJ Ny A rn (cA p T (some v)) D H nx=some o->∀ρ a w,HR ρ H nx w.heap->LH ρ kept n T D a->VR ρ v vm->
   ∀Q:Exit->Act->List Frame->World->Prop,(∀e a' w',nt ρ H nx w kept n o e a' w'->Q e a' cs' w')->x.wpS P Q a cs w:=by
 intro x
 induction x with
 | seq a b s7 Nv=>
  intro ac Ny p hc hs T D H nx o h ρ c w hH ha hv Q hQ;simp only[cd]at hc;split at hc
  ·rename_i ca cb hca LC;cases hc;simp only[nj]at hs;split at hs
   ·rename_i p0 ca' AF;cases hs;obtain⟨o1,h1,h2⟩:=bn (show bd (cJ ca' A rn (cA p T (some v)) D H nx) (pr (cJ cb A rn))=some o from h);refine wpS_seq (s7 ca ca' p hca AF T D H nx o1 h1 ρ c w hH ha hv _ λe a1 w1 hq=>?_);have:=uP (Q:=nt ρ H nx w kept n o) (N:=λa w=>b.wpS P Q a cs' w) h2 (λst bO ρ1 a1 w1 g1 g2=>wpS_of_wp (wp_mono (tq hA dt yq pJ b cb LC _ _ _ _ o bO ρ1 a1 w1 g1.hr g2) λe a2 w2 hq=>hQ e a2 w2 (.trans g1 hq))) hq;cases e<;>first|exact this|exact hQ _ _ _ this
   ·cases hs
  ·cases hc
 | region id ops draw=>
  intro ac Ny p hc hs T D H nx o h ρ c w hH ha hv Q hQ;rcases nA (show lE P ins kept n draw ops.toList=some ac from hc)with⟨p0,CN,rfl,rfl⟩|⟨l,_,rfl,hl⟩
  ·simp only[nj,Option.some.injEq,Prod.mk.injEq]at hs;obtain⟨rfl,rfl⟩:=hs;have h':some (Ex.normal,(⟨cA p0 T (some v),D,H,nx⟩:St))=some o:=h;cases h';unfold Oe at CN;split at CN
   ·rename_i op aeO;split at CN
    ·rename_i d t ho hg hd;split at CN
     ·rename_i HG;obtain⟨hb,hp⟩:=fx CN;cases hp;simp only[gd,List.isEmpty_iff]at hb;obtain⟨⟨cF,cg⟩,hk⟩:=hb;have oh:t<n:=by rwa [Nat.blt_eq]at cg
      have abp:ops=#[op]:=by apply Array.ext';rw[aeO]
      subst abp;refine wpS_region ?_;show wpOpsS P #[op] Q [0] c cs w;have TG:Region.wanted op (yielded #[op] c.tmps)=true:=by unfold Region.wanted;rw[hg]
      have fT:=Fh (P:=P) (a:=c) (w:=w) ho HG cF;have OQ:jQ ρ kept n [] (cA (cP t) T (some v)) [] (c.put (some t) vm):=by
       have:=ha.env.put (keep:=some (cP t)) (T':=cA (cP t) T (some v)) hv oh (.inr ⟨_,rfl,rfl,rfl,rfl⟩);exact⟨this.size,λt od hf=>by simp[find]at hf,this.kept⟩
      have ny:Q .normal (c.put (some t) vm) cs' w:=hQ _ _ _ ⟨ρ,.refl hH,⟨OQ,ha.sx⟩,trivial⟩;simp only[wpOpsS];rw[show (#[op]:Array Oper)[0]?=some op from rfl];simp only[TG,if_true,fT,hd];cases hr:recoverD cs with
      | none=>
       rw[hr]at oG;cases oG;exact ny
      | some y=>
       rw[hr]at oG;obtain⟨y1,y2⟩:=y;cases oG;exact ny
     ·cases CN
    ·cases CN
   ·cases CN
  ·exfalso;unfold nj at hs;split at hs
   ·rename_i he;cases he
   ·rename_i he;cases he;simp[Jv]at hl
   ·cases hs
 | skip=>intro ac Ny p hc hs;cases hc;cases hs
 | label l=>intro ac Ny p hc hs;cases hc;cases hs
 | exit id=>intro ac Ny p hc hs;cases hc;cases hs
 | ret=>intro ac Ny p hc hs;cases hc;cases hs
 | block id a _=>
  intro ac Ny p hc hs;obtain⟨ca,_,rfl⟩:=Option.map_eq_some_iff.1 (show (cd P ins kept n a).map (.block id)=some ac from hc);cases hs
 | loop a _=>
  intro ac Ny p hc hs;obtain⟨ca,_,rfl⟩:=Option.map_eq_some_iff.1 (show (cd P ins kept n a).map .loop=some ac from hc);cases hs
 | cond c a b _ _=>
  intro ac Ny p hc hs;simp only[cd]at hc;split at hc
  ·cases hc;cases hs
  ·cases hc
 | _=>intro ac Ny p hc hs;cases hc
theorem nB{fn:Func}{af:az}(h:mr P ins kept fn=some af):∃x,fn.body=some x/\cd P ins kept fn.ntmps x=some af.body/\dC P kept fn.ntmps fn.results.toList=some af.results:=by
 unfold mr at h;split at h
 ·rename_i x hx;split at h
  ·rename_i b r hb hr;cases h;exact⟨x,hx,hb,hr⟩
  ·cases h
 ·cases h
theorem vW{fn:Func}{tmps:Array Value}{w:World}(h:dC P kept n fn.results.toList=some []):(results fn tmps).run P w=.ok (.tuple #[]) w:=by
 have:fn.results.toList=[]:=by
  cases hl:fn.results.toList with
  | nil=>rfl
  | cons x l=>
   rw[hl]at h;simp only[dC]at h;split at h
   ·cases h
   ·cases h
 exact results_none (by apply Array.ext';rw[this]) tmps P w
def VI(ρ:bY)(H:Heap)(nx:Nat)(w:World)(u1:FrameMode)(H1:Heap)(aQ:Nat)(e:Ending)(u2:FrameMode)(w':World):Prop:=
 ∃ρ',lJ ρ H nx w ρ' H1 aQ w'/\match e with
  | .returned _=>iU ρ' u1 (settle u2)
  | .panicked ch=>iU ρ' u1 (raised u2 ch)
  | .outgrown=>False
theorem JY{ρ:bY}{H:Heap}{nx:Nat}{w w':World}{o:Ex×St}{u u2 u1:FrameMode}{H1:Heap}{aQ:Nat}{fn:Func}{c₀:Frame}{cs:List Frame}{e:Exit}{a':Act}(h:Le o u=some (u1,H1,aQ))(ho:nt ρ H nx w kept n o e a' w')(hm:∀ρ',Ext ρ ρ'->iU ρ' u u2)(Fi:∀tmps,(results fn tmps).run P w'=.ok (.tuple #[]) w'):bodyPostS P fn c₀ cs (VI ρ H nx w u1 H1 aQ) e a' ({ c₀ with mode:=u2 }::cs) w':=by
 obtain⟨ρ',g1,g2,g3⟩:=ho;have Ck:=hm ρ' g1.iw.ext;have hdf:=g2.sx;unfold Le at h;split at h
 ·cases h;cases e with
  | normal=>
   generalize hd:a'.defers=ds at hdf;cases hdf;exact⟨hd,u2,rfl,_,Fi _,ρ',g1,Bv Ck⟩
  | _=>exact g3.elim
 ·cases h;cases e with
  | ret=>
   generalize hd:a'.defers=ds at hdf;cases hdf;exact⟨hd,u2,rfl,_,Fi _,ρ',g1,Bv Ck⟩
  | _=>exact g3.elim
 ·cases h;cases e with
  | panic Ay=>
   generalize hd:a'.defers=ds at hdf;cases hdf;exact⟨hd,u2,rfl,ρ',g1,L3 Ck g3⟩
  | _=>exact g3.elim
 ·cases h
theorem Fj(hA:GR P ins A)(dt:ig P rn)(yq:iR rn)(pJ:uX P ins rn){ρ:bY}{f:Value}{args:List Value}{d:Deferred}{u u' u1:FrameMode}{H H1:Heap}{nx aQ:Nat}{w:World}(h:iO A rn f args u H nx=some (u1,H1,aQ))(hd:Tn ρ (f,args) d)(hm:iU ρ u u')(hH:HR ρ H nx w.heap) :
  ∃fv cap g as,d.target=.fn fv cap/\(invoke d.target d.args).run P w=.ok (.enter g as) w/\CallsD P g as u' w (VI ρ H nx w u1 H1 aQ):=by
 obtain⟨g0,x1,x1',q,q',vs,e1,rfl,e3,e4,e5⟩:=hd;simp only at e1 e5;subst e1;unfold iO at h;split at h
 ·rename_i g first captured hg
  simp only[Value.func.injEq,Fn.func.injEq]at hg;obtain⟨rfl,rfl,rfl⟩:=hg;split at h
  ·rename_i c hfn;obtain⟨fn,kept,p1,p2,p3,p4⟩:=hA.func _ _ hfn;obtain⟨x,b1,b2,b3⟩:=nB p4;have qU:fI P g0:=⟨fn,p1,p2,p3⟩;have mS:dJ ρ (x1++args++q) (x1'++vs++q'):=(e3.append e5).append e4;have bO:=Fg (kept:=kept) (n:=fn.ntmps) mS;have hlen:(⟨x1'++vs++q'⟩:Array Value).size=(x1'++vs++q').length:=rfl;refine⟨_,_,g0,⟨x1'++vs++q'⟩,rfl,?_,?_⟩
   ·have:invoke (.fn (.func g0) ⟨q'⟩) ⟨x1'++vs⟩=callFunc g0 ⟨x1'++vs++q'⟩:=by
     simp only[invoke]
     congr 1
     apply Array.ext';simp
    rw[this];exact qU.run
   ·split at h
    ·rename_i p c' AF;obtain⟨o,h1,h2⟩:=bn h;rw[eh,cL]at h1;obtain⟨hrv,JU⟩:=CM hm;refine callsD_of_wpS p1 b1 λc₀ cs hc₀=>?_
     have oG:=Ff c₀ cs;rw[hc₀]at oG;rw[hlen];refine Xv hA dt yq pJ oG x c c' p b2 AF _ [] H nx o h1 ρ _ w hH bO hrv _ λe a' w' ho=>?_
     exact JY h2 ho (λρ' he=>JU.mono he) λtmps=>vW b3
    ·obtain⟨o,h1,h2⟩:=bn h;rw[eh]at h1;refine callsD_of_wpS p1 b1 λc₀ cs hc₀=>?_
     rw[hlen];have hc₀':({ c₀ with mode:=u' }:Frame)=c₀:=by subst hc₀;rfl
     refine wpS_of_wp (wp_mono (tq hA dt yq pJ x c b2 _ [] H nx o h1 ρ _ w hH bO) λe a' w' ho=>?_);have:=JY (P:=P) (fn:=fn) (c₀:=c₀) (cs:=cs) h2 ho (λρ' he=>hm.mono he) λtmps=>vW b3
     rwa [hc₀']at this
  ·cases h
 ·rename_i gu;exact absurd rfl (gu _ _ _)
end
section
variable {P:Program}{ins:List Nat}{A:aN}{rn:ly}{kept:List Nat}{n:Nat}
theorem EF.trans{ρ ρ1:bY}{H H1:Heap}{nx aQ:Nat}{w w1:World}{c:eF}{e:Ending}{w':World}(h:lJ ρ H nx w ρ1 H1 aQ w1)(h':EF ρ1 H1 aQ w1 c e w'):EF ρ H nx w c e w':=by
 cases c with
 | ok v H' nx'=>
  obtain⟨u,ρ',g1,g2,g3⟩:=h';exact⟨u,ρ',g1,g2,h.trans g3⟩
 | rE ch H' nx'=>
  obtain⟨u,ρ',g1,g2,g3⟩:=h';exact⟨u,ρ',g1,g2,h.trans g3⟩
theorem L4(hA:GR P ins A)(dt:ig P rn)(yq:iR rn)(pJ:uX P ins rn){fn:Func}{af:az}{T:Tr Value}{tmps:Array Value}{c:eF}(Fi:dC P kept n fn.results.toList=some af.results) :
  ∀(D:List gf) (u:FrameMode) (H:Heap) (nx:Nat) (y:FrameMode×Heap×Nat),gP A rn D u H nx=some y->nS af T y=some c->∀ρ ds u' w,je ρ D ds->iU ρ u u'->HR ρ H nx w.heap->jQ ρ kept n [] T [] ⟨tmps,[]⟩->
   ∀R:Ending->World->Prop,(∀e w',EF ρ H nx w c e w'->R e w')->Leaves P fn tmps R ds u' w:=by
 intro D
 induction D with
 | nil=>
  intro u H nx y hy hl ρ ds u' w hd hm hH he R hR;cases hy;cases hd;unfold nS at hl;cases hm with
  | returning=>
   obtain⟨vs,us,g1,g2,g3,g4⟩:=Ie hH he Fi (show ir T H af.results (λvs=>some (.ok (oneOf vs) H nx))=some c from hl);cases g1;exact⟨oneOf us,Fe g3 g4,hR _ _ ⟨_,ρ,rfl,g2.single,.refl hH⟩⟩
  | panicking h=>
   have mR:some (eF.rE _ H nx)=some c:=hl;cases mR;exact hR _ _ ⟨_,ρ,rfl,h,.refl hH⟩
 | cons d D ih=>
  obtain⟨f,args⟩:=d;intro u H nx y hy hl ρ ds u' w hd hm hH he R hR;unfold gP at hy;split at hy
  ·rename_i u1 H1 aQ h1;generalize hdd:(f,args)::D=DD at hd;cases hd with
   | nil=>cases hdd
   | cons hx s8=>
    cases hdd;obtain⟨fv,cap,g,as,k1,k2,k3⟩:=Fj hA dt yq pJ h1 hx hm hH;refine⟨hm.ne,fv,cap,g,as,k1,k2,k3.mono λe u2 w' hE=>?_⟩;obtain⟨ρ',q1,q2⟩:=hE;cases e with
    | returned v=>exact ih _ _ _ _ hy hl ρ' _ _ _ (s8.mono q1.iw.ext) q2 q1.hr (he.mono q1.iw.ext) R λe w'' hr=>hR e w'' (.trans q1 hr)
    | panicked ch=>exact ih _ _ _ _ hy hl ρ' _ _ _ (s8.mono q1.iw.ext) q2 q1.hr (he.mono q1.iw.ext) R λe w'' hr=>hR e w'' (.trans q1 hr)
    | outgrown=>exact q2.elim
  ·cases hy
theorem Pn(hA:GR P ins A)(dt:ig P rn)(yq:iR rn)(pJ:uX P ins rn){g:FuncId}{vs:List Value}{H:Heap}{nx:Nat}{c:eF}(h:Vt A rn g vs H nx=some c) :
  fI P g/\∀ρ us w,dJ ρ vs us->HR ρ H nx w.heap->Calls P g ⟨us⟩ w (EF ρ H nx w c):=by
 have h':(Option.rec (bd (A.funcs g) (lz A rn vs H nx)) some (A.aS g vs H nx):Option eF)=some c:=h;cases hh:A.aS g vs H nx with
 | some c'=>
  rw[hh]at h';cases h';obtain⟨q1,_,q2⟩:=hA.aS _ _ _ _ _ hh;exact⟨q1,q2⟩
 | none=>
 rw[hh]at h';obtain⟨af,h1,h2⟩:=bn (show bd (A.funcs g) (lz A rn vs H nx)=some c from h');obtain⟨fn,kept,p1,p2,p3,p4⟩:=hA.func _ _ h1;obtain⟨x,b1,b2,b3⟩:=nB p4;refine⟨⟨fn,p1,p2,p3⟩,λρ us w mS hH=>?_⟩;obtain⟨o,h3,h4⟩:=bn (show bd (nR vs .e λT=>cJ af.body A rn T [] H nx) (Aj A rn af)=some c from h2);rw[eh]at h3;refine calls_of_wp_defers p1 b1 ?_;have bO:=Fg (kept:=kept) (n:=fn.ntmps) mS;have hlen:(⟨us⟩:Array Value).size=us.length:=rfl;rw[hlen];refine wp_mono (tq hA dt yq pJ x af.body b2 _ [] H nx o h3 ρ _ w hH bO) λe a' w' ho=>?_
 obtain⟨ex,T,D,H',nx'⟩:=o;obtain⟨ρ',g1,g2,g3⟩:=ho;have fin:∀u u',pt A rn af u ⟨T,D,H',nx'⟩=some c->iU ρ' u u'->Leaves P fn a'.tmps (EF ρ H nx w c) a'.defers u' w':=by
  intro u u' hl hm;obtain⟨y,k1,k2⟩:=bn (show bd (gP A rn D u H' nx') (nS af T)=some c from hl);exact L4 hA dt yq pJ b3 D u H' nx' y k1 k2 ρ' _ u' w' g2.sx hm g1.hr ⟨g2.env.size,g2.env.env,g2.env.kept⟩ _ λe w'' hr=>.trans g1 hr
 cases ex with
 | normal=>
  cases e with
  | normal=>exact fin _ _ h4 .returning
  | _=>exact g3.elim
 | exit i=>cases h4
 | ret=>
  cases e with
  | ret=>exact fin _ _ h4 .returning
  | _=>exact g3.elim
 | panic ch=>
  cases e with
  | panic Ay=>exact fin _ _ h4 (.panicking g3)
  | _=>exact g3.elim
theorem GR.up(hA:GR P ins A)(m:Nat):iR (run A m):=Xl (λg vs H nx c h=>(hA.aS g vs H nx c h).2.1) m
theorem CO(hA:GR P ins A):∀m,ig P (run A m)/\uX P ins (run A m):=by
 intro m
 induction m with
 | zero=>exact⟨(λg vs H nx c h=>by cases h),(λkept n x ac _=>⟨0,(λT D H nx o h=>by cases h)⟩)⟩
 | succ m ih=>
  refine⟨λg vs H nx c h=>Pn hA ih.1 (hA.up m) ih.2 h,λkept n x ac hc=>?_⟩;obtain⟨k,hk⟩:=ih.2 kept n x ac hc;exact⟨k+1,vN (tq hA ih.1 (hA.up m) ih.2 x ac hc) hk⟩
end
section
noncomputable section
variable {P:Program}{ins:List Nat}{A:aN}
theorem dX.frame{g:FuncId}{vs:List Value}{Hs H2 H G:Heap}{nx nx2:Nat}{v:Value}(h:dX P g vs Hs nx (.ok v H2 nx2))(h1:∀b k,ah Hs (at_ b)=some k->ah H (at_ b)=some k)(h2:∀b k,ah G (at_ b)=some k->ah H2 (at_ b)=some k\/(ah Hs (at_ b)=none/\ah H (at_ b)=some k)):dX P g vs H nx (.ok v G nx2):=by
 obtain⟨e1,e2,e3⟩:=h;refine⟨e1,e2,λρ us w hv hH=>?_⟩;have hHs:HR ρ Hs nx w.heap:=⟨λb k hb=>hH.blk b k (h1 b k hb),λb c k l r s hb hc=>hH.inj b c k l r s (h1 _ _ hb) (h1 _ _ hc),hH.new⟩;have mT:∀k,mf ρ Hs k->mf ρ H k:=λk ⟨b,x,r,g1,gm,g2,g3⟩=>⟨b,x,r,h1 b x g1,gm,g2,g3⟩
 refine(e3 ρ us w hv hHs).mono λe w' hr=>?_
 obtain⟨u,ρ',g1,g2,g3⟩:=hr;have vT:∀b k,ah Hs (at_ b)=none->ah H (at_ b)=some k->∃r,ρ b=some r/\ρ' b=some r/\BR ρ w.heap r k/\¬mf ρ Hs r.blk:=by
  intro b k hn hb;obtain⟨r,q1,q2⟩:=hH.blk b k hb;refine⟨r,q1,g3.iw.ext _ _ q1,q2,?_⟩;rintro⟨b2,x,r2,p1,pm,p2,p3⟩;have:=hH.inj b2 b x k r2 r (h1 _ _ p1) hb pm p2 q1 p3;subst this;rw[hn]at p1;cases p1
 have O8:∀b b' k k' r r',ah H2 (at_ b)=some k->ah Hs (at_ b')=none->ah H (at_ b')=some k'->(k.kj=true\/k'.kj=true)->ρ' b=some r->ρ' b'=some r'->r.blk=r'.blk->False:=by
  intro b b' k k' r r' hb hn ia sA hr qp e;obtain⟨r2,q1,q2,q3,q4⟩:=vT b' k' hn ia;rw[qp]at q2;cases q2;cases Bs:k.kj with
  | true=>
   rcases g3.iw.own r.blk ⟨b,k,r,hb,Bs,hr,rfl⟩with ho|ho
   ·exact q4 (e ▸ ho)
   ·have:=q3.lt;omega
  | false=>
   have hold:=g3.iw.ro b k hb Bs;obtain⟨r3,p1,p2⟩:=hH.blk b k (h1 _ _ hold);have:=g3.iw.ext _ _ p1;rw[hr]at this;cases this;have iS:k'.kj=true:=sA.resolve_left (λg=>by rw[Bs]at g;cases g);have:=hH.inj b' b k' k r' r ia (h1 _ _ hold) iS q1 p1 e.symm;subst this;rw[hn]at hold;cases hold
 refine⟨u,ρ',g1,g2,⟨⟨λb k hb=>?_,λb c k l r s hb hc sA hr hs e=>?_,g3.hr.new⟩,⟨g3.iw.ext,λk hk=>?_,λb x hb hm=>?_,λk hk hn=>g3.iw.frame k hk λho=>hn (mT k ho),g3.iw.size,g3.iw.os,g3.iw.tape,g3.iw.output⟩,g3.le,g3.low⟩⟩
 ·rcases h2 b k hb with hb|⟨hn,hb⟩
  ·exact g3.hr.blk b k hb
  ·obtain⟨r,q1,q2,q3,q4⟩:=vT b k hn hb;exact⟨r,q2,(q3.mono g3.iw.ext).of_same (g3.iw.frame _ q3.lt q4)⟩
 ·rcases h2 b k hb with hb|⟨sQ,hb⟩
  ·rcases h2 c l hc with hc|⟨Oj,hc⟩
   ·exact g3.hr.inj b c k l r s hb hc sA hr hs e
   ·exact(O8 b c k l r s hb Oj hc (.inl sA) hr hs e).elim
  ·rcases h2 c l hc with hc|⟨Oj,hc⟩
   ·exact(O8 c b l k s r hc sQ hb (.inr sA) hs hr e.symm).elim
   ·obtain⟨r1,q1,q2,_⟩:=vT b k sQ hb;obtain⟨s1,p1,p2,_⟩:=vT c l Oj hc;rw[hr]at q2;rw[hs]at p2;cases q2;cases p2
    exact hH.inj b c k l r s hb hc sA q1 p1 e
 ·obtain⟨b,x,r,q1,qm,q2,q3⟩:=hk;rcases h2 b x q1 with hb|⟨hn,hb⟩
  ·rcases g3.iw.own k ⟨b,x,r,hb,qm,q2,q3⟩with ho|ho
   ·exact .inl (mT k ho)
   ·exact .inr ho
  ·obtain⟨r1,p1,p2,_⟩:=vT b x hn hb;rw[q2]at p2;cases p2;exact .inl ⟨b,x,r,hb,qm,p1,q3⟩
 ·rcases h2 b x hb with hb|⟨_,hb⟩
  ·exact h1 _ _ (g3.iw.ro b x hb hm)
  ·exact hb
theorem dX.high{g:FuncId}{vs:List Value}{H H2:Heap}{nx nx2 bW:Nat}{v:Value}(h:dX P g vs H nx (.ok v H2 nx2))(hle:nx2<=bW):dX P g vs H nx (.ok v H2 bW):=by
 obtain⟨e1,e2,e3⟩:=h;refine⟨e1,hX e2 hle,λρ us w hv hH=>(e3 ρ us w hv hH).mono λe w' hr=>?_⟩;obtain⟨u,ρ',g1,g2,g3⟩:=hr;exact⟨u,ρ',g1,g2,⟨g3.hr.blk,g3.hr.inj,λb hb=>g3.hr.new b (hX hle hb)⟩,g3.iw,hX g3.le hle,g3.low⟩
theorem Po(hA:GR P ins A){m:Nat}{g:FuncId}{vs:List Value}{H:Heap}{nx:Nat}{c:eF}(h:(run A m).call g vs H nx=some c):dX P g vs H nx c:=
 let ⟨h1,h2⟩:=(CO hA m).1 g vs H nx c h
 ⟨h1,(hA.up m).call g vs H nx c h,h2⟩
theorem dX.anywhere{g:FuncId}{v:Value}{H2:Heap}{nx2:Nat}(h:dX P g [] .e 0 (.ok v H2 nx2))(hv:scalar v=true)(H:Heap)(nx:Nat):dX P g [] H nx (.ok v H nx):=by
 obtain⟨e1,_,e3⟩:=h;refine⟨e1,au _,λρ us w mS hH=>?_⟩;cases mS;have h0:HR (λ_=>none) .e 0 w.heap:=⟨(λb k hb=>by cases hb),(λb b' k k' s s' hb=>by cases hb),λ_ _=>rfl⟩;refine(e3 _ [] w .nil h0).mono λe w' hr=>?_
 obtain⟨u,ρ',g1,g2,g3⟩:=hr;have bO:∀k,k<w.heap.size->w'.heap[k]?=w.heap[k]?:=λk hk=>g3.iw.frame k hk (λ⟨b,x,s,hb,_⟩=>by cases hb)
 refine⟨u,ρ,g1,?_,⟨⟨λb k hb=>?_,hH.inj,hH.new⟩,⟨.refl ρ,λ_ hk=>.inl hk,.refl H,λk hk _=>bO k hk,g3.iw.size,g3.iw.os,g3.iw.tape,g3.iw.output⟩,au _,λ_ _=>rfl⟩⟩
 ·rw[g2.eM hv];exact .sc hv
 ·obtain⟨r,q1,q2⟩:=hH.blk b k hb;exact⟨r,q1,q2.of_same (bO _ q2.lt)⟩
abbrev Cells:=List (Nat×jb)
def look:Cells->Nat->Option jb
 | [],_=>none
 | (b,k)::l,c=>bif Nat.beq b c then some k else look l c
def rY:Cells->Heap
 | []=>.e
 | (b,k)::l=>cA (at_ b) (rY l) (some k)
theorem Ig:∀(l:Cells) (c:Nat),ah (rY l) (at_ c)=look l c:=by
 intro l
 induction l with
 | nil=>intro c;rfl
 | cons x l ih=>
  obtain⟨b,k⟩:=x;intro c;show ah (cA (at_ b) (rY l) (some k)) (at_ c)=bif Nat.beq b c then some k else look l c;cases hb:Nat.beq b c with
  | true=>
   have:=dB hb;subst this;rw[cB];rfl
  | false=>rw[bz _ _ _ _ (λe=>Ab hb (gy e).symm),ih];rfl
def Fk(f:Value->Value->Bool):List Value->List Value->Bool
 | [],[]=>true
 | a::as,b::bs=>f a b&&Fk f as bs
 | _,_=>false
def Pp:Nat->Value->Value->Bool
 | 0,_,_=>false
 | n+1,.agg a,.agg b=>Fk (Pp n) a.toList b.toList
 | n+1,.tuple a,.tuple b=>Fk (Pp n) a.toList b.toList
 | _+1,.string a,.string b=>decide (a=b)
 | _+1,.nilIface,.nilIface=>true
 | _+1,.nilFunc,.nilFunc=>true
 | _+1,a,b=>ff a b
theorem qx:∀(n:Nat) {a b:Value},Pp n a b=true->a=b:=by
 intro n
 induction n with
 | zero=>intro a b h;simp[Pp]at h
 | succ n ih=>
  have hs:∀{as bs:List Value},Fk (Pp n) as bs=true->as=bs:=by
   intro as
   induction as with
   | nil=>intro bs h;cases bs<;>first|rfl|simp[Fk]at h
   | cons a as s7=>
    intro bs h;cases bs with
    | nil=>simp[Fk]at h
    | cons b bs=>
     simp only[Fk,gd]at h;rw[ih h.1,s7 h.2]
  intro a b h;have key:∀x y:Array Value,Fk (Pp n) x.toList y.toList=true->x=y:=λx y h=>Array.ext' (hs h)
  unfold Pp at h;split at h
  ·cases h
  ·rename_i m x y he;cases he;rw[key _ _ h]
  ·rename_i m x y he;cases he;rw[key _ _ h]
  ·simp at h;rw[h]
  ·rfl
  ·rfl
  ·exact rR h
def Ih:List Value->List Value->Bool
 | [],[]=>true
 | a::as,b::bs=>Pp 100 a b&&Ih as bs
 | _,_=>false
theorem yu:∀{a b:List Value},Ih a b=true->a=b:=by
 intro a
 induction a with
 | nil=>intro b h;cases b<;>first|rfl|simp[Ih]at h
 | cons x a ih=>
  intro b h;cases b with
  | nil=>simp[Ih]at h
  | cons y b=>
   simp only[Ih,gd]at h;rw[qx _ h.1,ih h.2]
def L5:List MapEntry->List MapEntry->Bool
 | [],[]=>true
 | a::as,b::bs=>(Pp 100 a.key b.key&&(Pp 100 a.val b.val&&Nat.beq a.born b.born))&&L5 as bs
 | _,_=>false
theorem Ii:∀{a b:List MapEntry},L5 a b=true->a=b:=by
 intro a
 induction a with
 | nil=>intro b h;cases b<;>first|rfl|simp[L5]at h
 | cons x a ih=>
  intro b h;cases b with
  | nil=>simp[L5]at h
  | cons y b=>
   simp only[L5,gd]at h;obtain⟨⟨h1,h2,h3⟩,h4⟩:=h;rw[ih h4];cases x;cases y
   simp only at h1 h2 h3;rw[qx _ h1,qx _ h2,dB h3]
def kEq:Option jb->jb->Bool
 | some (.cells a),.cells b=>Ih a b
 | some (.map a c),.map b d=>L5 a b&&Nat.beq c d
 | some (.ro a),.ro b=>Ih a b
 | _,_=>false
theorem L6{a:Option jb}{b:jb}(h:kEq a b=true):a=some b:=by
 unfold kEq at h;split at h
 ·rw[yu h]
 ·rw[gd]at h;rw[Ii h.1,dB h.2]
 ·rw[yu h]
 ·cases h
def JZ(H:Heap):Cells->Bool
 | []=>true
 | (b,k)::l=>kEq (ah H (at_ b)) k&&JZ H l
theorem Fl{H:Heap}:∀{l:Cells},JZ H l=true->∀c k,look l c=some k->ah H (at_ c)=some k:=by
 intro l
 induction l with
 | nil=>intro _ c k h;cases h
 | cons x l ih=>
  obtain⟨b,k0⟩:=x;intro h c k hl;simp only[JZ,gd]at h;have mR:(bif Nat.beq b c then some k0 else look l c)=some k:=hl;cases hb:Nat.beq b c with
  | true=>
   rw[hb]at mR;have:=dB hb;subst this;cases mR;exact L6 h.1
  | false=>rw[hb]at mR;exact ih h.2 c k mR
structure Fact where
 g:FuncId
 vs:List Value
 pre:Cells
 nx:Nat
 v:Value
 post:Cells
 nx':Nat
def Fm(f:Fact):Option eF->Bool
 | some (.ok v H nx)=>Pp 100 v f.v&&(JZ H f.post&&Nat.ble nx f.nx')
 | _=>false
def NV(P:Program)(f:Fact):Prop:=dX P f.g f.vs (rY f.pre) f.nx (.ok f.v (rY f.post) f.nx')
theorem DU(hA:GR P ins A){m:Nat}(f:Fact)(h:Fm f ((run A m).call f.g f.vs (rY f.pre) f.nx)=true):NV P f:=by
 unfold Fm at h;split at h
 ·rename_i v H nx hc;simp only[gd]at h;obtain⟨h1,h2,h3⟩:=h;have hr:=Po hA hc;rw[qx _ h1]at hr;refine dX.frame (hr.high (lu h3)) (λb k hb=>hb) λb k hb=>.inl ?_
  rw[Ig]at hb;exact Fl h2 b k hb
 ·cases h
end
end
section
def bp(P:Program)(ins:List Nat)(g:Nat)(af:az):Prop:=
 ∃fn kept,P.funcs[g]?=some fn/\fn.body.isNone=false/\(fn.name == "runtime.NumGoroutine")=false/\mr P ins kept fn=some af
def L7(Q:List Bool->az->Prop):Tr az->Prop
 | .e=>True
 | .n l v r=>(∀a,v=some a->Q [] a)/\L7 (λp=>Q (true::p)) l/\L7 (λp=>Q (false::p)) r
theorem L7.get:∀{t:Tr az} {Q:List Bool->az->Prop} {p:List Bool} {a:az},L7 Q t->ah t p=some a->Q p a:=by
 intro t
 induction t with
 | e=>intro Q p a _ h;cases h
 | n l v r ihl ihr=>
  intro Q p a h hg;cases p with
  | nil=>exact h.1 a hg
  | cons b p=>
   have Nx:cond b (ah l p) (ah r p)=some a:=hg;cases b with
   | true=>exact ihl (Q:=λp=>Q (true::p)) h.2.1 Nx
   | false=>exact ihr (Q:=λp=>Q (false::p)) h.2.2 Nx
def At0(P:Program)(ins:List Nat)(p:List Bool)(a:az):Prop:=∀g,at_ g=p->bp P ins g a
theorem leaf{P:Program}{ins:List Nat}{i:Nat}{x:az}{p:List Bool}(hp:at_ i=p)(h:bp P ins i x):∀a,some x=some a->At0 P ins p a:=by
 intro a ha g hg;cases ha;have:g=i:=gy (hg.trans hp.symm);rw[this];exact h
theorem Pq{Q:az->Prop}:∀a,(none:Option az)=some a->Q a:=by
 intro a h;cases h
theorem DT{P:Program}{ins:List Nat}{t:Tr az}(h:L7 (At0 P ins) t)(g:Nat)(af:az)(hg:ah t (at_ g)=some af):bp P ins g af:=(h.get hg) g rfl
end
section
variable {A:aN}{rn rm:ly}{T:Tr Value}{L:List Value}{D:List gf}{H:Heap}{nx:Nat}
structure lM(r r':ly):Prop where
 code:∀c T D H nx o,r.code c T D H nx=some o->r'.code c T D H nx=some o
 call:∀g vs H nx c,r.call g vs H nx=some c->r'.call g vs H nx=some c
def KLe(k k':RL):Prop:=∀T L D H nx o,k T L D H nx=some o->k' T L D H nx=some o
theorem Fo{P:Program}{X X':R0}{o:Ex×St}(hx:X=some o->X'=some o):∀{as:List cz},jJ P T L H as X=some o->jJ P T L H as X'=some o:=by
 intro as
 induction as with
 | nil=>intro h;exact hx h
 | cons a as ih=>
  intro h;have h':cond (wanted L a.guard) (e7 a.op P T L H λv=>Af L a.d λu=>cond (mc u v) (jJ P T L H as X) none) (jJ P T L H as X)=some o:=h;show cond (wanted L a.guard) (e7 a.op P T L H λv=>Af L a.d λu=>cond (mc u v) (jJ P T L H as X') none) (jJ P T L H as X')=some o;refine wX h' (λg=>?_) (λg=>ih g);obtain⟨x,g1,g2⟩:=bC _ _ _ g;refine(g2 _).trans ?_;rw[nU]at g1 ⊢;refine vB g1 λu q=>?_
  exact wX q (λq=>ih q) (λq=>by cases q)
theorem lN{P:Program}{p:Option (List Bool)}{ag:List cz}{k k':RL}{v:Value}{o:Ex×St}(hk:KLe k k')(h:bX P p ag k T L D v H nx=some o):bX P p ag k' T L D v H nx=some o:=by
 unfold bX at h ⊢;rw[jS]at h ⊢;exact Fo (hk _ _ _ _ _ _) h
theorem yv{P:Program}{p:Option (List Bool)}{ag:List cz}{k k':RL}{c:eF}{o:Ex×St}(hk:KLe k k')(h:ew P p ag k T L D c=some o):ew P p ag k' T L D c=some o:=by
 cases c with
 | ok v H' nx'=>exact lN hk h
 | rE ch H' nx'=>exact h
theorem Pr{b:cr Od}{p:Option (List Bool)}{ag:List cz}{k k':RL}{o:Ex×St}(hr:lM rn rm)(hk:KLe k k')(h:uf b A rn p ag k b T L D H nx=some o):uf b A rm p ag k' b T L D H nx=some o:=by
 by_cases hp:b.plain=true
 ·rw[lh hp]at h ⊢;have h':cY b A.P T L H nx (uk λx=>bX A.P p ag k T L D x.1 x.2.1 x.2.2)=some o:=h;obtain⟨x,h1,h2,h3⟩:=nw b _ o h';show cY b A.P T L H nx (uk λx=>bX A.P p ag k' T L D x.1 x.2.1 x.2.2)=some o;exact(h2 _).trans (lN hk h1)
 ·cases b with
  | call f args=>
   have h':bI T L f (λf=>dN T L args λvs=>gO vs (λg vs=>bd (rn.call g vs H nx) (ew A.P p ag k T L D)) f)=some o:=h;show bI T L f (λf=>dN T L args λvs=>gO vs (λg vs=>bd (rm.call g vs H nx) (ew A.P p ag k' T L D)) f)=some o;rw[dd]at h' ⊢;refine vB h' λfv h1=>?_
   rw[eT]at h1 ⊢;refine vB h1 λvs h2=>?_
   unfold gO at h2 ⊢;split at h2
   ·obtain⟨c,g1,g2⟩:=bn h2;show bd (rm.call _ _ H nx) _=_;rw[hr.call _ _ _ _ _ g1];exact yv hk g2
   ·cases h2
  | inv x name args=>
   have h':bI T L x (λx=>dN T L args λvs=>qR A.P name H (λg v=>bd (rn.call g (v::vs) H nx) (ew A.P p ag k T L D)) x)=some o:=h;show bI T L x (λx=>dN T L args λvs=>qR A.P name H (λg v=>bd (rm.call g (v::vs) H nx) (ew A.P p ag k' T L D)) x)=some o;rw[dd]at h' ⊢;refine vB h' λfv h1=>?_
   rw[eT]at h1 ⊢;refine vB h1 λvs h2=>?_
   have hd:cj (λ_=>True) λk':FuncId×Value->R0=>qR A.P name H (λg v=>k' (g,v)) fv:=by
    unfold qR;split
    ·refine .bd λm=>?_
     unfold D5;cases m.2 with
     | none=>exact .ret _ trivial
     | some agg=>exact .ptr λ_ _=>.db λ_=>.bd λ_=>.ret _ trivial
    ·exact .no
   obtain⟨y,g1,g2⟩:=hd.det (λy=>bd (rn.call y.1 (y.2::vs) H nx) (ew A.P p ag k T L D)) o h2;show qR A.P name H (λg v=>(λy:FuncId×Value=>bd (rm.call y.1 (y.2::vs) H nx) (ew A.P p ag k' T L D)) (g,v)) fv=some o;refine(g2 λy:FuncId×Value=>bd (rm.call y.1 (y.2::vs) H nx) (ew A.P p ag k' T L D)).trans ?_;obtain⟨c,k1,k2⟩:=bn g1;show bd (rm.call _ _ H nx) _=_;rw[hr.call _ _ _ _ _ k1];exact yv hk k2
  | sx f args=>
   have h':bI T L f (λf=>dN T L args λvs=>uz f (bX A.P p ag k T L ((f,vs)::D) undef H nx))=some o:=h;show bI T L f (λf=>dN T L args λvs=>uz f (bX A.P p ag k' T L ((f,vs)::D) undef H nx))=some o;rw[dd]at h' ⊢;refine vB h' λfv h1=>?_
   rw[eT]at h1 ⊢;refine vB h1 λvs h2=>?_
   unfold uz at h2 ⊢;split at h2
   ·exact lN hk h2
   ·cases h2
  | rE x=>exact h
  | AX=>cases h
  | ins z bytes s i v=>
   have h':cY (.ins z bytes s i v) A.P T L H nx (uk λx=>bX A.P p ag k T L D x.1 x.2.1 x.2.2)=some o:=h;obtain⟨x,h1,h2,h3⟩:=nw _ _ o h';show cY (.ins z bytes s i v) A.P T L H nx (uk λx=>bX A.P p ag k' T L D x.1 x.2.1 x.2.2)=some o;exact(h2 _).trans (lN hk h1)
  | _=>exact absurd rfl hp
theorem pK(hr:lM rn rm):∀l:List (AO×List cz),KLe (cx A rn l) (cx A rm l):=by
 intro l
 induction l with
 | nil=>intro T L D H nx o h;exact h
 | cons x l ih=>
  obtain⟨q,ag⟩:=x;intro T L D H nx o h;have h':cond (wanted L q.guard) (uf q.op A rn q.keep ag (cx A rn l) q.op T L D H nx) (bX A.P q.keep ag (cx A rn l) T L D undef H nx)=some o:=h;show cond (wanted L q.guard) (uf q.op A rm q.keep ag (cx A rm l) q.op T L D H nx) (bX A.P q.keep ag (cx A rm l) T L D undef H nx)=some o;exact wX h' (λg=>Pr hr ih g) (λg=>lN ih g)
theorem Bw{k k':RC}(hk:∀T D H nx o,k T D H nx=some o->k' T D H nx=some o){o1 o:Ex×St}(h:pr k o1=some o):pr k' o1=some o:=by
 obtain⟨e,st⟩:=o1;cases e with
 | normal=>exact hk _ _ _ _ _ h
 | _=>exact h
theorem iM(hr:lM rn rm):∀(c:bA) (T:Tr Value) (D:List gf) (H:Heap) (nx:Nat) (o:Ex×St),cJ c A rn T D H nx=some o->cJ c A rm T D H nx=some o:=by
 intro c
 induction c with
 | skip=>intro T D H nx o h;exact h
 | ae dr ops=>
  cases dr with
  | false=>intro T D H nx o h;exact pK hr ops T [] D H nx o h
  | true=>
   intro T D H nx o h;show bd (cx A rm ops T [] D H nx) xF=some o;obtain⟨o1,h1,h2⟩:=bn (show bd (cx A rn ops T [] D H nx) xF=some o from h);rw[pK hr ops _ _ _ _ _ _ h1];exact h2
 | seq a b s7 Nv=>
  intro T D H nx o h;show bd (cJ a A rm T D H nx) (pr (cJ b A rm))=some o;obtain⟨o1,h1,h2⟩:=bn (show bd (cJ a A rn T D H nx) (pr (cJ b A rn))=some o from h);rw[s7 _ _ _ _ _ h1];exact Bw Nv h2
 | cond c a b s7 Nv=>
  intro T D H nx o h;have h':bI T [] c (λv=>hY v (cJ a A rn T D H nx) (cJ b A rn T D H nx))=some o:=h;show bI T [] c (λv=>hY v (cJ a A rm T D H nx) (cJ b A rm T D H nx))=some o;rw[dd]at h' ⊢;refine vB h' λv h1=>?_
  exact A6 h1 (λg=>s7 _ _ _ _ _ g) (λg=>Nv _ _ _ _ _ g)
 | block id a s7=>
  intro T D H nx o h;show bd (cJ a A rm T D H nx) (rF id)=some o;obtain⟨o1,h1,h2⟩:=bn (show bd (cJ a A rn T D H nx) (rF id)=some o from h);rw[s7 _ _ _ _ _ h1];exact h2
 | loop a s7=>
  intro T D H nx o h;show bd (cJ a A rm T D H nx) (pr (rm.code (.loop a)))=some o;obtain⟨o1,h1,h2⟩:=bn (show bd (cJ a A rn T D H nx) (pr (rn.code (.loop a)))=some o from h);rw[s7 _ _ _ _ _ h1];exact Bw (hr.code _) h2
 | exit id=>intro T D H nx o h;exact h
 | ret=>intro T D H nx o h;exact h
theorem yx(hr:lM rn rm){f:Value}{args:List Value}{u:FrameMode}{y:FrameMode×Heap×Nat}(h:iO A rn f args u H nx=some y):iO A rm f args u H nx=some y:=by
 unfold iO at h ⊢;split at h
 ·split at h
  ·split at h
   ·obtain⟨o,h1,h2⟩:=bn h;rw[eh,cL]at h1;rw[eh,cL,iM hr _ _ _ _ _ _ h1];exact h2
   ·obtain⟨o,h1,h2⟩:=bn h;rw[eh]at h1;rw[eh,iM hr _ _ _ _ _ _ h1];exact h2
  ·cases h
 ·cases h
theorem CP(hr:lM rn rm):∀(D:List gf) (u:FrameMode) (H:Heap) (nx:Nat) (y:FrameMode×Heap×Nat),gP A rn D u H nx=some y->gP A rm D u H nx=some y:=by
 intro D
 induction D with
 | nil=>intro u H nx y h;exact h
 | cons d D ih=>
  obtain⟨f,args⟩:=d;intro u H nx y h;unfold gP at h ⊢;split at h
  ·rename_i h1;rw[yx hr h1];exact ih _ _ _ _ h
  ·cases h
theorem pL(hr:lM rn rm){af:az}{u:FrameMode}{st:St}{c:eF}(h:pt A rn af u st=some c):pt A rm af u st=some c:=by
 obtain⟨T,D,H,nx⟩:=st;show bd (gP A rm D u H nx) (nS af T)=some c;obtain⟨y,h1,h2⟩:=bn (show bd (gP A rn D u H nx) (nS af T)=some c from h);rw[CP hr _ _ _ _ _ h1];exact h2
theorem L8(hr:lM rn rm){af:az}{o:Ex×St}{c:eF}(h:Aj A rn af o=some c):Aj A rm af o=some c:=by
 obtain⟨e,st⟩:=o;cases e with
 | normal=>exact pL hr h
 | exit i=>exact h
 | ret=>exact pL hr h
 | panic ch=>exact pL hr h
theorem Fp(n:Nat):lM (run A n) (run A (n+1)):=by
 induction n with
 | zero=>exact⟨(λc T D H nx o h=>by cases h),(λg vs H nx c h=>by cases h)⟩
 | succ n ih=>
  refine⟨λc=>iM ih c,λg vs H nx c h=>?_⟩;have h':(Option.rec (bd (A.funcs g) (lz A (run A n) vs H nx)) some (A.aS g vs H nx):Option eF)=some c:=h;show (Option.rec (bd (A.funcs g) (lz A (run A (n+1)) vs H nx)) some (A.aS g vs H nx):Option eF)=some c;cases hh:A.aS g vs H nx with
  | some c'=>rw[hh]at h';exact h'
  | none=>
   rw[hh]at h';obtain⟨af,h1,h2⟩:=bn (show bd (A.funcs g) (lz A (run A n) vs H nx)=some c from h');obtain⟨o,h3,h4⟩:=bn (show bd (nR vs .e λT=>cJ af.body A (run A n) T [] H nx) (Aj A (run A n) af)=some c from h2);rw[eh]at h3;show bd (A.funcs g) (lz A (run A (n+1)) vs H nx)=some c;rw[h1];show bd (nR vs .e λT=>cJ af.body A (run A (n+1)) T [] H nx) (Aj A (run A (n+1)) af)=some c;rw[eh,iM ih _ _ _ _ _ _ h3];exact L8 ih h4
theorem lM.refl(r:ly):lM r r:=⟨λ_ _ _ _ _ _ h=>h,λ_ _ _ _ _ h=>h⟩
theorem lM.trans{a b c:ly}(h:lM a b)(h':lM b c):lM a c:=⟨λ_ _ _ _ _ _ g=>h'.code _ _ _ _ _ _ (h.code _ _ _ _ _ _ g),λ_ _ _ _ _ g=>h'.call _ _ _ _ _ (h.call _ _ _ _ _ g)⟩
theorem uY{m n:Nat}(h:m<=n):lM (run A m) (run A n):=by
 induction h with
 | refl=>exact .refl _
 | step _ ih=>exact ih.trans (Fp _)
end
section
variable {A:aN}{H H':Heap}{nx nx':Nat}
abbrev aR:=List (List Bool×Value)
def Nz:List Bool->List Bool->Bool
 | [],[]=>true
 | true::p,true::q=>Nz p q
 | false::p,false::q=>Nz p q
 | _,_=>false
theorem Ij:∀{p q:List Bool},Nz p q=true->p=q:=by
 intro p
 induction p with
 | nil=>intro q h;cases q with
  | nil=>rfl
  | cons b q=>cases h
 | cons a p ih=>
  intro q h;cases q with
  | nil=>cases a<;>cases h
  | cons b q=>cases a<;>cases b<;>first|(cases h;done)|rw[ih h]
theorem Ps:∀p:List Bool,Nz p p=true:=by
 intro p
 induction p with
 | nil=>rfl
 | cons a p ih=>cases a<;>exact ih
theorem Xw{p q:List Bool}(h:Nz p q=false):p≠q:=by
 intro e;rw[e,Ps]at h;cases h
def sl:aR->List Bool->Option Value
 | [],_=>none
 | (q,v)::σ,p=>bif Nz q p then some v else sl σ p
def oW(p:Option (List Bool))(v:Value)(σ:aR):aR:=match p with
 | none=>σ
 | some p=>(p,v)::σ
def Has(T:Tr Value)(σ:aR):Prop:=∀p v,sl σ p=some v->ah T p=some v
def bD(σ' σ:aR):Prop:=∀p v,sl σ' p=some v->sl σ p=some v
theorem Has.put{T:Tr Value}{σ:aR}(h:Has T σ)(p:List Bool)(v:Value):Has (cA p T (some v)) ((p,v)::σ):=by
 intro q u hq;have iE:(bif Nz p q then some v else sl σ q)=some u:=hq;cases e:Nz p q with
 | true=>
  rw[e]at iE;have:=Ij e;subst this;rw[cB];exact iE
 | false=>
  rw[e]at iE;rw[bz _ _ _ _ (λe'=>Xw e e'.symm)];exact h q u iE
theorem Has.oW{T:Tr Value}{σ:aR}(h:Has T σ)(p:Option (List Bool))(v:Value):Has (Tw T p v) (oW p v σ):=by
 cases p with
 | none=>exact h
 | some p=>exact h.put p v
theorem Has.sub{T:Tr Value}{σ σ':aR}(h:Has T σ)(hs:bD σ' σ):Has T σ':=λp v hp=>h p v (hs p v hp)
theorem bD.refl(σ:aR):bD σ σ:=λ_ _ h=>h
theorem bD.nil(σ:aR):bD [] σ:=λ_ _ h=>by cases h
theorem bD.cons{σ σ':aR}{p:List Bool}{v:Value}(h:sl σ p=some v)(hs:bD σ' σ):bD ((p,v)::σ') σ:=by
 intro q u hq;have iE:(bif Nz p q then some v else sl σ' q)=some u:=hq;cases e:Nz p q with
 | true=>
  rw[e]at iE;have:=Ij e;subst this;rw[h];exact iE
 | false=>rw[e]at iE;exact hs q u iE
theorem bD.trans{a b c:aR}(h:bD a b)(h':bD b c):bD a c:=λp v hp=>h' p v (h p v hp)
def ev(σ:aR)(L:List Value):Od->Option Value
 | .loc d=>L[d]?
 | .var p=>sl σ p
 | .aO v=>some v
 | .fn f=>some (.func (.func f) #[] #[])
def Az(σ:aR)(L:List Value):List Od->Option (List Value)
 | []=>some []
 | x::xs=>match ev σ L x,Az σ L xs with
  | some v,some vs=>some (v::vs)
  | _,_=>none
def VJ(σ:aR)(L:List Value):List (Nat×Nat×Od)->Option (List (Nat×Nat×Value))
 | []=>some []
 | (i,j,x)::xs=>match ev σ L x,VJ σ L xs with
  | some v,some vs=>some ((i,j,v)::vs)
  | _,_=>none
section eval
variable {T:Tr Value}{σ:aR}{L:List Value}
theorem Has.ev(h:Has T σ){x:Od}{v:Value}(hx:ev σ L x=some v):kh T L x=some v:=by
 cases x with
 | loc d=>exact hx
 | var p=>exact h p v hx
 | aO v=>exact hx
 | fn f=>exact hx
theorem Has.bI(h:Has T σ){x:Od}{v:Value}(hx:Eng.ev σ L x=some v)(k:KV):Eng.bI T L x k=k v:=by rw[dd,h.ev hx];rfl
theorem Has.Az(h:Has T σ):∀{xs:List Od} {vs:List Value},Az σ L xs=some vs->rq T L xs=some vs:=by
 intro xs
 induction xs with
 | nil=>intro vs hx;exact hx
 | cons x xs ih=>
  intro vs hx;unfold Eng.Az at hx;split at hx
  ·rename_i v Vv h1 h2;unfold rq;rw[h.ev h1,ih h2];exact hx
  ·cases hx
theorem Has.dN(h:Has T σ){xs:List Od}{vs:List Value}(hx:Eng.Az σ L xs=some vs)(k:List Value->R0):Eng.dN T L xs k=k vs:=by rw[eT,h.Az hx];rfl
theorem Has.VJ(h:Has T σ):∀{xs:List (Nat×Nat×Od)} {vs:List (Nat×Nat×Value)},VJ σ L xs=some vs->xJ T L xs=some vs:=by
 intro xs
 induction xs with
 | nil=>intro vs hx;exact hx
 | cons x xs ih=>
  obtain⟨i,j,x⟩:=x;intro vs hx;unfold Eng.VJ at hx;split at hx
  ·rename_i v Vv h1 h2;unfold xJ;rw[h.ev h1,ih h2];exact hx
  ·cases hx
theorem Has.eX(h:Has T σ){xs:List (Nat×Nat×Od)}{vs:List (Nat×Nat×Value)}(hx:Eng.VJ σ L xs=some vs)(k:List (Nat×Nat×Value)->R0):Eng.eX T L xs k=k vs:=by rw[A4,h.VJ hx];rfl
end eval
abbrev cw:=Ex->aR->Heap->Nat->Prop
structure WC(A:aN)(c:bA)(σ:aR)(H:Heap)(nx:Nat)(Q:cw):Prop where
 ends:∀T,Has T σ->∃m e T' H' nx',cJ c A (run A m) T [] H nx=some (e,⟨T',[],H',nx'⟩)/\∃σ',Has T' σ'/\Q e σ' H' nx'
structure WO(A:aN)(l:List (AO×List cz))(σ:aR)(L:List Value)(H:Heap)(nx:Nat)(Q:cw):Prop where
 ends:∀T,Has T σ->∃m e T' H' nx',cx A (run A m) l T L [] H nx=some (e,⟨T',[],H',nx'⟩)/\∃σ',Has T' σ'/\Q e σ' H' nx'
structure WF(A:aN)(g:FuncId)(vs:List Value)(H:Heap)(nx:Nat)(Q:Value->Heap->Nat->Prop):Prop where
 out:∃m v H' nx',(run A m).call g vs H nx=some (.ok v H' nx')/\Q v H' nx'
def yy(A:aN)(b:bA)(Q:cw):cw
 | .normal,σ,H,nx=>WC A b σ H nx Q
 | e,σ,H,nx=>Q e σ H nx
def L9(Q:cw):cw:=λe σ H nx=>e=.normal/\Q .normal σ H nx
def oj(id:Nat)(Q:cw):cw
 | .normal,σ,H,nx=>Q .normal σ H nx
 | .exit i,σ,H,nx=>cond (Nat.beq i id) (Q .normal σ H nx) (Q (.exit i) σ H nx)
 | e,σ,H,nx=>Q e σ H nx
section rules
variable {c a b:bA}{σ:aR}{Q Q':cw}
theorem WC.sub{σ':aR}(hs:bD σ' σ)(h:WC A c σ' H nx Q):WC A c σ H nx Q:=⟨λT hT=>h.ends T (hT.sub hs)⟩
theorem WC.skip(h:Q .normal σ H nx):WC A .skip σ H nx Q:=⟨λT hT=>⟨0,.normal,T,H,nx,rfl,σ,hT,h⟩⟩
theorem WC.ret(h:Q .ret σ H nx):WC A .ret σ H nx Q:=⟨λT hT=>⟨0,.ret,T,H,nx,rfl,σ,hT,h⟩⟩
theorem WC.exit{id:Nat}(h:Q (.exit id) σ H nx):WC A (.exit id) σ H nx Q:=⟨λT hT=>⟨0,.exit id,T,H,nx,rfl,σ,hT,h⟩⟩
theorem WC.seq(h:WC A a σ H nx (yy A b Q)):WC A (.seq a b) σ H nx Q:=by
 refine⟨λT hT=>?_⟩;obtain⟨m,e,T',H',nx',h1,σ',h2,h3⟩:=h.ends T hT;cases e with
 | normal=>
  obtain⟨m2,e2,T2,H2,nx2,g1,σ2,g2,g3⟩:=(show WC A b σ' H' nx' Q from h3).ends T' h2;refine⟨max m m2,e2,T2,H2,nx2,?_,σ2,g2,g3⟩;show bd (cJ a A (run A (max m m2)) T [] H nx) (pr (cJ b A (run A (max m m2))))=_;rw[iM (uY (Nat.le_max_left m m2)) _ _ _ _ _ _ h1];exact iM (uY (Nat.le_max_right m m2)) _ _ _ _ _ _ g1
 | _=>
  refine⟨m,_,T',H',nx',?_,σ',h2,h3⟩;show bd (cJ a A (run A m) T [] H nx) (pr (cJ b A (run A m)))=_;rw[h1];rfl
theorem WC.cond{x:Od}{t:Bool}(hx:ev σ [] x=some (.bool t))(ha:t=true->WC A a σ H nx Q)(hb:t=false->WC A b σ H nx Q):WC A (.cond x a b) σ H nx Q:=by
 refine⟨λT hT=>?_⟩;have key:∀m,cJ (.cond x a b) A (run A m) T [] H nx=Bool.rec (cJ b A (run A m) T [] H nx) (cJ a A (run A m) T [] H nx) t:=by
  intro m;show bI T [] x (λv=>hY v (cJ a A (run A m) T [] H nx) (cJ b A (run A m) T [] H nx))=_;rw[hT.bI hx];cases t<;>rfl
 cases t with
 | true=>
  obtain⟨m,e,T',H',nx',h1,h2⟩:=(ha rfl).ends T hT;exact⟨m,e,T',H',nx',(key m).trans h1,h2⟩
 | false=>
  obtain⟨m,e,T',H',nx',h1,h2⟩:=(hb rfl).ends T hT;exact⟨m,e,T',H',nx',(key m).trans h1,h2⟩
theorem WC.block{id:Nat}(h:WC A a σ H nx (oj id Q)):WC A (.block id a) σ H nx Q:=by
 refine⟨λT hT=>?_⟩;obtain⟨m,e,T',H',nx',h1,σ',h2,h3⟩:=h.ends T hT;have key:cJ (.block id a) A (run A m) T [] H nx=rF id (e,⟨T',[],H',nx'⟩):=by
  show bd (cJ a A (run A m) T [] H nx) (rF id)=_;rw[h1];rfl
 cases e with
 | normal=>exact⟨m,.normal,T',H',nx',key,σ',h2,h3⟩
 | exit i=>
  have Nw:_root_.cond (Nat.beq i id) (Q .normal σ' H' nx') (Q (.exit i) σ' H' nx'):=h3;have TH:cJ (.block id a) A (run A m) T [] H nx=(_root_.cond (Nat.beq i id) (stay .normal) (stay (.exit i))) ⟨T',[],H',nx'⟩:=key;cases hb:Nat.beq i id with
  | true=>rw[hb]at Nw TH;exact⟨m,.normal,T',H',nx',TH,σ',h2,Nw⟩
  | false=>rw[hb]at Nw TH;exact⟨m,.exit i,T',H',nx',TH,σ',h2,Nw⟩
 | ret=>exact⟨m,.ret,T',H',nx',key,σ',h2,h3⟩
 | panic ch=>exact⟨m,.panic ch,T',H',nx',key,σ',h2,h3⟩
theorem WC.loop{α:Type}(S:α->aR)(F:α->Heap->Nat->Prop)(μ:α->Nat)(step:∀x H nx,F x H nx->WC A c (S x) H nx λe σ' H' nx'=>match e with
   | .normal=>∃y,μ y<μ x/\bD (S y) σ'/\F y H' nx'
   | e=>Q e σ' H' nx')(x:α)(hs:bD (S x) σ)(h0:F x H nx):WC A (.loop c) σ H nx Q:=by
 have key:∀n x σ H nx,μ x<n->bD (S x) σ->F x H nx->WC A (.loop c) σ H nx Q:=by
  intro n
  induction n with
  | zero=>intro x σ H nx h;omega
  | succ n ih=>
   intro x σ H nx hn hs h0;refine⟨λT hT=>?_⟩;obtain⟨m,e,T',H',nx',h1,σ',h2,h3⟩:=(step x H nx h0).ends T (hT.sub hs);cases e with
   | normal=>
    obtain⟨y,g1,g2,g3⟩:=h3;obtain⟨m2,e2,T2,H2,nx2,q1,σ2,q2,q3⟩:=(ih y σ' H' nx' V g2 g3).ends T' h2;refine⟨max m (m2+1),e2,T2,H2,nx2,?_,σ2,q2,q3⟩;show bd (cJ c A (run A (max m (m2+1))) T [] H nx) (pr ((run A (max m (m2+1))).code (.loop c)))=_;rw[iM (uY (Nat.le_max_left _ _)) _ _ _ _ _ _ h1];exact(uY (Nat.le_max_right m (m2+1))).code _ _ _ _ _ _ q1
   | _=>
    refine⟨m,_,T',H',nx',?_,σ',h2,h3⟩;show bd (cJ c A (run A m) T [] H nx) (pr ((run A m).code (.loop c)))=_;rw[h1];rfl
 exact key _ x σ H nx (K7 _) hs h0
theorem WC.ae{ops:List (AO×List cz)}(h:WO A ops σ [] H nx Q):WC A (.ae false ops) σ H nx Q:=⟨h.ends⟩
theorem WC.drawn{ops:List (AO×List cz)}(h:WO A ops σ [] H nx (L9 Q)):WC A (.ae true ops) σ H nx Q:=by
 refine⟨λT hT=>?_⟩;obtain⟨m,e,T',H',nx',h1,σ',h2,rfl,h3⟩:=h.ends T hT;refine⟨m,.normal,T',H',nx',?_,σ',h2,h3⟩;show bd (cx A (run A m) ops T [] [] H nx) xF=_;rw[h1];rfl
variable {L:List Value}{l:List (AO×List cz)}{p:Option (List Bool)}{ag:List cz}{op:cr Od}
theorem WO.nil(h:Q .normal σ H nx):WO A [] σ L H nx Q:=⟨λT hT=>⟨0,.normal,T,H,nx,rfl,σ,hT,h⟩⟩
structure Act(A:aN)(op:cr Od)(σ:aR)(L:List Value)(H:Heap)(nx:Nat)(v:Value)(H':Heap)(nx':Nat):Prop where
 comes:∀T,Has T σ->∀k,cY op A.P T L H nx k=k v H' nx'
structure bB(A:aN)(σ:aR)(L:List Value)(H:Heap)(ag:List cz):Prop where
 reads:∀T,Has T σ->∀X:R0,jJ A.P T L H ag X=X
theorem bB.nil:bB A σ L H []:=⟨λ_ _ _=>rfl⟩
theorem WO.act{v:Value}(hp:op.plain=true)(ha:Act A op σ L H nx v H' nx')(OZ:bB A (oW p v σ) (v::L) H' ag)(h:WO A l (oW p v σ) (v::L) H' nx' Q):WO A ((⟨p,none,op⟩,ag)::l) σ L H nx Q:=by
 refine⟨λT hT=>?_⟩;have Pt:=hT.oW p v;obtain⟨m,e,T2,H2,nx2,h1,h2⟩:=h.ends _ Pt;refine⟨m,e,T2,H2,nx2,?_,h2⟩;show uf op A (run A m) p ag (cx A (run A m) l) op T L [] H nx=_;rw[lh hp];show cY op A.P T L H nx (bX A.P p ag (cx A (run A m) l) T L [])=_;rw[ha.comes T hT];unfold bX;rw[jS,OZ.reads _ Pt];exact h1
theorem WO.ins{z by_:Nat}{s i x:Od}{v:Value}(ha:Act A (.ins z by_ s i x) σ L H nx v H' nx')(OZ:bB A (oW p v σ) (v::L) H' ag)(h:WO A l (oW p v σ) (v::L) H' nx' Q):WO A ((⟨p,none,.ins z by_ s i x⟩,ag)::l) σ L H nx Q:=by
 refine⟨λT hT=>?_⟩;have Pt:=hT.oW p v;obtain⟨m,e,T2,H2,nx2,h1,h2⟩:=h.ends _ Pt;refine⟨m,e,T2,H2,nx2,?_,h2⟩;show cY (.ins z by_ s i x) A.P T L H nx (bX A.P p ag (cx A (run A m) l) T L [])=_;rw[ha.comes T hT];unfold bX;rw[jS,OZ.reads _ Pt];exact h1
theorem WO.guard{g:Nat}{want t:Bool}(hg:L[g]?=some (.bool t))(h1:t=want->WO A ((⟨p,none,op⟩,ag)::l) σ L H nx Q)(h2:t=(!want)->bB A (oW p undef σ) (undef::L) H ag/\WO A l (oW p undef σ) (undef::L) H nx Q):WO A ((⟨p,some (g,want),op⟩,ag)::l) σ L H nx Q:=by
 refine⟨λT hT=>?_⟩;have hw:wanted L (some (g,want))=(_root_.cond t want (!want)):=by
  show D4 want (Lc L g)=_;rw[wW,hg];rfl
 by_cases ht:t=want
 ·obtain⟨m,e,T2,H2,nx2,g1,g2⟩:=(h1 ht).ends T hT;refine⟨m,e,T2,H2,nx2,?_,g2⟩;have LD:wanted L (some (g,want))=true:=by rw[hw,ht];cases want<;>rfl
  show _root_.cond (wanted L (some (g,want))) _ _=_;rw[LD];exact g1
 ·have ht':t=!want:=by cases t<;>cases want<;>first|rfl|exact absurd rfl ht
  obtain⟨q1,q2⟩:=h2 ht';have Pt:=hT.oW p undef;obtain⟨m,e,T2,H2,nx2,g1,g2⟩:=q2.ends _ Pt;refine⟨m,e,T2,H2,nx2,?_,g2⟩;have LD:wanted L (some (g,want))=false:=by rw[hw,ht'];cases want<;>rfl
  show _root_.cond (wanted L (some (g,want))) _ (bX A.P p ag (cx A (run A m) l) T L [] undef H nx)=_;rw[LD];show bX A.P p ag (cx A (run A m) l) T L [] undef H nx=_;unfold bX;rw[jS,q1.reads _ Pt];exact g1
theorem WO.VK{f:Od}{args:List Od}{g:FuncId}{first cap vs:List Value}(hf:ev σ L f=some (.func (.func g) ⟨first⟩ ⟨cap⟩))(ha:Az σ L args=some vs)(h:WF A g (first++vs++cap) H nx λv H' nx'=>bB A (oW p v σ) (v::L) H' ag/\WO A l (oW p v σ) (v::L) H' nx' Q):WO A ((⟨p,none,.call f args⟩,ag)::l) σ L H nx Q:=by
 refine⟨λT hT=>?_⟩;obtain⟨m,v,H1,aQ,h1,OZ,h2⟩:=h.out;have Pt:=hT.oW p v;obtain⟨m2,e,T2,H2,nx2,g1,g2⟩:=h2.ends _ Pt;refine⟨max m m2,e,T2,H2,nx2,?_,g2⟩;show bI T L f (λf=>dN T L args λvs=>gO vs (λg vs=>bd ((run A (max m m2)).call g vs H nx) (ew A.P p ag (cx A (run A (max m m2)) l) T L [])) f)=_;rw[hT.bI hf,hT.dN ha];show bd ((run A (max m m2)).call g (first++vs++cap) H nx) _=_;rw[(uY (Nat.le_max_left m m2)).call _ _ _ _ _ h1];show bX A.P p ag (cx A (run A (max m m2)) l) T L [] v H1 aQ=_;unfold bX;rw[jS,OZ.reads _ Pt];exact pK (uY (Nat.le_max_right m m2)) _ _ _ _ _ _ _ g1
theorem WO.call{g:FuncId}{args:List Od}{vs:List Value}(ha:Az σ L args=some vs)(h:WF A g vs H nx λv H' nx'=>bB A (oW p v σ) (v::L) H' ag/\WO A l (oW p v σ) (v::L) H' nx' Q):WO A ((⟨p,none,.call (.fn g) args⟩,ag)::l) σ L H nx Q:=
 WO.VK (g:=g) (first:=[]) (cap:=[]) (vs:=vs) rfl ha (by simpa using h)
end rules
theorem WF.mono{g:FuncId}{vs:List Value}{Q Q':Value->Heap->Nat->Prop}(h:WF A g vs H nx Q)(hq:∀v H nx,Q v H nx->Q' v H nx):WF A g vs H nx Q':=
 let ⟨m,v,H',nx',h1,h2⟩:=h.out
 ⟨⟨m,v,H',nx',h1,hq _ _ _ h2⟩⟩
def Pu:List Value->Nat->aR
 | [],_=>[]
 | v::vs,i=>(at_ i,v)::Pu vs (i+1)
theorem TI:∀(vs:List Value) (i:Nat) (p:List Bool) (v:Value),sl (Pu vs i) p=some v->∃j,p=at_ (i+j)/\vs[j]?=some v:=by
 intro vs
 induction vs with
 | nil=>intro i p v h;cases h
 | cons u vs ih=>
  intro i p v h;have h':(bif Nz (at_ i) p then some u else sl (Pu vs (i+1)) p)=some v:=h;cases e:Nz (at_ i) p with
  | true=>
   rw[e]at h';exact⟨0,(Ij e).symm,h'⟩
  | false=>
   rw[e]at h';obtain⟨j,g1,g2⟩:=ih _ _ _ h';exact⟨j+1,by rw[g1];congr 1;omega,g2⟩
theorem Ma(vs:List Value):Has (rQ vs 0 .e) (Pu vs 0):=by
 intro p v h;obtain⟨j,rfl,hj⟩:=TI vs 0 p v h;have cg:=(cS.1 hj).1;rw[Nat.zero_add,yt,aJ ⟨bS _,V⟩]
 simpa using hj
noncomputable def tr(σ:aR)(H:Heap)(x:Od×Option (Option Nat)):Option Value:=match x with
 | (.var p,none)=>sl σ p
 | (.var p,some agg)=>match sl σ p with
  | some (.pointer (some ⟨b,o,none⟩))=>match ah H (at_ b)with
   | some (.cells cs)=>partOf cs o agg
   | _=>none
  | _=>none
 | _=>none
noncomputable def gB(σ:aR)(H:Heap):List (Od×Option (Option Nat))->Option (List Value)
 | []=>some []
 | x::xs=>match tr σ H x,gB σ H xs with
  | some v,some vs=>some (v::vs)
  | _,_=>none
theorem TJ{T:Tr Value}{σ:aR}(hT:Has T σ){x:Od×Option (Option Nat)}{v:Value}(h:tr σ H x=some v)(k:Value->Option eF):Ld T H x k=k v:=by
 obtain⟨od,ag⟩:=x;cases od with
 | var p=>
  cases ag with
  | none=>
   show bd (ah T p) k=k v;rw[hT _ _ h];rfl
  | some agg=>
   have h':(match sl σ p with
    | some (.pointer (some ⟨b,o,none⟩))=>match ah H (at_ b)with
     | some (.cells cs)=>partOf cs o agg
     | _=>none
    | _=>none)=some v:=h
   show (match ah T p with
    | some (.pointer (some ⟨b,o,none⟩))=>match ah H (at_ b)with
     | some (.cells cs)=>bd (partOf cs o agg) k
     | _=>none
    | _=>none)=k v
   split at h'
   ·rename_i hs;rw[hT _ _ hs];split at h'
    ·rename_i hg;simp only[hg,h'];rfl
    ·cases h'
   ·cases h'
 | loc d=>cases h
 | aO c=>cases h
 | fn f=>cases h
theorem Fq{T:Tr Value}{σ:aR}(hT:Has T σ):∀{xs:List (Od×Option (Option Nat))} {vs:List Value},gB σ H xs=some vs->∀k,ir T H xs k=k vs:=by
 intro xs
 induction xs with
 | nil=>intro vs h k;cases h;rfl
 | cons x xs ih=>
  intro vs h k;unfold gB at h;split at h
  ·rename_i h1 h2;cases h;unfold ir;rw[TJ hT h1,ih h2]
  ·cases h
def gR(rs:List (Od×Option (Option Nat)))(Q:Value->Heap->Nat->Prop):cw
 | .normal,σ,H,nx=>∃vs,gB σ H rs=some vs/\Q (oneOf vs) H nx
 | .ret,σ,H,nx=>∃vs,gB σ H rs=some vs/\Q (oneOf vs) H nx
 | _,_,_,_=>False
theorem WF.enter{g:FuncId}{vs:List Value}{rs:List (Od×Option (Option Nat))}{body:bA}{Q:Value->Heap->Nat->Prop}(hh:A.aS g vs H nx=none)(hf:A.funcs g=some ⟨rs,body⟩)(h:WC A body (Pu vs 0) H nx (gR rs Q)):WF A g vs H nx Q:=by
 generalize haf:(⟨rs,body⟩:az)=af at hf;obtain rfl:af.results=rs:=by rw[<-haf]
 obtain rfl:af.body=body:=by rw[<-haf]
 obtain⟨m,e,T',H',nx',h1,σ',h2,h3⟩:=h.ends _ (Ma vs);have fin:(∃us,gB σ' H' af.results=some us/\Q (oneOf us) H' nx')->Aj A (run A m) af (e,⟨T',[],H',nx'⟩)=pt A (run A m) af .returning ⟨T',[],H',nx'⟩->WF A g vs H nx Q:=by
  rintro⟨us,q1,q2⟩ he;refine⟨⟨m+1,oneOf us,H',nx',?_,q2⟩⟩;show (Option.rec (bd (A.funcs g) (lz A (run A m) vs H nx)) some (A.aS g vs H nx):Option eF)=_;rw[hh,hf];show bd (nR vs .e λT=>cJ af.body A (run A m) T [] H nx) (Aj A (run A m) af)=_;rw[eh,h1];show Aj A (run A m) af (e,⟨T',[],H',nx'⟩)=_;rw[he];show nS af T' (.returning,H',nx')=_;exact Fq h2 q1 _
 cases e with
 | normal=>exact fin h3 rfl
 | ret=>exact fin h3 rfl
 | exit i=>exact h3.elim
 | panic ch=>exact h3.elim
theorem Pv{σ σ':aR}(hs:bD σ' σ){x:Od×Option (Option Nat)}{v:Value}(h:tr σ' H x=some v):tr σ H x=some v:=by
 obtain⟨od,ag⟩:=x;cases od with
 | var p=>
  cases ag with
  | none=>exact hs _ _ h
  | some agg=>
   have h':(match sl σ' p with
    | some (.pointer (some ⟨b,o,none⟩))=>match ah H (at_ b)with
     | some (.cells cs)=>partOf cs o agg
     | _=>none
    | _=>none)=some v:=h
   show (match sl σ p with
    | some (.pointer (some ⟨b,o,none⟩))=>match ah H (at_ b)with
     | some (.cells cs)=>partOf cs o agg
     | _=>none
    | _=>none)=some v
   split at h'
   ·rename_i hx;rw[hs _ _ hx];exact h'
   ·cases h'
 | loc d=>cases h
 | aO c=>cases h
 | fn f=>cases h
theorem Mb{σ σ':aR}(hs:bD σ' σ):∀{xs:List (Od×Option (Option Nat))} {vs:List Value},gB σ' H xs=some vs->gB σ H xs=some vs:=by
 intro xs
 induction xs with
 | nil=>intro vs h;exact h
 | cons x xs ih=>
  intro vs h;unfold gB at h;split at h
  ·rename_i h1 h2;unfold gB;rw[Pv hs h1,ih h2];exact h
  ·cases h
theorem tu{rs:List (Od×Option (Option Nat))}{σ σ':aR}{vs:List Value}{Q:Value->Heap->Nat->Prop}(hs:bD σ' σ)(h:gB σ' H rs=some vs)(hq:Q (oneOf vs) H nx):gR rs Q .ret σ H nx:=⟨vs,Mb hs h,hq⟩
theorem aD{rs:List (Od×Option (Option Nat))}{σ:aR}{vs:List Value}{Q:Value->Heap->Nat->Prop}(h:gB σ H rs=some vs)(hq:Q (oneOf vs) H nx):gR rs Q .ret σ H nx:=⟨vs,h,hq⟩
theorem jU{rs:List (Od×Option (Option Nat))}{σ:aR}{vs:List Value}{Q:Value->Heap->Nat->Prop}(h:gB σ H rs=some vs)(hq:Q (oneOf vs) H nx):gR rs Q .normal σ H nx:=⟨vs,h,hq⟩
theorem WF.mW{g:FuncId}{vs:List Value}{v:Value}{Q:Value->Heap->Nat->Prop}(hh:A.aS g vs H nx=some (.ok v H' nx'))(h:Q v H' nx'):WF A g vs H nx Q:=by
 refine⟨⟨1,v,H',nx',?_,h⟩⟩;show (Option.rec (bd (A.funcs g) (lz A (run A 0) vs H nx)) some (A.aS g vs H nx):Option eF)=_;rw[hh]
end
section
variable {A:aN}{H:Heap}{nx:Nat}{σ:aR}{L:List Value}
def i64(n:Int):Value:=.int .i64 n
theorem Act.ai{x:Od}{v:Value}(hx:ev σ L x=some v):Act A (.ai x) σ L H nx v H nx:=⟨λ_ hT k=>hT.bI hx _⟩
theorem Act.pick{c x y:Od}{t:Bool}{v u:Value}(hc:ev σ L c=some (.bool t))(hx:ev σ L x=some v)(hy:ev σ L y=some u):Act A (.pick c x y) σ L H nx (cond t v u) H nx:=by
 refine⟨λT hT k=>?_⟩;show bI T L c (λc=>hY c (bI T L x λv=>k v H nx) (bI T L y λv=>k v H nx))=_;rw[hT.bI hc,hT.bI hx,hT.bI hy];cases t<;>rfl
theorem Act.aA{x:Od}{a:Addr}(hx:ev σ L x=some (.pointer (some a))):Act A (.aA x) σ L H nx (.pointer (some a)) H nx:=⟨λ_ hT k=>(hT.bI hx _).trans rfl⟩
theorem Act.ext{x:Od}{i:Nat}{vs:List Value}{v:Value}(hx:ev σ L x=some (.tuple ⟨vs⟩))(hv:vs[i]?=some v):Act A (.ext x i) σ L H nx v H nx:=by
 refine⟨λT hT k=>?_⟩;show bI T L x (λw=>N4 w i λv=>k v H nx)=_;rw[hT.bI hx];show Af vs i _=_;rw[nU,hv];rfl
theorem Act.Ad{x:Od}{off:Nat}{g:Option Nat}{cs:List Value}{v:Value}(hx:ev σ L x=some (.agg ⟨cs⟩))(hv:partOf cs off g=some v):Act A (.Ad x off g) σ L H nx v H nx:=by
 refine⟨λT hT k=>?_⟩;show bI T L x (λw=>rj w λcs=>bd (partOf cs off g) λv=>k v H nx)=_;rw[hT.bI hx];show bd (partOf cs off g) _=_;rw[hv];rfl
theorem Act.aI{x:Od}{off b o:Nat}(hx:ev σ L x=some (.pointer (some ⟨b,o,none⟩))):Act A (.aI x off) σ L H nx (.pointer (some ⟨b,o+off,none⟩)) H nx:=⟨λ_ hT k=>(hT.bI hx _).trans rfl⟩
theorem Act.aK{x i:Od}{z b o len c:Nat}{j:IntKind}{n:Nat}(hx:ev σ L x=some (.slice (some ⟨b,o,some z⟩) len c))(hi:ev σ L i=some (.int j n))(hn:n<len):Act A (.aK x i z) σ L H nx (.pointer (some ⟨b,o+n*z,none⟩)) H nx:=by
 refine⟨λT hT k=>?_⟩;show bI T L x (λv=>bI T L i λi=>dp i λn=>wD v (WK z n λv=>k v H nx))=_;rw[hT.bI hx,hT.bI hi];show cond (and (Nat.blt n len) (Nat.beq z z)) _ none=_;have h1:Nat.blt n len=true:=by rw[Nat.blt_eq];exact hn
 have h2:Nat.beq z z=true:=by simp
 rw[h1,h2];rfl
theorem Act.nO{x i:Od}{len z b o:Nat}{j:IntKind}{n:Nat}(hx:ev σ L x=some (.pointer (some ⟨b,o,none⟩)))(hi:ev σ L i=some (.int j n))(hn:n<len):Act A (.nO x i len z) σ L H nx (.pointer (some ⟨b,o+n*z,none⟩)) H nx:=by
 refine⟨λT hT k=>?_⟩;show bI T L x (λv=>bI T L i λi=>dp i λn=>dU v (WL n len z λv=>k v H nx))=_;rw[hT.bI hx,hT.bI hi];show cond (Nat.blt n len) _ none=_;have h1:Nat.blt n len=true:=by rw[Nat.blt_eq];exact hn
 rw[h1];rfl
theorem Act.ix{x i:Od}{len z:Nat}{g:Option Nat}{cs:List Value}{j:IntKind}{n:Nat}{v:Value}(hx:ev σ L x=some (.agg ⟨cs⟩))(hi:ev σ L i=some (.int j n))(hn:n<len)(hv:partOf cs (n*z) g=some v):Act A (.ix x i len z g) σ L H nx v H nx:=by
 refine⟨λT hT k=>?_⟩;show bI T L x (λv=>bI T L i λi=>dp i λn=>rj v λcs=>cond (Nat.blt n len) (bd (partOf cs (Nat.mul n z) g) λv=>k v H nx) none)=_;rw[hT.bI hx,hT.bI hi];show cond (Nat.blt n len) (bd (partOf cs (n*z) g) _) none=_;have h1:Nat.blt n len=true:=by rw[Nat.blt_eq];exact hn
 rw[h1,hv];rfl
theorem TK{P:Program}{op:BinOp}{t:TypeId}{x y v:Value}(hx:flat x=true)(hy:flat y=true)(hg:eqGuard op t (.const x) (.const y) x y=Sem.pure ())(h:binOp op t x y=Sem.pure v)(hf:flat v=true):sI P op t x y=some v:=by
 unfold sI;have h2:(do eqGuard op t (.const x) (.const y) x y;binOp op t x y:Sem Value)=Sem.pure v:=by rw[hg];exact h
 simp only[hx,hy,Bool.and_self,cond_true,h2,quiet,hf]
theorem kV{P:Program}{op:BinOp}{t:TypeId}{x y v:Value}(hx:flat x=true)(hy:flat y=true)(hg:eqGuard op t (.const x) (.const y) x y=Sem.pure ())(h:binOp op t x y=Sem.pure v)(hf:flat v=true)(k:KV):jl P op t x y k=k v:=by
 unfold jl;cases hq:Ae op x y with
 | none=>rw[TK hx hy hg h hf];rfl
 | some q=>
  have:=(xR (P:=P) (w:=default) (t:=t) (x:=.const x) (y:=.const y) hq).1;rw[hg]at this;have h3:(Sem.pure v:Sem Value).run P default=.ok q default:=by rw[<-h];exact this
  have h4:(Sem.pure v:Sem Value).run P default=.ok v default:=Sem.run_pure ..;rw[h4]at h3;cases h3;rfl
theorem gS{op:BinOp}{t:TypeId}{x y:Operand}{k k':IntKind}{a b:Int}:eqGuard op t x y (.int k a) (.int k' b)=Sem.pure ():=by cases op<;>rfl
theorem Act.jl{op:BinOp}{t:TypeId}{x y:Od}{a b v:Value}(hx:ev σ L x=some a)(hy:ev σ L y=some b)(h:∀k,Eng.jl A.P op t a b k=k v):Act A (.bin op t x y) σ L H nx v H nx:=by
 refine⟨λT hT k=>?_⟩;show bI T L x (λa=>bI T L y λb=>Eng.jl A.P op t a b λv=>k v H nx)=_;rw[hT.bI hx,hT.bI hy,h]
section ints
variable {t:TypeId}{x y:Od}{j:IntKind}{a b:Int}
theorem Act.aeP(hx:ev σ L x=some (.int j a))(hy:ev σ L y=some (.int j b)):Act A (.bin .add t x y) σ L H nx (.int j (j.wrap (a+b))) H nx:=
 .jl hx hy (kV rfl rfl gS (by simp[binOp,Op.intArith];rfl) rfl)
theorem Act.aeQ(hx:ev σ L x=some (.int j a))(hy:ev σ L y=some (.int j b)):Act A (.bin .sub t x y) σ L H nx (.int j (j.wrap (a-b))) H nx:=
 .jl hx hy (kV rfl rfl gS (by simp[binOp,Op.intArith];rfl) rfl)
theorem Act.mul'(hx:ev σ L x=some (.int j a))(hy:ev σ L y=some (.int j b)):Act A (.bin .mul t x y) σ L H nx (.int j (j.wrap (a*b))) H nx:=
 .jl hx hy (kV rfl rfl gS (by simp[binOp,Op.intArith];rfl) rfl)
theorem Act.Xx(hx:ev σ L x=some (.int j a))(hy:ev σ L y=some (.int j b))(h0:b≠0):Act A (.bin .quo t x y) σ L H nx (.int j (j.wrap (a.tdiv b))) H nx:=
 .jl hx hy (kV rfl rfl gS (by simp[binOp,Op.intDiv,h0];rfl) rfl)
theorem Act.aeR(hx:ev σ L x=some (.int j a))(hy:ev σ L y=some (.int j b))(h0:b≠0):Act A (.bin .rem t x y) σ L H nx (.int j (a.tmod b)) H nx:=
 .jl hx hy (kV rfl rfl gS (by simp[binOp,Op.intDiv,h0];rfl) rfl)
theorem Act.aiX(hx:ev σ L x=some (.int j a))(hy:ev σ L y=some (.int j b)):Act A (.bin .eql t x y) σ L H nx (.bool (decide (a=b))) H nx:=
 .jl hx hy (kV rfl rfl gS (by simp[binOp,Op.intCmp];rfl) rfl)
theorem Act.aiY(hx:ev σ L x=some (.int j a))(hy:ev σ L y=some (.int j b)):Act A (.bin .neq t x y) σ L H nx (.bool (decide (a≠b))) H nx:=
 .jl hx hy (kV rfl rfl gS (by simp[binOp,Op.intCmp,bne];rfl) rfl)
theorem Act.lss(hx:ev σ L x=some (.int j a))(hy:ev σ L y=some (.int j b)):Act A (.bin .lss t x y) σ L H nx (.bool (decide (a<b))) H nx:=
 .jl hx hy (kV rfl rfl gS (by simp[binOp,Op.intCmp];rfl) rfl)
theorem Act.leq(hx:ev σ L x=some (.int j a))(hy:ev σ L y=some (.int j b)):Act A (.bin .leq t x y) σ L H nx (.bool (decide (a<=b))) H nx:=
 .jl hx hy (kV rfl rfl gS (by simp[binOp,Op.intCmp];rfl) rfl)
theorem Act.gtr(hx:ev σ L x=some (.int j a))(hy:ev σ L y=some (.int j b)):Act A (.bin .gtr t x y) σ L H nx (.bool (decide (b<a))) H nx:=
 .jl hx hy (kV rfl rfl gS (by simp[binOp,Op.intCmp];rfl) rfl)
theorem Act.geq(hx:ev σ L x=some (.int j a))(hy:ev σ L y=some (.int j b)):Act A (.bin .geq t x y) σ L H nx (.bool (decide (b<=a))) H nx:=
 .jl hx hy (kV rfl rfl gS (by simp[binOp,Op.intCmp];rfl) rfl)
end ints
def Fs(n:Int):Prop:=-9223372036854775808<=n/\n<=9223372036854775807
theorem xe{n:Int}(h:Fs n):IntKind.i64.wrap n=n:=by
 obtain⟨h1,h2⟩:=h;unfold IntKind.wrap IntKind.signed IntKind.bits;simp only[Bool.true_and,ge_iff_le,DW];split<;>omega
section i64
variable {t:TypeId}{x y:Od}{a b:Int}
theorem Act.add(hx:ev σ L x=some (.int .i64 a))(hy:ev σ L y=some (.int .i64 b))(h:Fs (a+b)):Act A (.bin .add t x y) σ L H nx (.int .i64 (a+b)) H nx:=by
 have:=Act.aeP (A:=A) (H:=H) (nx:=nx) (t:=t) hx hy
 rwa [xe h]at this
theorem Act.sub(hx:ev σ L x=some (.int .i64 a))(hy:ev σ L y=some (.int .i64 b))(h:Fs (a-b)):Act A (.bin .sub t x y) σ L H nx (.int .i64 (a-b)) H nx:=by
 have:=Act.aeQ (A:=A) (H:=H) (nx:=nx) (t:=t) hx hy
 rwa [xe h]at this
theorem Act.mul(hx:ev σ L x=some (.int .i64 a))(hy:ev σ L y=some (.int .i64 b))(h:Fs (a*b)):Act A (.bin .mul t x y) σ L H nx (.int .i64 (a*b)) H nx:=by
 have:=Act.mul' (A:=A) (H:=H) (nx:=nx) (t:=t) hx hy
 rwa [xe h]at this
theorem Act.quo(hx:ev σ L x=some (.int .i64 a))(hy:ev σ L y=some (.int .i64 b))(h0:0<b)(h:Fs a)(ha:0<=a):Act A (.bin .quo t x y) σ L H nx (.int .i64 (a / b)) H nx:=by
 have:=Act.Xx (A:=A) (H:=H) (nx:=nx) (t:=t) hx hy V;have h1:a / b<=a:=by
  have h2:=Int.ediv_le_self b ha;exact h2
 have h2:0<=a / b:=Int.ediv_nonneg ha V
 rwa [Int.tdiv_eq_ediv_of_nonneg ha,xe ⟨V,by have:=h.2;omega⟩]at this
theorem Act.rem(hx:ev σ L x=some (.int .i64 a))(hy:ev σ L y=some (.int .i64 b))(h0:0<b)(ha:0<=a):Act A (.bin .rem t x y) σ L H nx (.int .i64 (a%b)) H nx:=by
 have:=Act.aeR (A:=A) (H:=H) (nx:=nx) (t:=t) hx hy V
 rwa [Int.tmod_eq_emod_of_nonneg ha]at this
end i64
section aT
variable {t:TypeId}{x y:Od}{a b:Nat}
theorem Act.aiZ(hx:ev σ L x=some (.int .i64 (a:Int)))(hy:ev σ L y=some (.int .i64 (b:Int)))(h:a+b<=9223372036854775807):Act A (.bin .add t x y) σ L H nx (.int .i64 ((a+b:Nat):Int)) H nx:=by
 have:=Act.add (A:=A) (H:=H) (nx:=nx) (t:=t) hx hy ⟨V,V⟩
 rwa [<-Int.natCast_add]at this
theorem Act.ai0(hx:ev σ L x=some (.int .i64 (a:Int)))(hy:ev σ L y=some (.int .i64 (b:Int)))(hb:b<=a)(h:a<=9223372036854775807):Act A (.bin .sub t x y) σ L H nx (.int .i64 ((a-b:Nat):Int)) H nx:=by
 have:=Act.sub (A:=A) (H:=H) (nx:=nx) (t:=t) hx hy ⟨V,V⟩
 rwa [<-Int.natCast_sub hb]at this
theorem Act.ai1(hx:ev σ L x=some (.int .i64 (a:Int)))(hy:ev σ L y=some (.int .i64 (b:Int)))(h:a*b<=9223372036854775807):Act A (.bin .mul t x y) σ L H nx (.int .i64 ((a*b:Nat):Int)) H nx:=by
 have:=Act.mul (A:=A) (H:=H) (nx:=nx) (t:=t) (a:=(a:Int)) (b:=(b:Int)) hx hy ⟨by rw[<-Int.natCast_mul];omega,by rw[<-Int.natCast_mul];omega⟩
 rwa [<-Int.natCast_mul]at this
theorem Act.ai2(hx:ev σ L x=some (.int .i64 (a:Int)))(hy:ev σ L y=some (.int .i64 (b:Int)))(h0:0<b)(h:a<=9223372036854775807):Act A (.bin .quo t x y) σ L H nx (.int .i64 ((a / b:Nat):Int)) H nx:=by
 have:=Act.quo (A:=A) (H:=H) (nx:=nx) (t:=t) hx hy V ⟨V,V⟩ V
 rwa [<-Int.natCast_ediv]at this
theorem Act.ai3(hx:ev σ L x=some (.int .i64 (a:Int)))(hy:ev σ L y=some (.int .i64 (b:Int)))(h0:0<b):Act A (.bin .rem t x y) σ L H nx (.int .i64 ((a%b:Nat):Int)) H nx:=by
 have:=Act.rem (A:=A) (H:=H) (nx:=nx) (t:=t) hx hy V V
 rwa [<-Int.natCast_emod]at this
end aT
theorem Act.not{x:Od}{b:Bool}(hx:ev σ L x=some (.bool b)):Act A (.un .not x) σ L H nx (.bool (!b)) H nx:=by
 refine⟨λT hT k=>?_⟩;show bI T L x (λv=>bd (jH A.P [v] (Op.unary .not v)) λv=>k v H nx)=_;rw[hT.bI hx];rfl
theorem Act.fR{zero:List Value}{parts:List (Nat×Nat×Od)}{ps:List (Nat×Nat×Value)}{cs:List Value}(hp:VJ σ L parts=some ps)(hc:fJ zero ps=some cs):Act A (.fR zero parts) σ L H nx (.agg ⟨cs⟩) H nx:=by
 refine⟨λT hT k=>?_⟩;show eX T L parts (λps=>bd (fJ zero ps) λcs=>k (.agg cs.toArray) H nx)=_;rw[hT.eX hp,hc];rfl
theorem Act.B8{f:FuncId}{first cp:List Od}{a b:List Value}(ha:Az σ L first=some a)(hb:Az σ L cp=some b):Act A (.B8 f first cp) σ L H nx (.func (.func f) ⟨a⟩ ⟨b⟩) H nx:=by
 refine⟨λT hT k=>?_⟩;show dN T L first (λa=>dN T L cp λb=>k (.func (.func f) a.toArray b.toArray) H nx)=_
 rw[hT.dN ha,hT.dN hb]
theorem Act.eP{neg:Bool}{kd:Nat}{x y:Od}{v u:Value}{a b:Bool}(hx:ev σ L x=some v)(hy:ev σ L y=some u)(h1:dg kd v=some a)(h2:dg kd u=some b)(h3:(a||b)=true):Act A (.eP neg kd x y) σ L H nx (.bool (xor neg (a&&b))) H nx:=by
 refine⟨λT hT k=>?_⟩;show bI T L x (λa=>bI T L y λb=>Cd neg kd a b λv=>k v H nx)=_;rw[hT.bI hx,hT.bI hy];show bd (dg kd v) (λa=>bd (dg kd u) λb=>cond (or a b) (k (.bool (xor neg (and a b))) H nx) none)=_;rw[h1,h2];show cond (or a b) _ none=_;rw[h3];rfl
theorem Act.len{x:Od}{base:Option Addr}{n c:Nat}(hx:ev σ L x=some (.slice base n c)):Act A (.len x) σ L H nx (.int .i64 n) H nx:=⟨λ_ hT k=>(hT.bI hx _).trans rfl⟩
def TL(σ:aR)(L:List Value)(d:Nat):Option Od->Option Nat
 | none=>some d
 | some x=>match ev σ L x with
  | some (.int _ (.ofNat n))=>some n
  | _=>none
theorem Has.jd{T:Tr Value}(hT:Has T σ){x:Option Od}{d n:Nat}(h:TL σ L d x=some n)(k:Nat->R0):Eng.jd T L x d k=k n:=by
 cases x with
 | none=>cases h;rfl
 | some x=>
  have h':(match Eng.ev σ L x with
   | some (.int _ (.ofNat n))=>some n
   | _=>none)=some n:=h
  show Eng.bI T L x (λv=>dp v k)=_;split at h'
  ·rename_i e;cases h';rw[hT.bI e];rfl
  ·cases h'
theorem Act.lx{x:Od}{lo hi:Option Od}{z b o len c l h:Nat}(hx:ev σ L x=some (.slice (some ⟨b,o,some z⟩) len c))(hl:TL σ L 0 lo=some l)(hh:TL σ L len hi=some h)(h1:l<=h)(h2:h<=aF c) :
  Act A (.lx x lo hi none z) σ L H nx (.slice (some ⟨b,o+l*z,some z⟩) (h-l) (c-2*l)) H nx:=by
 refine⟨λT hT k=>?_⟩;show bI T L x (λv=>Ah T L lo hi none z (λv=>k v H nx) v)=_;rw[hT.bI hx];show jd T L lo 0 (λl=>jd T L hi len λh=>cond (and (Nat.beq z z) (and (Nat.ble l h) (Nat.ble h (aF c)))) (La T L none (λv=>k v H nx) b o z l h c) none)=_;rw[hT.jd hl,hT.jd hh];have e1:Nat.beq z z=true:=by simp
 have e2:Nat.ble l h=true:=Nat.ble_eq_true_of_le h1;have e3:Nat.ble h (aF c)=true:=Nat.ble_eq_true_of_le h2;simp only[e1,e2,e3,and,cond_true];rfl
theorem Act.Pw{x:Od}{lo hi:Option Od}{z n c:Nat}(hx:ev σ L x=some (.slice none n c))(hl:TL σ L 0 lo=some 0)(hh:TL σ L 0 hi=some 0):Act A (.lx x lo hi none z) σ L H nx (.slice none 0 0) H nx:=by
 refine⟨λT hT k=>?_⟩;show bI T L x (λv=>Ah T L lo hi none z (λv=>k v H nx) v)=_;rw[hT.bI hx];show jd T L lo 0 (λl=>jd T L hi 0 λh=>cond (and (Nat.beq l 0) (and (Nat.beq h 0) true)) (k (.slice none 0 0) H nx) none)=_;rw[hT.jd hl,hT.jd hh];rfl
def Rd(H:Heap)(b:Nat)(cs:List Value):Prop:=ah H (at_ b)=some (.cells cs)\/ah H (at_ b)=some (.ro cs)
theorem Rd.db{b:Nat}{cs:List Value}(h:Rd H b cs)(k:List Value->R0):Eng.db H b k=k cs:=by
 unfold Eng.db onRead;rcases h with h|h<;>rw[h]
theorem jV{b:Nat}{cs:List Value}(h:ah H (at_ b)=some (.cells cs))(k:List Value->R0):eY H b k=k cs:=by
 unfold eY wV;rw[h]
theorem Act.an{x:Od}{g:Option Nat}{b o:Nat}{cs:List Value}{v:Value}(hx:ev σ L x=some (.pointer (some ⟨b,o,none⟩)))(hr:Rd H b cs)(hv:partOf cs o g=some v):Act A (.an x g) σ L H nx v H nx:=by
 refine⟨λT hT k=>?_⟩;show bI T L x (λv=>dU v λb o=>db H b λcs=>bd (partOf cs o g) λv=>k v H nx)=_;rw[hT.bI hx];show db H b _=_;rw[hr.db,hv];rfl
def aC(H:Heap)(b:Nat)(cs:List Value):Heap:=cA (at_ b) H (some (.cells cs))
def kill(H:Heap)(b:Nat):Heap:=cA (at_ b) H none
theorem ak{b c:Nat}{cs:List Value}:ah (aC H b cs) (at_ c)=if c=b then some (.cells cs)else ah H (at_ c):=by
 unfold aC;by_cases h:c=b
 ·subst h;rw[cB];simp
 ·rw[bz _ _ _ _ (λe=>h (gy e))];simp[h]
theorem gC{b c:Nat}:ah (kill H b) (at_ c)=if c=b then none else ah H (at_ c):=by
 unfold kill;by_cases h:c=b
 ·subst h;rw[cB];simp
 ·rw[bz _ _ _ _ (λe=>h (gy e))];simp[h]
theorem pM{v:Value}{k:KA}{cs:List Value}:fresh H nx v k cs=k v (aC H nx cs) (nx+1):=by
 unfold fresh;rw[cL];rfl
theorem Act.box{x:Od}{v:Value}(hx:ev σ L x=some v):Act A (.box x) σ L H nx (.pointer (some ⟨nx,0,none⟩)) (aC H nx (cellsOf v)) (nx+1):=by
 refine⟨λT hT k=>?_⟩;show bI T L x (λv=>fresh H nx (ptrTo nx) k (cellsOf v))=_;rw[hT.bI hx,pM];rfl
theorem Act.gM{zero:List Value}:Act A (.gM zero) σ L H nx (.pointer (some ⟨nx,0,none⟩)) (aC H nx zero) (nx+1):=by
 refine⟨λT hT k=>?_⟩;show fresh H nx (ptrTo nx) k zero=_;rw[pM];rfl
theorem Act.mO{z by_:Nat}{zero:List Value}{l c:Od}{j j':IntKind}{n m:Nat}(hl:ev σ L l=some (.int j n))(hc:ev σ L c=some (.int j' m))(h1:n<=m)(h2:m*by_<=small)(h3:m<=small)(h4:0<z) :
  Act A (.mO z by_ zero l c) σ L H nx (.slice (some ⟨nx,0,some z⟩) n (2*m+1)) (aC H nx (bj zero m)) (nx+1):=by
 refine⟨λT hT k=>?_⟩;show bI T L l (λl=>dp l λl=>bI T L c λc=>dp c λc=>SY z by_ zero H nx l c k)=_;rw[hT.bI hl];show bI T L c (λc=>dp c λc=>SY z by_ zero H nx n c k)=_;rw[hT.bI hc];show cond (and (Nat.ble n m) (and (Nat.ble (m*by_) small) (and (Nat.ble m small) (Nat.blt 0 z)))) (fresh H nx (wE nx z n (Nat.succ (2*m))) k (bj zero m)) none=_;have e1:Nat.ble n m=true:=Nat.ble_eq_true_of_le h1;have e2:Nat.ble (m*by_) small=true:=Nat.ble_eq_true_of_le h2;have e3:Nat.ble m small=true:=Nat.ble_eq_true_of_le h3;have e4:Nat.blt 0 z=true:=by rw[Nat.blt_eq];exact h4
 rw[e1,e2,e3,e4];exact pM
theorem Act.fC{z len:Nat}{zero:List Value}{parts:List (Nat×Nat×Od)}{ps:List (Nat×Nat×Value)}{cs:List Value}(hp:VJ σ L parts=some ps)(hc:fJ (bj zero len) ps=some cs)(hz:0<z) :
  Act A (.fC z len zero parts) σ L H nx (.slice (some ⟨nx,0,some z⟩) len (2*len+1)) (aC H nx cs) (nx+1):=by
 refine⟨λT hT k=>?_⟩;show eX T L parts (λps=>bd (fJ (bj zero len) ps) λcs=>cond (Nat.blt 0 z) (fresh H nx (wE nx z len (Nat.succ (Nat.mul 2 len))) k cs) none)=_;rw[hT.eX hp,hc];have e4:Nat.blt 0 z=true:=by rw[Nat.blt_eq];exact hz
 show cond (Nat.blt 0 z) _ none=_;rw[e4];exact pM
theorem Mc:∀(l:List Value) (o:Nat) (v:Value) (k:List Value->R0),o<l.length->xD l o v k=k (l.set o v):=by
 intro l
 induction l with
 | nil=>intro o v k h;simp at h
 | cons c l ih=>
  intro o v k h;cases o with
  | zero=>rfl
  | succ o=>exact ih o v (λl=>k (c::l)) (by simpa using h)
theorem J0{b:Nat}{v:Value}{k:KA}{cs:List Value}:oR H nx b v k cs=k v (aC H b cs) nx:=by
 unfold oR;rw[cL];rfl
theorem Act.aeS{x y:Od}{b o:Nat}{cs:List Value}{v:Value}(hx:ev σ L x=some (.pointer (some ⟨b,o,none⟩)))(hy:ev σ L y=some v)(h1:cellsOf v=[v])(h2:ux v=true)(hr:ah H (at_ b)=some (.cells cs))(ho:o<cs.length) :
  Act A (.bE x y 1) σ L H nx undef (aC H b (cs.set o v)) nx:=by
 refine⟨λT hT k=>?_⟩;show bI T L x (λx=>bI T L y λv=>dU x (Lb H nx 1 (cellsOf v) k))=_;rw[hT.bI hx,hT.bI hy];show Lb H nx 1 (cellsOf v) k b o=_;rw[h1];have:(Nat.beq [v].length 1&&cq [v])=true:=by
  show (Nat.beq 1 1&&cond (ux v) true false)=true;rw[h2];rfl
 show cond (Nat.beq [v].length 1&&cq [v]) _ none=_;rw[this];show eY H b (λold=>SZ H nx b o [v] old k)=_;rw[jV hr];show xD cs o v (oR H nx b undef k)=_;rw[Mc _ _ _ _ ho,J0]
theorem tw:∀(o:Nat) (cs vs:List Value),o+vs.length<=cs.length->jc cs o vs=some (cs.take o++vs++cs.drop (o+vs.length)):=by
 intro o
 induction o with
 | zero=>
  intro cs vs
  induction vs generalizing cs with
  | nil=>intro _;show fi cs []=_;cases cs<;>simp[fi]
  | cons v vs ih=>
   intro h;cases cs with
   | nil=>simp at h
   | cons c cs=>
    have h':=ih cs (by simp at h;omega);show fi (c::cs) (v::vs)=_;have WT:fi cs vs=some (cs.take 0++vs++cs.drop (0+vs.length)):=h';simp only[fi,WT];simp
 | succ o ih=>
  intro cs vs h;cases cs with
  | nil=>simp at h
  | cons c cs=>
   have h':=ih cs vs (by simp at h;omega);show (Option.rec none (λr=>some (c::r)) (jc cs o vs):Option (List Value))=_;rw[h'];simp;rw[show o+1+vs.length=(o+vs.length)+1 by omega];simp
theorem Act.aeT{x y:Od}{b o n:Nat}{cs vs:List Value}(hx:ev σ L x=some (.pointer (some ⟨b,o,none⟩)))(hy:ev σ L y=some (.agg ⟨vs⟩))(hn:vs.length=n)(h1:1<n)(h2:cq vs=true)(hr:ah H (at_ b)=some (.cells cs))(ho:o+n<=cs.length) :
  Act A (.bE x y n) σ L H nx undef (aC H b (cs.take o++vs++cs.drop (o+n))) nx:=by
 refine⟨λT hT k=>?_⟩;show bI T L x (λx=>bI T L y λv=>dU x (Lb H nx n (cellsOf v) k))=_;rw[hT.bI hx,hT.bI hy];show Lb H nx n vs k b o=_;have:(Nat.beq vs.length n&&cq vs)=true:=by rw[h2,hn];simp
 show cond (Nat.beq vs.length n&&cq vs) _ none=_;rw[this];show eY H b (λold=>SZ H nx b o vs old k)=_;rw[jV hr]
 match vs,hn,h1 with
 | v::u::vs,hn,_=>
  show bd (jc cs o (v::u::vs)) (oR H nx b undef k)=_;rw[tw _ _ _ (by rw[hn];exact ho),hn];exact J0
def pN(H:Heap)(z:Nat)(v:Value)(n:Nat)(cs:List Value):Prop:=
 (∃a c,v=.slice none a c/\n=0/\cs=[])\/(∃b o c,v=.slice (some ⟨b,o,some z⟩) n c/\(n=0/\cs=[]\/n≠0/\∃all,Rd H b all/\take? (n*z) (all.drop o)=some cs))\/(v=.slice (some ⟨0,0,none⟩) 0 1/\n=0/\cs=[])
theorem pN.kO{z n:Nat}{v:Value}{cs:List Value}(h:pN H z v n cs)(k:Nat->List Value->R0):Eng.kO H z k v=k n cs:=by
 rcases h with⟨a,c,rfl,rfl,rfl⟩|⟨b,o,c,rfl,h⟩|⟨rfl,rfl,rfl⟩
 rotate_left 2
 ·rfl
 ·rfl
 ·have e1:Nat.beq z z=true:=by simp
  show cond (Nat.beq z z) (cond (Nat.beq n 0) (k 0 []) (Eng.db H b λcs=>bd (take? (Nat.mul n z) (fq cs o)) λcs=>k n cs)) none=_;rw[e1];rcases h with⟨rfl,rfl⟩|⟨h0,all,h1,h2⟩
  ·rfl
  ·have:Nat.beq n 0=false:=by
    cases hb:Nat.beq n 0 with
    | false=>rfl
    | true=>exact absurd (dB hb) h0
   rw[this];show Eng.db H b _=_;rw[h1.db,fw];show bd (take? (n*z) (all.drop o)) _=_;rw[h2];rfl
theorem qy{z by_ len n:Nat}{old new:List Value}{k:KA}(h1:(len+n)*by_<=small)(h2:len+n<=small):eG z by_ H nx k len n old new=k (.slice (some ⟨nx,0,some z⟩) (len+n) (2*(len+n))) (aC H nx (old++new)) (nx+1):=by
 unfold eG;have e1:Nat.ble (Nat.mul (Nat.add len n) by_) small=true:=Nat.ble_eq_true_of_le h1;have e2:Nat.ble (Nat.add len n) small=true:=Nat.ble_eq_true_of_le h2;rw[e1,e2];exact pM
theorem Act.Px{z by_:Nat}{zero:List Value}{s x:Od}{a c n:Nat}{v:Value}{new:List Value}(hs:ev σ L s=some (.slice none a c))(hx:ev σ L x=some v)(eJ:pN H z v n new)(hn:n≠0)(hz:0<z)(h1:n*by_<=small)(h2:n<=small) :
  Act A (.app z by_ zero s x false) σ L H nx (.slice (some ⟨nx,0,some z⟩) n (2*n)) (aC H nx new) (nx+1):=by
 refine⟨λT hT k=>?_⟩;show bI T L s (λs=>bI T L x λx=>kO H z (uy z by_ H nx k s) x)=_;rw[hT.bI hs,hT.bI hx,eJ.kO];show cond (Nat.beq n 0) (k (.slice none 0 0) H nx) (cond (Nat.blt 0 z) (eG z by_ H nx k 0 n [] new) none)=_;have e0:Nat.beq n 0=false:=by
  cases hb:Nat.beq n 0 with
  | false=>rfl
  | true=>exact absurd (dB hb) hn
 have e1:Nat.blt 0 z=true:=by rw[Nat.blt_eq];exact hz
 rw[e0,e1];show eG z by_ H nx k 0 n [] new=_;rw[qy (by simpa using h1) (by simpa using h2)];simp
theorem Act.J1{z by_:Nat}{zero:List Value}{s x:Od}{a c:Nat}{v:Value}{new:List Value}(hs:ev σ L s=some (.slice none a c))(hx:ev σ L x=some v)(eJ:pN H z v 0 new) :
  Act A (.app z by_ zero s x false) σ L H nx (.slice none 0 0) H nx:=by
 refine⟨λT hT k=>?_⟩;show bI T L s (λs=>bI T L x λx=>kO H z (uy z by_ H nx k s) x)=_;rw[hT.bI hs,hT.bI hx,eJ.kO];rfl
theorem CQ{z by_ b o len c n:Nat}{new:List Value}{k:KA}(hz:0<z)(h1:cq new=true)(hn:n≠0) :
  uy z by_ H nx k (.slice (some ⟨b,o,some z⟩) len c) n new=cond (Nat.ble (len+n) (aF c)) (pk z H nx k b o len c n new) (nQ z by_ H nx k b o len c n new):=by
 show cond (and (Nat.beq z z) (and (Nat.blt 0 z) (cq new))) (cond (Nat.beq n 0) _ _) none=_;have e0:Nat.beq n 0=false:=by
  cases hb:Nat.beq n 0 with
  | false=>rfl
  | true=>exact absurd (dB hb) hn
 have e1:Nat.blt 0 z=true:=by rw[Nat.blt_eq];exact hz
 have e2:Nat.beq z z=true:=by simp
 rw[e0,e1,e2,h1];rfl
theorem Act.nQ{z by_:Nat}{zero:List Value}{s x:Od}{b o len c n:Nat}{v:Value}{cs old new:List Value}(hs:ev σ L s=some (.slice (some ⟨b,o,some z⟩) len c))(hx:ev σ L x=some v)(eJ:pN H z v n new)(hn:n≠0)(hz:0<z)(h1:cq new=true)(hr:ah H (at_ b)=some (.cells cs))(hold:take? (len*z) (cs.drop o)=some old)(hc:aF c<len+n)(he:exact c=false)(h2:(len+n)*by_<=small)(h3:len+n<=small) :
  Act A (.app z by_ zero s x false) σ L H nx (.slice (some ⟨nx,0,some z⟩) (len+n) (2*(len+n))) (aC (kill H b) nx (old++new)) (nx+1):=by
 refine⟨λT hT k=>?_⟩;show bI T L s (λs=>bI T L x λx=>kO H z (uy z by_ H nx k s) x)=_;rw[hT.bI hs,hT.bI hx,eJ.kO,CQ hz h1 hn];have e:Nat.ble (len+n) (aF c)=false:=by
  cases hb:Nat.ble (len+n) (aF c)with
  | false=>rfl
  | true=>have:=lu hb;omega
 rw[e];show eY H b (λcs=>bd (take? (Nat.mul len z) (fq cs o)) λold=>cond (exact c) (eG z by_ H nx k len n old new) (eQ (at_ b) H none λH=>eG z by_ H nx k len n old new))=_;rw[jV hr,fw];show bd (take? (len*z) (cs.drop o)) _=_;rw[hold,he];show eQ (at_ b) H none (λH=>eG z by_ H nx k len n old new)=_;rw[cL];exact qy h2 h3
theorem Act.tx{z by_:Nat}{zero:List Value}{s x:Od}{b o len c n:Nat}{v:Value}{cs old new:List Value}(hs:ev σ L s=some (.slice (some ⟨b,o,some z⟩) len c))(hx:ev σ L x=some v)(eJ:pN H z v n new)(hn:n≠0)(hz:0<z)(h1:cq new=true)(hr:ah H (at_ b)=some (.cells cs))(hold:take? (len*z) (cs.drop o)=some old)(hc:aF c<len+n)(he:exact c=true)(h2:(len+n)*by_<=small)(h3:len+n<=small) :
  Act A (.app z by_ zero s x false) σ L H nx (.slice (some ⟨nx,0,some z⟩) (len+n) (2*(len+n))) (aC H nx (old++new)) (nx+1):=by
 refine⟨λT hT k=>?_⟩;show bI T L s (λs=>bI T L x λx=>kO H z (uy z by_ H nx k s) x)=_;rw[hT.bI hs,hT.bI hx,eJ.kO,CQ hz h1 hn];have e:Nat.ble (len+n) (aF c)=false:=by
  cases hb:Nat.ble (len+n) (aF c)with
  | false=>rfl
  | true=>have:=lu hb;omega
 rw[e];show eY H b (λcs=>bd (take? (Nat.mul len z) (fq cs o)) λold=>cond (exact c) (eG z by_ H nx k len n old new) (eQ (at_ b) H none λH=>eG z by_ H nx k len n old new))=_;rw[jV hr,fw];show bd (take? (len*z) (cs.drop o)) _=_;rw[hold,he];exact qy h2 h3
theorem Act.TM{z by_:Nat}{zero:List Value}{s x:Od}{b o len c:Nat}{v:Value}(hs:ev σ L s=some (.slice (some ⟨b,o,some z⟩) len c))(hx:ev σ L x=some v)(eJ:pN H z v 0 [])(hz:0<z) :
  Act A (.app z by_ zero s x false) σ L H nx (.slice (some ⟨b,o,some z⟩) len c) H nx:=by
 refine⟨λT hT k=>?_⟩;show bI T L s (λs=>bI T L x λx=>kO H z (uy z by_ H nx k s) x)=_;rw[hT.bI hs,hT.bI hx,eJ.kO];show cond (and (Nat.beq z z) (and (Nat.blt 0 z) (cq []))) _ none=_;have e1:Nat.blt 0 z=true:=by rw[Nat.blt_eq];exact hz
 have e2:Nat.beq z z=true:=by simp
 rw[e1,e2];rfl
end
section
variable {A:aN}{H H':Heap}{nx nx':Nat}{σ:aR}{L:List Value}{Q:cw}
theorem lO{b:bA}(h:WC A b σ H nx Q):yy A b Q .normal σ H nx:=h
theorem stE{b:bA}{i:Nat}(h:Q (.exit i) σ H nx):yy A b Q (.exit i) σ H nx:=h
theorem stR{b:bA}(h:Q .ret σ H nx):yy A b Q .ret σ H nx:=h
theorem drN(h:Q .normal σ H nx):L9 Q .normal σ H nx:=⟨rfl,h⟩
theorem Md{id:Nat}(h:Q .normal σ H nx):oj id Q .normal σ H nx:=h
theorem kW{id:Nat}(h:Q .normal σ H nx):oj id Q (.exit id) σ H nx:=by
 show cond (Nat.beq id id) _ _;have:Nat.beq id id=true:=by simp
 rw[this];exact h
theorem bkO{id i:Nat}(hi:Nat.beq i id=false)(h:Q (.exit i) σ H nx):oj id Q (.exit i) σ H nx:=by
 show cond (Nat.beq i id) _ _;rw[hi];exact h
theorem bkR{id:Nat}(h:Q .ret σ H nx):oj id Q .ret σ H nx:=h
theorem WC.aiU{x:Od}{a b:bA}(hx:ev σ [] x=some (.bool true))(h:WC A a σ H nx Q):WC A (.cond x a b) σ H nx Q:=.cond hx (λ_=>h) (λe=>by cases e)
theorem WC.aiV{x:Od}{a b:bA}(hx:ev σ [] x=some (.bool false))(h:WC A b σ H nx Q):WC A (.cond x a b) σ H nx Q:=.cond hx (λe=>by cases e) (λ_=>h)
section ops
variable {l:List (AO×List cz)}{p:Option (List Bool)}{ag:List cz}{op:cr Od}
theorem WO.aeU{g:Nat}{want:Bool}(hg:L[g]?=some (.bool want))(h:WO A ((⟨p,none,op⟩,ag)::l) σ L H nx Q):WO A ((⟨p,some (g,want),op⟩,ag)::l) σ L H nx Q:=
 .guard hg (λ_=>h) (λe=>by cases want<;>cases e)
theorem WO.gNo{g:Nat}{want:Bool}(hg:L[g]?=some (.bool (!want)))(h:WO A l σ (undef::L) H nx Q):WO A ((⟨none,some (g,want),op⟩,[])::l) σ L H nx Q:=
 .guard hg (λe=>by cases want<;>cases e) (λ_=>⟨.nil,h⟩)
theorem WO.ai5{q:List Bool}{g:Nat}{want:Bool}(hg:L[g]?=some (.bool (!want)))(h:WO A l ((q,undef)::σ) (undef::L) H nx Q):WO A ((⟨some q,some (g,want),op⟩,[])::l) σ L H nx Q:=
 .guard hg (λe=>by cases want<;>cases e) (λ_=>⟨.nil,h⟩)
theorem WO.aiW{q:Option (List Bool)}{gw:Nat×Bool}(hw:wanted L (some gw)=false)(h:WO A l (oW q undef σ) (undef::L) H nx Q):WO A ((⟨q,some gw,op⟩,[])::l) σ L H nx Q:=by
 refine⟨λT hT=>?_⟩;obtain⟨m,e,T2,H2,nx2,g1,g2⟩:=h.ends _ (hT.oW q undef);refine⟨m,e,T2,H2,nx2,?_,g2⟩;show _root_.cond (wanted L (some gw)) _ (bX A.P q [] (cx A (run A m) l) T L [] undef H nx)=_;rw[hw];show bX A.P q [] (cx A (run A m) l) T L [] undef H nx=_;unfold bX;rw[jS];exact g1
theorem WO.gUn{g:Nat}{want:Bool}(hg:L[g]?=some undef)(h:WO A l σ (undef::L) H nx Q):WO A ((⟨none,some (g,want),op⟩,[])::l) σ L H nx Q:=
 .aiW (by show D4 want (Lc L g)=false;rw[wW,hg];rfl) h
structure bG(A:aN)(op:cr Od)(σ:aR)(L:List Value)(H:Heap)(nx:Nat)(K:Value->Heap->Nat->Prop):Prop where
 Py:∃v H' nx',Act A op σ L H nx v H' nx'/\K v H' nx'
theorem bG.of{K:Value->Heap->Nat->Prop}{v:Value}(ha:Act A op σ L H nx v H' nx')(h:K v H' nx'):bG A op σ L H nx K:=⟨⟨v,H',nx',ha,h⟩⟩
theorem bG.both{K:Value->Heap->Nat->Prop}{P:Prop}[Decidable P](ha:Act A op σ L H nx (.bool (decide P)) H nx)(h1:P->K (.bool true) H nx)(h2:¬P->K (.bool false) H nx):bG A op σ L H nx K:=by
 refine⟨⟨_,_,_,ha,?_⟩⟩;by_cases h:P
 ·rw[fB h];exact h1 h
 ·rw[im h];exact h2 h
theorem WO.n(hp:op.plain=true)(h:bG A op σ L H nx λv H' nx'=>WO A l σ (v::L) H' nx' Q):WO A ((⟨none,none,op⟩,[])::l) σ L H nx Q:=
 let ⟨_,_,_,ha,hk⟩:=h.Py
 .act hp ha .nil hk
theorem WO.k{q:List Bool}(hp:op.plain=true)(h:bG A op σ L H nx λv H' nx'=>WO A l ((q,v)::σ) (v::L) H' nx' Q):WO A ((⟨some q,none,op⟩,[])::l) σ L H nx Q:=
 let ⟨_,_,_,ha,hk⟩:=h.Py
 .act hp ha .nil hk
theorem WO.cn{g:FuncId}{args:List Od}{vs:List Value}(ha:Az σ L args=some vs)(h:WF A g vs H nx λv H' nx'=>WO A l σ (v::L) H' nx' Q):WO A ((⟨none,none,.call (.fn g) args⟩,[])::l) σ L H nx Q:=
 .call ha (h.mono λ_ _ _ h=>⟨.nil,h⟩)
theorem WO.ck{q:List Bool}{g:FuncId}{args:List Od}{vs:List Value}(ha:Az σ L args=some vs)(h:WF A g vs H nx λv H' nx'=>WO A l ((q,v)::σ) (v::L) H' nx' Q):WO A ((⟨some q,none,.call (.fn g) args⟩,[])::l) σ L H nx Q:=
 .call ha (h.mono λ_ _ _ h=>⟨.nil,h⟩)
theorem WO.ca{g:FuncId}{args:List Od}{vs:List Value}(ha:Az σ L args=some vs)(h:WF A g vs H nx λv H' nx'=>bB A σ (v::L) H' ag/\WO A l σ (v::L) H' nx' Q):WO A ((⟨none,none,.call (.fn g) args⟩,ag)::l) σ L H nx Q:=
 .call ha (h.mono λ_ _ _ h=>h)
theorem WF.of{g:FuncId}{vs:List Value}{Q' Q:Value->Heap->Nat->Prop}(h:WF A g vs H nx Q')(hq:∀v H nx,Q' v H nx->Q v H nx):WF A g vs H nx Q:=h.mono hq
end ops
theorem Rd.self{b:Nat}{cs:List Value}:Rd (aC H b cs) b cs:=.inl (by rw[ak];simp)
theorem Rd.own{b:Nat}{cs:List Value}(h:ah H (at_ b)=some (.cells cs)):Rd H b cs:=.inl h
theorem Rd.skip{b c:Nat}{cs ds:List Value}(h:b≠c)(hr:Rd H b cs):Rd (aC H c ds) b cs:=by
 unfold Rd;rw[ak,aw h];exact hr
theorem aj{b:Nat}{cs:List Value}:ah (aC H b cs) (at_ b)=some (.cells cs):=by rw[ak];simp
theorem ay{b c:Nat}{k:Option jb}{ds:List Value}(h:b≠c)(hr:ah H (at_ b)=k):ah (aC H c ds) (at_ b)=k:=by rw[ak,aw h];exact hr
theorem gD{cs:List Value}{o:Nat}{v:Value}(h:cs[o]?=some v):partOf cs o none=some v:=by
 show AZ (fq cs o)=some v;rw[fw];have:(cs.drop o)[0]?=some v:=by rw[List.getElem?_drop];simpa using h
 cases hd:cs.drop o with
 | nil=>rw[hd]at this;simp at this
 | cons x r=>rw[hd]at this;simpa[AZ]using this
theorem aiR{cs l:List Value}{o n:Nat}(h:take? n (cs.drop o)=some l):partOf cs o (some n)=some (.agg ⟨l⟩):=by
 show Vn (take? n (fq cs o))=_;rw[fw,h];rfl
theorem take?_of:∀(n:Nat) (l:List Value),n<=l.length->take? n l=some (l.take n):=by
 intro n
 induction n with
 | zero=>intro l _;simp;rfl
 | succ n ih=>
  intro l h;cases l with
  | nil=>simp at h
  | cons c l=>
   show (Option.rec none (λr=>some (c::r)) (take? n l):Option (List Value))=_;rw[ih l (by simpa using h)];rfl
def aq(H H':Heap)(nx:Nat):Prop:=∀b,b<nx->ah H' (at_ b)=ah H (at_ b)
theorem aq.refl:aq H H nx:=λ_ _=>rfl
theorem aq.trans{H1 H2:Heap}(h:aq H H1 nx)(h':aq H1 H2 nx')(hn:nx<=nx'):aq H H2 nx:=λb hb=>(h' b (kN hb hn)).trans (h b hb)
theorem aq.low(h:aq H H' nx')(hn:nx<=nx'):aq H H' nx:=λb hb=>h b (kN hb hn)
theorem aq.set{H1:Heap}{b:Nat}{cs:List Value}(h:aq H H1 nx)(hb:nx<=b):aq H (aC H1 b cs) nx:=λc hc=>by rw[ak,aw V];exact h c hc
theorem aq.kill{H1:Heap}{b:Nat}(h:aq H H1 nx)(hb:nx<=b):aq H (Eng.kill H1 b) nx:=λc hc=>by rw[gC,aw V];exact h c hc
theorem aq.rd(h:aq H H' nx){b:Nat}{cs:List Value}(hb:b<nx)(hr:Rd H b cs):Rd H' b cs:=by
 unfold Rd;rw[h b hb];exact hr
def bL{α:Type}(H:Heap)(nx z:Nat)(enc:α->List Value)(v:Value)(xs:List α):Prop:=
 ∃base c,v=.slice base xs.length c/\(base=none->xs=[]/\c=0)/\(∀a,base=some a->(a=⟨0,0,none⟩/\xs=[]/\c=1)\/xs.length<=aF c/\∃b o,a=⟨b,o,some z⟩/\b<nx/\(xs≠[]->∃cs,Rd H b cs/\∀i x,xs[i]?=some x->take? z (cs.drop (o+i*z))=some (enc x)))
theorem bL.same{α:Type}{z:Nat}{enc:α->List Value}{v:Value}{xs:List α}(h:bL H nx z enc v xs)(hs:aq H H' nx):bL H' nx z enc v xs:=by
 obtain⟨base,c,h1,h2,h3⟩:=h;refine⟨base,c,h1,h2,λa ha=>?_⟩;rcases h3 a ha with h0|⟨g1,b,o,g2,g3,g4⟩
 ·exact .inl h0
 refine .inr ⟨g1,b,o,g2,g3,λhx=>?_⟩;obtain⟨cs,q1,q2⟩:=g4 hx;exact⟨cs,hs.rd g3 q1,q2⟩
theorem bL.up{α:Type}{z:Nat}{enc:α->List Value}{v:Value}{xs:List α}(h:bL H nx z enc v xs)(hn:nx<=nx'):bL H nx' z enc v xs:=by
 obtain⟨base,c,h1,h2,h3⟩:=h;refine⟨base,c,h1,h2,λa ha=>?_⟩;rcases h3 a ha with h0|⟨g1,b,o,g2,g3,g4⟩
 ·exact .inl h0
 exact .inr ⟨g1,b,o,g2,kN g3 hn,g4⟩
theorem bL.nil{α:Type}{z:Nat}{enc:α->List Value}:bL H nx z enc (.slice none 0 0) ([]:List α):=⟨none,0,rfl,λ_=>⟨rfl,rfl⟩,λa h=>by cases h⟩
theorem bL.form{α:Type}{z:Nat}{enc:α->List Value}{v:Value}{xs:List α}(h:bL H nx z enc v xs):∃base c,v=.slice base xs.length c:=let ⟨b,c,h1,_⟩:=h;⟨b,c,h1⟩
theorem bL.at{α:Type}{z:Nat}{enc:α->List Value}{base:Option Addr}{n c:Nat}{xs:List α}(h:bL H nx z enc (.slice base n c) xs)(hx:xs≠[]) :
  ∃b o cs,base=some ⟨b,o,some z⟩/\b<nx/\n=xs.length/\xs.length<=aF c/\Rd H b cs/\∀i x,xs[i]?=some x->take? z (cs.drop (o+i*z))=some (enc x):=by
 obtain⟨Pz,c',h1,h2,h3⟩:=h;cases h1;cases base with
 | none=>exact absurd (h2 rfl).1 hx
 | some a=>
  rcases h3 a rfl with⟨_,h0,_⟩|⟨g1,b,o,rfl,g3,g4⟩
  ·exact absurd h0 hx
  obtain⟨cs,q1,q2⟩:=g4 hx;exact⟨b,o,cs,rfl,g3,rfl,g1,q1,q2⟩
def aZ(n:Int):List Value:=[.int .i64 n]
def aW(e:Int×Int):List Value:=[.int .i64 e.1,.int .i64 e.2]
theorem cX{cs:List Value}{o:Nat}{v:Value}(h:take? 1 (cs.drop o)=some [v]):cs[o]?=some v:=by
 obtain⟨h1,h2⟩:=take?_get h;have:=h2 0 V
 simpa using this.symm
theorem J2{cs:List Value}{o:Nat}{v u:Value}(h:take? 2 (cs.drop o)=some [v,u]):cs[o]?=some v/\cs[o+1]?=some u:=by
 obtain⟨h1,h2⟩:=take?_get h;have g1:=h2 0 V;have g2:=h2 1 V;constructor
 ·simpa using g1.symm
 ·simpa[List.getElem?_drop]using g2.symm
end
section
section
variable {P:Program}
theorem jW{α:Type}{t:TypeId}{d:TypeDesc}(h:P.underlying t=some d)(k:TypeDesc->Sem α):quiet P (underlying t >>= k)=quiet P (k d):=by
 have:quiet P (underlying t >>= k)=quiet P ((match P.underlying t with
  | some d=>(pure d:Sem TypeDesc)
  | none=>stuck "no such type") >>= k):=rfl
 rw[this,h];rfl
end
variable {A:aN}{H H':Heap}{nx nx':Nat}{σ:aR}{L:List Value}{Q:cw}
def bP(H:Heap)(nx0 nx z:Nat)(v:Value)(n:Nat)(cs:List Value):Prop:=
 cs.length=n*z/\((v=.slice none 0 0/\n=0)\/∃b,v=.slice (some ⟨b,0,some z⟩) n (2*n)/\nx0<=b/\b<nx/\ah H (at_ b)=some (.cells cs))
theorem bP.nil{nx0 z:Nat}:bP H nx0 nx z (.slice none 0 0) 0 []:=⟨by simp,.inl ⟨rfl,rfl⟩⟩
theorem bP.same{nx0 z n:Nat}{v:Value}{cs:List Value}(h:bP H nx0 nx z v n cs)(hs:aq H H' nx)(hn:nx<=nx'):bP H' nx0 nx' z v n cs:=by
 obtain⟨hl,h|⟨b,h1,h2,h3,h4⟩⟩:=h
 ·exact⟨hl,.inl h⟩
 ·exact⟨hl,.inr ⟨b,h1,h2,kN h3 hn,(hs b h3).trans h4⟩⟩
theorem dL{b z c:Nat}{cs:List Value}(h:Rd H b cs)(hl:cs.length=z):pN H z (.slice (some ⟨b,0,some z⟩) 1 c) 1 cs:=by
 refine .inr (.inl ⟨b,0,c,rfl,.inr ⟨V,cs,h,?_⟩⟩);rw[Nat.one_mul,<-hl];rw[NZ,take?_of _ _ (au _),iJ]
theorem take?_all(cs:List Value):take? cs.length (cs.drop 0)=some cs:=by
 rw[NZ,take?_of _ _ (au _),iJ]
theorem qz(n:Nat):exact (2*n)=false:=by
 unfold exact;have:Nat.mod (2*n) 2=0:=Nat.mul_mod_right 2 n;rw[this];rfl
theorem bT(n:Nat):aF (2*n)=n:=by
 unfold aF;show 2*n / 2=n;omega
theorem bG.push{z by_ n m nx0:Nat}{zero:List Value}{s x:Od}{v xv:Value}{cs new:List Value}{K:Value->Heap->Nat->Prop}(hs:ev σ L s=some v)(hx:ev σ L x=some xv)(hg:bP H nx0 nx z v n cs)(eJ:pN H z xv m new)(hm:m≠0)(hz:0<z)(h1:cq new=true)(gQ:new.length=m*z)(yz:nx0<=nx)(h2:(n+m)*by_<=small)(h3:n+m<=small)(h:∀v' H',bP H' nx0 (nx+1) z v' (n+m) (cs++new)->aq H H' nx0->(∀b,b<nx->(∀c z' k,v≠.slice (some ⟨b,0,z'⟩) k c)->ah H' (at_ b)=ah H (at_ b))->K v' H' (nx+1)):bG A (.app z by_ zero s x false) σ L H nx K:=by
 obtain⟨hl,⟨rfl,rfl⟩|⟨b,rfl,CR,dS,hr⟩⟩:=hg
 ·have:cs=[]:=mM (by rw[hl];simp);subst this;refine .of (.Px hs hx eJ hm hz (by simpa using h2) (by simpa using h3)) (h _ _ ?_ (aq.refl.set yz) λb hb _=>?_)
  ·rw[Nat.zero_add];exact⟨by simpa using gQ,.inr ⟨nx,rfl,yz,V,by rw[ak];simp⟩⟩
  ·rw[ak,aw V]
 ·refine .of (.nQ hs hx eJ hm hz h1 hr (by rw[<-hl];exact take?_all cs) (by rw[bT];omega) (qz n) h2 h3) (h _ _ ?_ ((aq.refl.kill CR).set yz) λb' ia cG=>?_)
  ·exact⟨by rw[cm,hl,gQ,Nat.add_mul],.inr ⟨nx,rfl,yz,V,by rw[ak];simp⟩⟩
  ·have:b'≠b:=λe=>cG _ _ _ (by rw[e])
   rw[ak,aw V,gC,aw this]
theorem bG.Ik{z by_ n m nx0:Nat}{zero:List Value}{s x:Od}{v xv:Value}{cs new:List Value}{K:Value->Heap->Nat->Prop}(hs:ev σ L s=some v)(hx:ev σ L x=some xv)(hg:bP H nx0 nx z v n cs)(eJ:pN H z xv m new)(hz:0<z)(h1:cq new=true)(gQ:new.length=m*z)(yz:nx0<=nx)(h2:(n+m)*by_<=small)(h3:n+m<=small)(h:∀v' H' nx',nx<=nx'->bP H' nx0 nx' z v' (n+m) (cs++new)->aq H H' nx0->(∀b,b<nx->(∀c z' k,v≠.slice (some ⟨b,0,z'⟩) k c)->ah H' (at_ b)=ah H (at_ b))->K v' H' nx'):bG A (.app z by_ zero s x false) σ L H nx K:=by
 by_cases hm:m=0
 ·subst hm;have:new=[]:=mM (by rw[gQ];simp);subst this;have hk:=h v H nx (au _) (by simpa using hg) .refl (λ_ _ _=>rfl);obtain⟨hl,⟨rfl,rfl⟩|⟨b,rfl,CR,dS,hr⟩⟩:=hg
  ·exact .of (.J1 hs hx eJ) hk
  ·exact .of (.TM hs hx eJ hz) hk
 ·exact .push hs hx hg eJ hm hz h1 gQ yz h2 h3 (λv' H' g1 g2 g3=>h v' H' (nx+1) (cE _) g1 g2 g3)
theorem J3{α:Type}{z:Nat}{enc:α->List Value}(he:∀x,(enc x).length=z):∀(ys:List α) (i:Nat) (x:α),ys[i]?=some x->∃l r,ys.flatMap enc=l++enc x++r/\l.length=i*z:=by
 intro ys
 induction ys with
 | nil=>intro i x h;simp at h
 | cons y ys ih=>
  intro i x h;cases i with
  | zero=>
   simp at h;subst h;exact⟨[],ys.flatMap enc,by simp,by simp⟩
  | succ i=>
   obtain⟨l,r,q1,q2⟩:=ih i x (by simpa using h);exact⟨enc y++l,r,by simp[q1],by rw[cm,he,q2,Nat.succ_mul];omega⟩
theorem bL.pre{α:Type}{z b c:Nat}{xs:List α}{enc:α->List Value}{rest:List Value}(hr:Rd H b (xs.flatMap enc++rest))(hb:b<nx)(hc:xs.length<=aF c)(he:∀x,(enc x).length=z):bL H nx z enc (.slice (some ⟨b,0,some z⟩) xs.length c) xs:=by
 refine⟨_,_,rfl,λe=>(by cases e),λa ha=>?_⟩;cases ha;refine .inr ⟨hc,b,0,rfl,hb,λ_=>⟨_,hr,λi x hx=>?_⟩⟩;obtain⟨l,r,q1,q2⟩:=J3 he xs i x hx;rw[q1,Nat.zero_add];have hd:(l++enc x++r++rest).drop (i*z)=enc x++(r++rest):=by rw[<-q2,jj,jj,List.drop_left]
 rw[hd,take?_of _ _ (by rw[cm,he];omega)]
 congr 1
 rw[<-he x,List.take_left]
theorem bP.sle{α:Type}{nx0 z:Nat}{v:Value}{xs:List α}{enc:α->List Value}(h:bP H nx0 nx z v xs.length (xs.flatMap enc))(he:∀x,(enc x).length=z):bL H nx z enc v xs:=by
 obtain⟨hl,⟨rfl,h0⟩|⟨b,rfl,CR,dS,hr⟩⟩:=h
 ·have:xs=[]:=mM h0;subst this;exact .nil
 ·exact .pre (rest:=[]) (.inl (by simpa using hr)) dS (by rw[bT];omega) he
theorem bL.src{α:Type}{z:Nat}{v:Value}{xs:List α}{enc:α->List Value}(h:bL H nx z enc v xs)(he:∀x,(enc x).length=z):pN H z v xs.length (xs.flatMap enc):=by
 obtain⟨base,c,rfl,h2,h3⟩:=h;cases base with
 | none=>
  obtain⟨rfl,rfl⟩:=h2 rfl;exact .inl ⟨0,0,rfl,rfl,rfl⟩
 | some a=>
  rcases h3 a rfl with⟨rfl,rfl,rfl⟩|⟨g1,b,o,rfl,g3,g4⟩
  ·exact .inr (.inr ⟨rfl,rfl,rfl⟩)
  refine .inr (.inl ⟨b,o,c,rfl,?_⟩);by_cases hx:xs=[]
  ·subst hx;exact .inl ⟨rfl,rfl⟩
  ·obtain⟨cs,q1,q2⟩:=g4 hx;refine .inr ⟨λe=>hx (mM e),cs,q1,?_⟩;have key:∀(ys:List α) (o:Nat),(∀i x,ys[i]?=some x->take? z (cs.drop (o+i*z))=some (enc x))->take? (ys.length*z) (cs.drop o)=some (ys.flatMap enc):=by
    intro ys
    induction ys with
    | nil=>intro o _;simp;rfl
    | cons y ys ih=>
     intro o hy;have h0:=hy 0 y rfl;have hr:=ih (o+z) (λi x hx=>by
      have:=hy (i+1) x (by simpa using hx);rw[Nat.succ_mul]at this
      rwa [show o+z+i*z=o+(i*z+z) by omega])
     rw[Nat.zero_mul,Hf]at h0;obtain⟨p1,p2⟩:=take?_eq _ _ _ h0;obtain⟨p3,p4⟩:=take?_eq _ _ _ hr;rw[take?_of _ _ ?_]
     ·congr 1
      rw[hO,Nat.succ_mul,Nat.add_comm,List.take_add,List.flatMap_cons,p1,p3,List.drop_drop]
     ·rw[hO,Nat.succ_mul];simp only[pf]at p2 p4 ⊢;by_cases hy0:ys.length=0
      ·rw[hy0];omega
      ·by_cases zT:z=0
       ·subst zT;omega
       ·have:0<ys.length*z:=Nat.mul_pos V V;omega
   exact key xs o q2
end
end Go.Eng
