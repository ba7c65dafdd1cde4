import Derived.Test.YthbaplapbfbnoaaGreatWd
/- Walks over the program: part 5. -/

set_option maxRecDepth 100000
set_option maxHeartbeats 1000000
namespace Go.Eng
section
structure zq(of far:List Int)(f h:Nat):Prop where
 lt:h<of.length
 at_:fa of h=f
 nr:fr far (fa of (aU h))=fr far f-1
 first:∀j,j<h->fa of j=f->fr far (fa of (aU j))≠fr far f-1
inductive fV (of far:List Int):Nat->List Nat->Prop
 | nil {f:Nat}:fr far f<=0->fV of far f []
 | cons {f h:Nat} {l:List Nat}:0<fr far f->zq of far f h->fV of far (fa of (aU h)) l->fV of far f (h::l)
theorem zq.one{of far:List Int}{f h k:Nat}(a:zq of far f h)(b:zq of far f k):h=k:=by
 rcases Nat.lt_trichotomy h k with c|c|c
 ·exact absurd a.nr (b.first h c a.at_)
 ·exact c
 ·exact absurd b.nr (a.first k c b.at_)
theorem fV.one{of far:List Int}{f:Nat}{l:List Nat}(a:fV of far f l):∀{l':List Nat},fV of far f l'->l=l':=by
 induction a with
 | nil h=>
  intro l' b;cases b with
  | nil=>rfl
  | cons h'=>omega
 | cons h hh _ ih=>
  intro l' b;cases b with
  | nil h'=>omega
  | cons h' Ty w=>
   obtain rfl:=hh.one Ty;rw[ih w]
theorem fV.len{of far:List Int}{f:Nat}{l:List Nat}(a:fV of far f l)(h0:0<=fr far f):(l.length:Int)=fr far f:=by
 induction a with
 | nil h=>show (0:Int)=_;omega
 | cons h hh _ ih=>
  have:=ih (by rw[hh.nr];omega);rw[hh.nr]at this;simp only[hO];omega
theorem Gj{p:Nat->Prop}:∀{n:Nat},(∃h,h<n/\p h)->∃h,h<n/\p h/\∀j,j<h->¬p j:=by
 intro n
 induction n with
 | zero=>rintro⟨h,h1,_⟩;omega
 | succ n ih=>
  rintro⟨h,h1,h2⟩;by_cases c:∃h,h<n/\p h
  ·obtain⟨x,x1,x2,x3⟩:=ih c;exact⟨x,V,x2,x3⟩
  ·have:h=n:=by
    rcases(show h<n\/h=n by omega)with c'|c'
    ·exact absurd ⟨h,c',h2⟩ c
    ·exact c'
   subst this;exact⟨h,V,h2,λj hj hp=>c ⟨j,hj,hp⟩⟩
theorem Zk{of far:List Int}{F:Nat}{T:Nat->Prop}(D:m4 of F T far){f:Nat}(hf:f<F)(h:0<fr far f):∃x,zq of far f x:=by
 obtain⟨x,x1,⟨x2,x3⟩,x4⟩:=Gj (p:=λx=>fa of x=f/\fr far (fa of (aU x))=fr far f-1) (n:=of.length) (by
  obtain⟨y,y1,y2,y3⟩:=D.back f hf h;exact⟨y,y1,y2,y3⟩)
 exact⟨x,x1,x2,x3,λj hj e e'=>x4 j hj ⟨e,e'⟩⟩
def acE(of far:List Int)(U:Nat->Prop)(d:Int)(h:Nat):Prop:=U (fa of h)/\fr far (fa of h)=d/\fr far (fa of (aU h))=d-1
structure il(of far:List Int)(U:Nat->Prop)(f:Nat)(l:List Nat):Prop where
 u:U f
 least:∀g,U g->fr far f<=fr far g
 I8:fV of far f l
 nil:l=[]->∀g,U g->fr far g=fr far f->f<=g
 first:∀h t,l=h::t->∀j,j<h->¬acE of far U (fr far f) j
theorem il.one{of far:List Int}{U:Nat->Prop}{f g:Nat}{l l':List Nat}(a:il of far U f l)(b:il of far U g l'):f=g/\l=l':=by
 have e:fr far f=fr far g:=by
  have:=a.least g b.u;have:=b.least f a.u;omega
 have key:f=g:=by
  cases ha:a.I8 with
  | nil h=>
   cases hb:b.I8 with
   | nil h'=>
    have:=a.nil rfl g b.u e.symm;have:=b.nil rfl f a.u e;omega
   | cons h'=>omega
  | @cons _ x t h hx w=>
   cases hb:b.I8 with
   | nil h'=>omega
   | @cons _ y t' h' hy w'=>
    rcases Nat.lt_trichotomy x y with c|c|c
    ·exact absurd ⟨by rw[hx.at_];exact a.u,by rw[hx.at_];exact e,by rw[hx.nr,e]⟩ (b.first y t' rfl x c)
    ·subst c;rw[<-hx.at_,hy.at_]
    ·exact absurd ⟨by rw[hy.at_];exact b.u,by rw[hy.at_];exact e.symm,by rw[hy.nr,e]⟩ (a.first x t rfl y c)
 subst key;exact⟨rfl,a.I8.one b.I8⟩
theorem RH{α:Type}{P:List α->Prop}(h0:P [])(h1:∀l x,P l->P (l++[x]))(l:List α):P l:=by
 have key:∀l:List α,P l.reverse:=by
  intro l
  induction l with
  | nil=>exact h0
  | cons x l ih=>rw[List.reverse_cons];exact h1 _ _ ih
 have:=key l.reverse
 rwa [List.reverse_reverse]at this
def BV(far:List Int)(I9:Int)(f:Nat):Int:=if I9<0\/fr far f<fr far I9.toNat\/(fr far f=fr far I9.toNat/\(f:Int)<I9)then(f:Int)else I9
def qd(far:List Int)(fs:List Nat):Int:=fs.foldl (BV far) (-1)
theorem zt(far:List Int)(fs:List Nat)(f:Nat):qd far (fs++[f])=BV far (qd far fs) f:=by unfold qd;rw[Hc];rfl
theorem zu(far:List Int):∀(fs:List Nat),(fs=[]/\qd far fs=-1)\/∃b:Nat,qd far fs=(b:Int)/\b∈fs/\∀g∈fs,fr far b<fr far g\/(fr far b=fr far g/\b<=g):=by
 refine RH (.inl ⟨rfl,rfl⟩) (λfs f ih=>?_)
 ·right;rw[zt];unfold BV;rcases ih with⟨rfl,e⟩|⟨b,e,h1,h2⟩
  ·rw[e,aJ (.inl V)];refine⟨f,rfl,by simp,λg hg=>?_⟩;have:g=f:=by simpa using hg
   subst this;omega
  ·rw[e,show ((b:Nat):Int).toNat=b from eE b];by_cases c:(b:Int)<0\/fr far f<fr far b\/(fr far f=fr far b/\(f:Int)<(b:Int))
   ·rw[aJ c];refine⟨f,rfl,by simp,λg hg=>?_⟩;rcases ee.1 hg with hg|hg
    ·have:=h2 g hg;omega
    ·have:g=f:=by simpa using hg
     subst this;omega
   ·rw[aw c];refine⟨b,rfl,by simp[h1],λg hg=>?_⟩;rcases ee.1 hg with hg|hg
    ·exact h2 g hg
    ·have:g=f:=by simpa using hg
     subst this;omega
end
section
def df(of:List Int)(l:List Int):List Nat:=l.map λh=>fa of h.toNat
theorem qO{of l:List Int}{f:Nat}(h:f∈df of l):∃x∈l,fa of x.toNat=f:=by
 obtain⟨x,h1,h2⟩:=pg.1 h;exact⟨x,h1,h2⟩
theorem UO{of l:List Int}{a:Nat}(h:(a:Int)∈l):fa of a∈df of l:=pg.2 ⟨(a:Int),h,by simp⟩
theorem M3{of l l':List Int}(h:l'.Perm l)(f:Nat):f∈df of l'↔f∈df of l:=(h.map _).mem_iff
theorem UP{α:Type}{l:List α}{P:α->Prop}(h:∀x y,qL l x y->P x->P y){x:α}(hx:x∈l)(px:P x):∀y∈l,P y:=by
 obtain⟨s,t,rfl⟩:=List.append_of_mem hx;have h':∀a b,qL (x::t++s) a b->P a->P b:=λa b hs=>h a b hs.swap
 have key:∀(k:Nat) (y:α),(x::t++s)[k]?=some y->P y:=by
  intro k
  induction k with
  | zero=>intro y hy;cases hy;exact px
  | succ k ih=>
   intro y hy;have cg:=(cS.1 hy).1;have hk:k<(x::t++s).length:=V;refine h' _ y (qL.get (k:=k) (aM hk) ?_) (ih _ (aM hk));rw[Nat.mod_eq_of_lt cg];exact hy
 intro y hy;have hm:y∈x::t++s:=by
  simp only[ee,dT]at hy ⊢;rcases hy with h|h|h
  ·exact .inr h
  ·exact .inl (.inl h)
  ·exact .inl (.inr h)
 obtain⟨k,hk,e⟩:=kG hm;exact key k y (by rw[aM hk,e])
theorem m4.nI{of:List Int}{F:Nat}{T T':Nat->Prop}{far:List Int}(h:m4 of F T far)(e:∀f,T f↔T' f):m4 of F T' far:=⟨h.len,h.low,λf hf=>(h.zero f hf).trans (e f),h.back,h.wg⟩
theorem il.nI{of far:List Int}{U U':Nat->Prop}{f:Nat}{l:List Nat}(h:il of far U f l)(e:∀f,U f↔U' f):il of far U' f l:=
 ⟨(e f).1 h.u,λg hg=>h.least g ((e g).2 hg),h.I8,λhl g hg=>h.nil hl g ((e g).2 hg),λx t hl j hj hN=>h.first x t hl j hj ⟨(e _).2 hN.1,hN.2⟩⟩
theorem BW{n:Int}{es:List Ed}{r:List (List Int)}{far:List Int}{u v:Nat}(h0:aH n es r=0)(D:m4 (aG es r) (aP es r).length (λf=>f∈df (aG es r) (r.getD v [])) far)(pY:u≠v)(hr:Reach es u v)(hv:v<r.length) :
  r.getD u []≠[]/\∀f∈df (aG es r) (r.getD u []),0<=fr far f:=by
 obtain⟨ho,qo⟩:=gZ h0;have node:∀(w a:Nat),w<r.length->(a:Int)∈r.getD w []->0<=fr far (fa (aG es r) a)->∀b:Nat,(b:Int)∈r.getD w []->0<=fr far (fa (aG es r) b):=λw a hw ha h0a b hb=>by
  refine UP (P:=λx:Int=>0<=fr far (fa (aG es r) x.toNat)) (λx y hs hx=>?_) ha (by simpa using h0a) (b:Int) hb |> λh=>by simpa using h
  obtain⟨p,rfl,hp,_⟩:=dw h0 hw hs.mem.1;obtain⟨q,rfl,hq,_⟩:=dw h0 hw hs.mem.2;rw[eE]at hx ⊢;have hn:=hs.next h0 hw
  have e:fa (aG es r) (aU p)=fa (aG es r) q:=(wh h0 (bM hp) hq).2 (by rw[<-hn];exact .nx .here);rw[<-e];exact(D.wg p V hx).1
 have all:∀w,Reach es v w->(v=w\/∃a:Nat,w<r.length/\(a:Int)∈r.getD w [])/\∀a:Nat,(a:Int)∈r.getD w []->0<=fr far (fa (aG es r) a):=by
  intro w hw
  induction hw with
  | here=>
   refine⟨.inl rfl,λa ha=>?_⟩;obtain⟨b,e,hb,_⟩:=dw h0 hv ha;obtain rfl:a=b:=V;have:=(D.zero (fa (aG es r) a) (ho.lt V)).2 (UO ha);omega
  | @step b c h1 uD ih=>
   obtain⟨q,q1,q2,q3⟩:=uD;obtain⟨x,x1,x2,x3⟩:=xu h0 q1;obtain⟨y,y1,y2,y3⟩:=xu h0 (bM q1);obtain rfl:x=b:=V;obtain rfl:y=c:=V;have h2:=(D.wg q V (ih.2 q x3)).1;exact⟨.inr ⟨_,y1,y3⟩,λa ha=>node y (aU q) y1 y3 h2 a ha⟩
 obtain⟨h1,h2⟩:=all u hr.symm;rcases h1 with h1|⟨a,h3,h4⟩
 ·exact absurd h1.symm pY
 ·refine⟨λe=>(by rw[e]at h4;cases h4),λf hf=>?_⟩;obtain⟨x,hx,rfl⟩:=qO hf;obtain⟨b,rfl,_,_⟩:=dw h0 h3 hx;rw[eE];exact h2 b hx
def BX(es:List Ed)(r:List (List Int))(u v f:Nat)(l:List Nat):Prop:=
 ∃far,m4 (aG es r) (aP es r).length (λf=>f∈df (aG es r) (r.getD v [])) far/\il (aG es r) far (λf=>f∈df (aG es r) (r.getD u [])) f l/\0<=fr far f
theorem BX.one{n:Int}{es:List Ed}{r:List (List Int)}{u v f g:Nat}{l l':List Nat}(h0:aH n es r=0)(a:BX es r u v f l)(b:BX es r u v g l'):f=g/\l=l':=by
 obtain⟨ho,qo⟩:=gZ h0;obtain⟨fa1,a1,a2,_⟩:=a;obtain⟨fb1,b1,b2,_⟩:=b;have:=a1.one ho qo b1;subst this;exact a2.one b2
theorem BX.len{n:Int}{es:List Ed}{r:List (List Int)}{u v f:Nat}{l:List Nat}(h0:aH n es r=0)(hu:u<r.length)(a:BX es r u v f l):l.length<2*es.length+r.length/\∀h∈l,h<2*es.length:=by
 obtain⟨ho,qo⟩:=gZ h0;obtain⟨far,a1,a2,a3⟩:=a;have hw:=a2.I8.len a3;obtain⟨x,hx,e⟩:=qO a2.u;obtain⟨p,rfl,hp,_⟩:=dw h0 hu hx;rw[eE]at e;have hb:=a1.bound ho qo (f:=f) (by rw[<-e];exact ho.lt V);have:=nK h0;refine⟨V,λh hh=>?_⟩;have key:∀{g t},fV (aG es r) far g t->∀y∈t,y<2*es.length:=by
  intro g t ht
  induction ht with
  | nil=>intro y hy;cases hy
  | cons _ hx _ ih=>
   intro y hy;rcases dT.1 hy with rfl|hy
   ·have:=hx.lt;omega
   ·exact ih y hy
 exact key a2.I8 h hh
end
section
def hC(of l:List Int)(f k:Nat):Bool:=decide (fa of (l.getD ((k+1)%l.length) 0).toNat=f)
def nL(of l:List Int)(f:Nat):Nat:=(List.range l.length).findIdx (hC of l f)
def rB(of l:List Int)(f:Nat):Int:=l.getD (nL of l f) 0
theorem Gk{of l:List Int}{f k:Nat}(hk:k<l.length)(h:hC of l f k=true)(hn:∀j,j<k->hC of l f j=false):nL of l f=k:=by
 unfold nL;rw[List.findIdx_eq (by simpa using hk)];refine⟨by rw[List.getElem_range];exact h,λj hj=>?_⟩;rw[List.getElem_range];exact hn j hj
theorem RI{of l:List Int}{f k:Nat}(hk:k<l.length)(h:hC of l f k=true):nL of l f<l.length/\hC of l f (nL of l f)=true/\∀j,j<nL of l f->hC of l f j=false:=by
 obtain⟨x,x1,x2,x3⟩:=Gj (p:=λk=>hC of l f k=true) (n:=l.length) ⟨k,hk,h⟩;have e:=Gk x1 x2 (λj hj=>by cases h:hC of l f j with|true=>exact absurd h (x3 j hj)|false=>rfl);rw[e];exact⟨x1,x2,λj hj=>by cases h:hC of l f j with|true=>exact absurd h (x3 j hj)|false=>rfl⟩
theorem gW.RJ{n:Int}{es:List Ed}{r:List (List Int)}{w y:Nat}(h0:aH n es r=0)(hy:y<2*es.length)(h:gW es r w y) :
  ∃a:Nat,rB (aG es r) (r.getD w []) (fa (aG es r) y)=(a:Int)/\(r.getD w [])[nL (aG es r) (r.getD w []) (fa (aG es r) y)]?=some (a:Int)/\(a:Int)∈r.getD w []/\a<2*es.length/\Fc (bg es r) (2*es.length) y (aU a)/\(r.getD w [])≠[]/\nL (aG es r) (r.getD w []) (fa (aG es r) y)<(r.getD w []).length/\hC (aG es r) (r.getD w []) (fa (aG es r) y) (nL (aG es r) (r.getD w []) (fa (aG es r) y))=true/\∀j,j<nL (aG es r) (r.getD w []) (fa (aG es r) y)->hC (aG es r) (r.getD w []) (fa (aG es r) y) j=false:=by
 obtain⟨hw,x,hx,hf⟩:=h;have dv:=λz hz=>dw h0 hw (x:=z) hz
 obtain⟨x',ex,V6,_⟩:=dv _ hx;obtain rfl:x=x':=V;have SE:∀k a b:Nat,(r.getD w [])[k]?=some (a:Int)->(r.getD w [])[(k+1)%(r.getD w []).length]?=some (b:Int)->bg es r (aU a)=b:=λk a b h1 h2=>Ge h0 hw h1 h2
 generalize r.getD w []=l at *
 obtain⟨p,hp,ep⟩:=kG hx;have iu:0<l.length:=V;have hq:∃q,q<l.length/\(q+1)%l.length=p:=by
  by_cases c:p=0
  ·exact⟨l.length-1,V,by rw[show l.length-1+1=l.length by omega,Nat.mod_self,c]⟩
  ·exact⟨p-1,V,by rw[show p-1+1=p by omega,Nat.mod_eq_of_lt hp]⟩
 obtain⟨q,vR,CE⟩:=hq;have hP:hC (aG es r) l (fa (aG es r) y) q=true:=by
  unfold hC;refine fB ?_;rw[CE,aY,aM hp,ep];show fa (aG es r) ((x:Nat):Int).toNat=_;rw[eE];exact((wh h0 hy V6).2 hf).symm
 obtain⟨c1,c2,c3⟩:=RI vR hP;unfold rB;generalize nL (aG es r) l (fa (aG es r) y)=k at *
 have kF:=aM c1;obtain⟨a,ea,qi,_⟩:=dv _ (jE c1);have hm:(k+1)%l.length<l.length:=Nat.mod_lt _ iu;have Ht:=aM hm;obtain⟨b,eb,pI,_⟩:=dv _ (jE hm);rw[ea]at kF;rw[eb]at Ht;have e1:=SE k a b kF Ht;have e2:fa (aG es r) b=fa (aG es r) y:=by
  unfold hC at c2;rw[aY,Ht]at c2;have:=of_decide_eq_true c2
  simpa using this
 have hyb:=(wh h0 hy pI).1 e2.symm;refine⟨a,by rw[aY,kF];rfl,kF,dM kF,qi,.pv (bM qi) (by rw[e1];exact hyb),λe=>(by rw[e]at iu;simp at iu),c1,c2,c3⟩
abbrev xx:Type:=List Ed×List (List Int)
def dH(n:Int)(es:List Ed)(r:List (List Int))(l:List Nat):Nat->xx
 | 0=>(es,cV r)
 | i+1=>(dW (n+(i:Int)) (dH n es r l i).1 (l.getD i 0 / 2),kC (dH n es r l i).1.length (l.getD i 0 / 2) (dH n es r l i).2)
noncomputable def tX(s:xx)(v w y:Nat):xx:=
 (s.1++[((v:Int),(w:Int))],oD s.1.length s.2 v (rB (aG s.1 s.2) (s.2.getD v []) (fa (aG s.1 s.2) y)) w (rB (aG s.1 s.2) (s.2.getD w []) (fa (aG s.1 s.2) y)))
noncomputable def dI(s:xx)(st ys:List Nat):Nat->xx
 | 0=>s
 | i+1=>tX (dI s st ys i) (st.getD i 0) (st.getD (i+1) 0) (ys.getD i 0)
theorem lV(s:xx)(st ys:List Nat):∀i,(dI s st ys i).1.length=s.1.length+i/\(dI s st ys i).2.length=s.2.length:=by
 intro i
 induction i with
 | zero=>exact⟨rfl,rfl⟩
 | succ i ih=>
  refine⟨?_,?_⟩
  ·show ((dI s st ys i).1++[_]).length=_;rw[cm,ih.1];simp only[List.length_singleton];omega
  ·show (oD _ _ _ _ _ _).length=_;rw[tU,ih.2]
theorem jy(n:Int)(es:List Ed)(r:List (List Int))(l:List Nat):∀i,(dH n es r l i).1.length=es.length+i/\(dH n es r l i).2.length=r.length+i:=by
 intro i
 induction i with
 | zero=>exact⟨rfl,fX r⟩
 | succ i ih=>
  show (dW _ _ _).length=_/\(kC _ _ _).length=_;rw[jx,nJ,ih.1,ih.2];omega
structure RK(n:Int)(s:xx)(st ys:List Nat)(K i:Nat):Prop where
 zi:aH n s.1 s.2=0
 QT:s.1.length+(K-i)<=3072
 lt:∀j,i<=j->j<K->ys.getD j 0<2*s.1.length
 a:∀j,i<=j->j<K->gW s.1 s.2 (st.getD j 0) (ys.getD j 0)
 b:∀j,i<=j->j<K->gW s.1 s.2 (st.getD (j+1) 0) (ys.getD j 0)
 ne:∀j,i<=j->j<K->st.getD j 0≠st.getD (j+1) 0
 apart:∀j k,i<=j->j<k->k<K->¬Fc (bg s.1 s.2) (2*s.1.length) (ys.getD j 0) (ys.getD k 0)
theorem gW.to{es:List Ed}{r:List (List Int)}{w x y:Nat}{n:Int}(h0:aH n es r=0)(hx:x<2*es.length)(h:gW es r w x)(e:Fc (bg es r) (2*es.length) x y):gW es r w y:=by
 obtain⟨h1,k,h2,h3⟩:=h;exact⟨h1,k,h2,(e.symm (gU h0) hx).trans h3⟩
theorem RK.next{n:Int}{s:xx}{st ys:List Nat}{K i:Nat}(h:RK n s st ys K i)(hi:i<K):RK n (tX s (st.getD i 0) (st.getD (i+1) 0) (ys.getD i 0)) st ys K (i+1)/\∀x z,x<2*s.1.length->¬Fc (bg s.1 s.2) (2*s.1.length) (ys.getD i 0) x->
  (Fc (bg (tX s (st.getD i 0) (st.getD (i+1) 0) (ys.getD i 0)).1 (tX s (st.getD i 0) (st.getD (i+1) 0) (ys.getD i 0)).2) (2*(s.1.length+1)) x z↔Fc (bg s.1 s.2) (2*s.1.length) x z):=by
 obtain⟨es,r⟩:=s;obtain⟨h1,h2,h3,h4,h5,h6,h7⟩:=h;simp only at h1 h2 h3 h4 h5 h7 ⊢;have hy:=h3 i (au _) hi;have hA:=h4 i (au _) hi;have hB:=h5 i (au _) hi;have cG:=h6 i (au _) hi;have hl:=(bR h1).2.1;obtain⟨a,ea,_,am,al,af,_⟩:=hA.RJ h1 hy;obtain⟨b,eb,_,bm,bl,bf,_⟩:=hB.RJ h1 hy;have hv:=hA.1;have hw:=hB.1;unfold tX;simp only;rw[ea,eb];generalize st.getD i 0=v at *
 generalize st.getD (i+1) 0=w at *
 have dx:es.length<3072:=V;have hvn:(v:Int)<n:=V;have YW:(w:Int)<n:=V;have L:=Gh h1 hvn YW dx cG am bm;have cg:=gU h1;have oX:(es++[((v:Int),(w:Int))]).length=es.length+1:=by rw[cm];rfl
 have hfc:∀x z,x<2*es.length->¬Fc (bg es r) (2*es.length) (ys.getD i 0) x->(Fc (bg (es++[((v:Int),(w:Int))]) (oD es.length r v a w b)) (2*(es.length+1)) x z↔Fc (bg es r) (2*es.length) x z):=λx z hx hn=>RD L cg hy af bf hx hn
 refine⟨⟨RB h1 hvn YW dx,by show (es++_).length+_<=_;rw[oX];omega,λj hj hk=>?_,λj hj hk=>?_,λj hj hk=>?_,λj hj hk=>h6 j V hk,λj k hj hjk hk=>?_⟩,hfc⟩
 ·show _<2*(es++_).length;rw[oX];have:=h3 j V hk;omega
 ·exact(h4 j V hk).lay h1 hvn YW dx cG am bm hy af bf (h3 j V hk) (h7 i j (au _) V hk)
 ·exact(h5 j V hk).lay h1 hvn YW dx cG am bm hy af bf (h3 j V hk) (h7 i j (au _) V hk)
 ·show ¬Fc _ (2*(es++_).length) _ _;rw[oX,hfc _ _ (h3 j V V) (h7 i j (au _) V V)];exact h7 j k V hjk hk
theorem RK.at{n:Int}{s:xx}{st ys:List Nat}{K:Nat}(h:RK n s st ys K 0):∀i,i<=K->RK n (dI s st ys i) st ys K i:=by
 intro i
 induction i with
 | zero=>exact λ_=>h
 | succ i ih=>exact λhi=>((ih V).next V).1
theorem RK.same{n:Int}{s:xx}{st ys zs:List Nat}{K:Nat}(h:RK n s st ys K 0)(he:∀j,j<K->zs.getD j 0<2*s.1.length/\Fc (bg s.1 s.2) (2*s.1.length) (ys.getD j 0) (zs.getD j 0)):∀i,i<=K->dI s st zs i=dI s st ys i:=by
 have key:∀i,i<=K->dI s st zs i=dI s st ys i/\∀j,i<=j->j<K->zs.getD j 0<2*(dI s st ys i).1.length/\Fc (bg (dI s st ys i).1 (dI s st ys i).2) (2*(dI s st ys i).1.length) (ys.getD j 0) (zs.getD j 0):=by
  intro i
  induction i with
  | zero=>exact λ_=>⟨rfl,λj _ hk=>he j hk⟩
  | succ i ih=>
   intro hi;obtain⟨e,hf⟩:=ih V;have C:=h.at i V;obtain⟨C1,C2⟩:=C.next V
   have oX:=(lV s st ys i).1;have agh:=(lV s st ys (i+1)).1;refine⟨?_,λj hj hk=>?_⟩
   ·show tX _ _ _ _=tX _ _ _ _;rw[e];obtain⟨z1,z2⟩:=hf i (au _) V;have:=(wh C.zi (C.lt i (au _) V) z1).2 z2;unfold tX;rw[this]
   ·obtain⟨z1,z2⟩:=hf j V hk;refine⟨V,?_⟩;have:=(C2 _ (zs.getD j 0) (C.lt j V hk) (C.apart i j (au _) V hk)).2 z2;show Fc (bg (tX _ _ _ _).1 (tX _ _ _ _).2) (2*(dI s st ys (i+1)).1.length) _ _;rw[agh,show s.1.length+(i+1)=(dI s st ys i).1.length+1 by omega];exact this
 exact λi hi=>(key i hi).1
end
section
def oP(of:List Int)(f:Nat)(l:List Nat):List Nat:=f::l.map λh=>fa of (aU h)
theorem KY(of:List Int)(f:Nat)(l:List Nat):(oP of f l).length=l.length+1:=by unfold oP;simp
theorem UQ{of far:List Int}{f:Nat}{l:List Nat}(a:fV of far f l):∀i,i<=l.length->fr far ((oP of f l).getD i 0)=fr far f-(i:Int)/\(i<l.length->fa of (l.getD i 0)=(oP of f l).getD i 0/\l.getD i 0<of.length/\fa of (aU (l.getD i 0))=(oP of f l).getD (i+1) 0):=by
 induction a with
 | @nil f h=>
  intro i hi;obtain rfl:i=0:=by simpa using hi
  exact⟨by show fr far f=fr far f-((0:Nat):Int);omega,λh=>absurd h (by simp)⟩
 | @cons f h l hp hx w ih=>
  intro i hi;cases i with
  | zero=>exact⟨by show fr far f=fr far f-((0:Nat):Int);omega,λ_=>⟨hx.at_,hx.lt,rfl⟩⟩
  | succ i=>
   obtain⟨g1,g2⟩:=ih i (by simpa using hi);have e:∀j,(oP of f (h::l)).getD (j+1) 0=(oP of (fa of (aU h)) l).getD j 0:=λj=>rfl
   refine⟨?_,λhl=>?_⟩
   ·rw[e,g1,hx.nr];omega
   ·exact g2 (by simpa using hl)
def stops(n u v k:Nat):List Nat:=u::((List.range k).map (λi=>n+i)++[v])
theorem UR(n u v k:Nat):(stops n u v k).getD 0 0=u:=rfl
theorem lW{n u v k i:Nat}(h:i<k):(stops n u v k).getD (i+1) 0=n+i:=by
 show (_++_:List Nat).getD i 0=_;rw[aY,eC (by simpa using h),eD,wz h];rfl
theorem xy(n u v k:Nat):(stops n u v k).getD (k+1) 0=v:=by
 show (_++_:List Nat).getD k 0=_;rw[aY,aiQ (by simp)];simp
structure Ys(es:List Ed)(r:List (List Int))(f:Nat)(l ys:List Nat):Prop where
 lt:∀i,i<=l.length->ys.getD i 0<2*es.length
 at_:∀i,i<=l.length->fa (aG es r) (ys.getD i 0)=(oP (aG es r) f l).getD i 0
structure SpI(n:Nat)(es:List Ed)(r:List (List Int))(l:List Nat)(i:Nat)(s:xx):Prop where
 zi:aH ((n+i:Nat):Int) s.1 s.2=0
 fc:∀h k,h<2*es.length->k<2*es.length->(Fc (bg s.1 s.2) (2*s.1.length) h k↔Fc (bg es r) (2*es.length) h k)
 has:∀w y,y<2*es.length->gW es r w y->gW s.1 s.2 w y
 new:∀j,j<i->gW s.1 s.2 (n+j) (l.getD j 0)/\gW s.1 s.2 (n+j) (aU (l.getD j 0))
theorem Dx{n:Nat}{es:List Ed}{r:List (List Int)}{l:List Nat}(h0:aH (n:Int) es r=0)(hl:∀j,j<l.length->l.getD j 0<2*es.length)(hn:n+l.length<=1024)(hm:es.length+l.length<=3072):∀i,i<=l.length->SpI n es r l i (dH n es r l i):=by
 intro i
 induction i with
 | zero=>
  intro _;exact⟨j3 h0,λh k hh _=>Gf h0 hh,λw y hy h=>h.canon h0 hy,λj hj=>by omega⟩
 | succ i ih=>
  intro hi;obtain⟨I1,I2,I3,I4⟩:=ih V;obtain⟨e1,e2⟩:=jy n es r l i;have oY:=(bR h0).2.1;have hli:=hl i V;have e3:dH n es r l (i+1)=(dW ((n+i:Nat):Int) (dH n es r l i).1 (l.getD i 0 / 2),kC (dH n es r l i).1.length (l.getD i 0 / 2) (dH n es r l i).2):=rfl;have Tm:∀j,j<=i->l.getD j 0<2*es.length:=λj hj=>hl j V
  rw[e3];generalize hs:dH n es r l i=s at *
  obtain⟨es',r'⟩:=s;simp only at I1 I2 I3 I4 e1 e2 ⊢;have Wh:l.getD i 0 / 2<es'.length:=V;have GW:((n+i:Nat):Int)<1024:=V;have Ck:es'.length<3072:=V;have gQ:=gW.new I1 Wh GW Ck;rw[show r'.length=n+i by omega]at gQ;have hR:=KW I1 Wh GW Ck;have e4:((n+i:Nat):Int)+1=((n+(i+1):Nat):Int):=V;rw[e4]at hR;refine⟨hR,λh k hh hk=>?_,λw y hy h=>(I3 w y hy h).spl I1 Wh GW Ck V,λj hj=>?_⟩
  ·rw[RF I1 Wh GW Ck V V];exact I2 h k hh hk
  ·rcases(show j<i\/j=i by omega)with c|rfl
   ·obtain⟨g1,g2⟩:=I4 j c;have:=Tm j V;exact⟨g1.spl I1 Wh GW Ck V,g2.spl I1 Wh GW Ck (by have:=bM this;omega)⟩
   ·rcases Nat.mod_two_eq_zero_or_one (l.getD j 0)with c|c
    ·rw[show aU (l.getD j 0)=2*(l.getD j 0 / 2)+1 by rw[iH];omega];refine⟨?_,gQ.2⟩;have h1:=gQ.1;have e5:2*(l.getD j 0 / 2)=l.getD j 0:=V;generalize l.getD j 0 / 2=q at *
     rwa [e5]at h1
    ·rw[show aU (l.getD j 0)=2*(l.getD j 0 / 2) by rw[iH];omega];refine⟨?_,gQ.1⟩;have h2:=gQ.2;have e5:2*(l.getD j 0 / 2)+1=l.getD j 0:=V;generalize l.getD j 0 / 2=q at *
     rwa [e5]at h2
theorem BX.far{n:Int}{es:List Ed}{r:List (List Int)}{u v f:Nat}{l:List Nat}(h0:aH n es r=0)(D:BX es r u v f l):∃far,m4 (aG es r) (aP es r).length (λf=>f∈df (aG es r) (r.getD v [])) far/\f∈df (aG es r) (r.getD u [])/\(∀i,i<=l.length->fr far ((oP (aG es r) f l).getD i 0)=(l.length:Int)-(i:Int))/\(∀i,i<l.length->fa (aG es r) (l.getD i 0)=(oP (aG es r) f l).getD i 0/\l.getD i 0<2*es.length/\fa (aG es r) (aU (l.getD i 0))=(oP (aG es r) f l).getD (i+1) 0):=by
 obtain⟨ho,qo⟩:=gZ h0;obtain⟨far,a1,a2,a3⟩:=D;have hw:=UQ a2.I8;have uo:=a2.I8.len a3;refine⟨far,a1,a2.u,λi hi=>by rw[(hw i hi).1];omega,λi hi=>?_⟩;obtain⟨g1,g2,g3⟩:=(hw i V).2 hi;exact⟨g1,V,g3⟩
theorem mL{n u v f:Nat}{es:List Ed}{r:List (List Int)}{l ys:List Nat}(h0:aH (n:Int) es r=0)(D:BX es r u v f l)(hu:u<n)(hv:v<n)(pY:u≠v)(Y:Ys es r f l ys)(hn:n+l.length<=1024)(hm:es.length+(2*l.length+1)<=3072) :
  RK ((n+l.length:Nat):Int) (dH n es r l l.length) (stops n u v l.length) ys (l.length+1) 0:=by
 obtain⟨far,d1,d2,d3,d4⟩:=D.far h0;obtain⟨ho,qo⟩:=gZ h0;have oY:=(bR h0).2.1;obtain⟨S1,S2,S3,S4⟩:=Dx h0 (λj hj=>(d4 j hj).2.1) hn V l.length (au _);obtain⟨e1,e2⟩:=jy n es r l l.length;generalize dH n es r l l.length=s at *
 have IL:∀w x j,j<=l.length->x<2*es.length->gW s.1 s.2 w x->fa (aG es r) x=(oP (aG es r) f l).getD j 0->gW s.1 s.2 w (ys.getD j 0):=λw x j hj hx h e=>by
  refine h.to S1 V ((S2 _ _ hx (Y.lt j hj)).2 ((wh h0 hx (Y.lt j hj)).1 ?_));rw[e,Y.at_ j hj]
 have zV:∀w j,w<n->j<=l.length->(oP (aG es r) f l).getD j 0∈df (aG es r) (r.getD w [])->gW s.1 s.2 w (ys.getD j 0):=λw j hw hj h=>by
  obtain⟨x,hx,e⟩:=qO h;obtain⟨a,rfl,qi,_⟩:=dw h0 V hx;rw[eE]at e;exact IL w a j hj qi (S3 w a qi ⟨V,a,hx,.here⟩) e
 refine⟨S1,V,λj _ hj=>by have:=Y.lt j V;omega,λj _ hj=>?_,λj _ hj=>?_,λj _ hj=>?_,λj k _ hjk hk hf=>?_⟩
 ·cases j with
  | zero=>exact zV u 0 hu V d2
  | succ j=>
   rw[lW V];obtain⟨_,g2,g3⟩:=d4 j V;exact IL _ _ (j+1) V (bM g2) (S4 j V).2 g3
 ·by_cases c:j<l.length
  ·rw[lW c];obtain⟨g1,g2,_⟩:=d4 j c;exact IL _ _ j V g2 (S4 j c).1 g1
  ·obtain rfl:j=l.length:=V;rw[xy];refine zV v _ hv (au _) ?_;have:=d3 l.length (au _);refine(d1.zero _ ?_).1 V;have hy:=Y.at_ l.length (au _);rw[<-hy];exact ho.lt (by have:=Y.lt l.length (au _);omega)
 ·cases j with
  | zero=>
   rw[UR];by_cases c:0<l.length
   ·rw[lW c];omega
   ·have hl0:l.length=0:=V;have:=xy n u v l.length;rw[hl0]at this ⊢;rw[this];exact pY
  | succ j=>
   rw[lW V];by_cases c:j+1<l.length
   ·rw[lW c];omega
   ·have:j+1=l.length:=V;rw[this,xy];omega
 ·have h1:=(S2 _ _ (Y.lt j V) (Y.lt k V)).1 hf;have h2:=(wh h0 (Y.lt j V) (Y.lt k V)).2 h1;rw[Y.at_ j V,Y.at_ k V]at h2;have h3:=d3 j V;have h4:=d3 k V;rw[h2]at h3;omega
theorem Ja{n u v f:Nat}{es:List Ed}{r:List (List Int)}{l ys zs:List Nat}(h0:aH (n:Int) es r=0)(D:BX es r u v f l)(hu:u<n)(hv:v<n)(pY:u≠v)(Y:Ys es r f l ys)(Z:Ys es r f l zs)(hn:n+l.length<=1024)(hm:es.length+(2*l.length+1)<=3072) :
  ∀i,i<=l.length+1->dI (dH n es r l l.length) (stops n u v l.length) zs i=dI (dH n es r l l.length) (stops n u v l.length) ys i:=by
 obtain⟨far,d1,d2,d3,d4⟩:=D.far h0;have S:=Dx h0 (λj hj=>(d4 j hj).2.1) hn V l.length (au _);obtain⟨e1,e2⟩:=jy n es r l l.length;refine(mL h0 D hu hv pY Y hn hm).same λj hj=>?_
 have y1:=Y.lt j V;have z1:=Z.lt j V;refine⟨V,(S.fc _ _ y1 z1).2 ((wh h0 y1 z1).1 ?_)⟩;rw[Y.at_ j V,Z.at_ j V]
end
section
variable {A:aN}{H H':Heap}{nx nx':Nat}{σ:aR}{L:List Value}{Q:cw}
structure Sk(H:Heap)(nx b:Nat)(n:Int)(ev rv:Value)(u v:Nat)(r:List (List Int))(of far:List Int)(ob oc fb fc:Nat):Prop where
 lt:b<nx
 cell:ah H (at_ b)=some (.cells [.int .i64 n,ev,rv,.slice (some ⟨ob,0,some 1⟩) of.length oc,.slice (some ⟨fb,0,some 1⟩) far.length fc,.int .i64 (u:Int),.int .i64 (v:Int)])
 ol:ob<nx
 fl:fb<nx
 ofs:aB H ob of
 agi:aB H fb far
 rows:er H nx 1 aZ rv r
 acF:of.length<=aF oc
theorem Sk.frame{b u v ob oc fb fc:Nat}{n:Int}{ev rv:Value}{r:List (List Int)}{of far:List Int}(h:Sk H nx b n ev rv u v r of far ob oc fb fc)(hs:aq H H' nx)(hn:nx<=nx'):Sk H' nx' b n ev rv u v r of far ob oc fb fc:=
 ⟨kN h.lt hn,(hs b h.lt).trans h.cell,kN h.ol hn,kN h.fl hn,(hs ob h.ol).trans h.ofs,(hs fb h.fl).trans h.agi,(h.rows.same hs).up hn,h.acF⟩
structure Zl(m F u:Nat)(r:List (List Int))(of far:List Int):Prop where
 ofl:of.length=2*m
 ml:m<=3072
 ok:sq of F
 Zm:far.length=F
 fl:F<=1048576
 low:∀f,-1<=fr far f
 high:∀f,fr far f<=1048576
 ul:u<r.length
 rl:r.length<=1048576
 rows:∀w,(r.getD w []).length<=1048576
 row:∀w,w<r.length->∀x∈r.getD w [],∃a:Nat,x=(a:Int)/\a<of.length
theorem M4(E:eA A){b u v ob oc fb fc pb qb y f m F:Nat}{n:Int}{ev rv:Value}{r:List (List Int)}{of far:List Int}(hk:Sk H nx b n ev rv u v r of far ob oc fb fc)(g:Zl m F u r of far)(hp:ah H (at_ pb)=some (.cells [.pointer (some ⟨b,0,none⟩)]))(hq:ah H (at_ qb)=some (.cells [.int .i64 (f:Int)]))(hh:y<of.length) :
  WF A 117 [.int .i64 (y:Int),.pointer (some ⟨pb,0,none⟩),.pointer (some ⟨qb,0,none⟩)] H nx λx H' nx'=>H'=H/\nx'=nx/\x=.bool (decide (fa of y=f)):=by
 obtain⟨hb,hc,si,NM,mK,wQ,hr,uj⟩:=id hk;have q1:=aB.cell (g.ok.get hh);have Gl:ah H (at_ ob)=some (.cells (of.map (.int .i64))):=mK;have Xq:=g.ml;have Dy:=g.ofl;refine WF.enter (E.h rfl _ _ _) E.V2 ?_
 repeat' (first|refine aE ?_|(refine bJ ?_ ?_<;>intro h<;>(try simp only[aL]at h))|fail)
 ·refine aD (vs:=[_]) rfl ⟨rfl,rfl,by rw[fB (show fa of y=f by omega)];rfl⟩
 ·refine aD (vs:=[_]) rfl ⟨rfl,rfl,by rw[im (show ¬fa of y=f by omega)];rfl⟩
theorem Gm(E:eA A){b u v ob oc fb fc pb qb f m F:Nat}{n:Int}{ev rv lv:Value}{r:List (List Int)}{of far l:List Int}(hk:Sk H nx b n ev rv u v r of far ob oc fb fc)(g:Zl m F u r of far)(hp:ah H (at_ pb)=some (.cells [.pointer (some ⟨b,0,none⟩)]))(hq:ah H (at_ qb)=some (.cells [.int .i64 (f:Int)]))(hl:bL H nx 1 aZ lv l)(hm:l.length<=1048576)(hr:∀x∈l,∃a:Nat,x=(a:Int)/\a<of.length) :
  WF A 130 [lv,.func (.func 117) ⟨[]⟩ ⟨[.pointer (some ⟨pb,0,none⟩),.pointer (some ⟨qb,0,none⟩)]⟩] H nx λx H' nx'=>H'=H/\nx'=nx/\((∃i:Nat,x=.int .i64 (i:Int)/\f∈df of l)\/(x=.int .i64 (-1)/\f∉df of l)):=by
 obtain⟨lb,lc,rfl⟩:=hl.form;refine WF.enter (E.h rfl _ _ _) E.Kl ?_
 repeat' (first|refine aE ?_|fail)
 refine WC.loop (α:=Nat) (λk=>[([],.slice lb l.length lc),(S1,.func (.func 117) ⟨[]⟩ ⟨[.pointer (some ⟨pb,0,none⟩),.pointer (some ⟨qb,0,none⟩)]⟩),(S7,.int .i64 ((l.length:Nat):Int)),(S8,.int .i64 ((k:Nat):Int))])
  (λk H' nx'=>k<=l.length/\H'=H/\nx'=nx/\∀i x,i<k->l[i]?=some x->fa of x.toNat≠f) (λk=>l.length-k)
  ?_ 0 aX ⟨bS _,rfl,rfl,λi x hi=>by omega⟩
 rintro k _ _ ⟨iS,rfl,rfl,gu⟩
 repeat' (first|refine aE ?_|(refine bJ ?_ ?_<;>intro h<;>(try simp only[aL]at h))|fail)
 ·have bQ:k<l.length:=V;obtain⟨bb,bo,tN,rfl,iy,_,_,G2,jC⟩:=hl.at (by intro e;rw[e]at bQ;simp at bQ);have gY:=aM bQ;obtain⟨a,ha,qi⟩:=hr _ (dM gY);rw[ha]at gY;have q1:=cX (v:=.int .i64 (a:Int)) (jC k _ gY)
  repeat' (first|refine aE ?_|fail)
  refine WO.VK rfl rfl ?_;refine(M4 E hk g hp hq qi).of ?_;rintro _ _ _ ⟨rfl,rfl,rfl⟩;refine⟨.nil,?_⟩;by_cases c:fa of a=f
  ·rw[fB c]
   repeat' (first|refine aE ?_|fail)
   exact aD (vs:=[_]) rfl ⟨rfl,rfl,.inl ⟨k,rfl,pg.2 ⟨(a:Int),dM gY,by simpa using c⟩⟩⟩
  ·rw[im c]
   repeat' (first|refine aE ?_|fail)
   refine⟨k+1,V,aX,V,rfl,rfl,λi x hi hx=>?_⟩;rcases(show i<k\/i=k by omega)with h2|rfl
   ·exact gu i x h2 hx
   ·rw[gY]at hx;cases hx;simpa using c
 ·refine aD (vs:=[_]) rfl ⟨rfl,rfl,.inr ⟨rfl,λhx=>?_⟩⟩;obtain⟨x,hx,e⟩:=pg.1 hx;obtain⟨i,hi,e2⟩:=kG hx;exact gu i x V (by rw[aM hi,e2]) e
theorem RM(E:eA A){b u v ob oc fb fc f m F:Nat}{n:Int}{ev rv:Value}{r:List (List Int)}{of far:List Int}(hk:Sk H nx b n ev rv u v r of far ob oc fb fc)(g:Zl m F u r of far) :
  WF A 93 [.pointer (some ⟨b,0,none⟩),.int .i64 (f:Int)] H nx λx H' nx'=>aq H H' nx/\nx<=nx'/\x=.bool (decide (f∈df of (r.getD u []))):=by
 obtain⟨rb,rc,rfl⟩:=hk.rows.form;have bF:aq H (aC (aC H nx [.pointer (some ⟨b,0,none⟩)]) (nx+1) [.int .i64 (f:Int)]) nx:=(aq.refl.set (au _)).set V;have hk0:=hk.frame (nx':=nx+1+1) bF V;have iF:=g.ul;have oY:=g.rl;obtain⟨hb,hc,si,NM,mK,wQ,hr,uj⟩:=id hk;have mI:r.getD u []=r[u]:=by rw[aY,aM iF];rfl
 obtain⟨bb,bo,tN,ib,ic,rfl,iy,jz,bH,hi⟩:=hr.at iF;rw[<-mI]at bH hi;refine WF.enter (E.h rfl _ _ _) E.ace ?_
 repeat' (first|refine aE ?_|fail)
 refine WO.n rfl ?_;refine bG.of (Act.B8 rfl rfl) ?_;have hcf:WF A 116 [.slice ib (r.getD u []).length ic,.func (.func 117) ⟨[]⟩ ⟨[.pointer (some ⟨nx,0,none⟩),.pointer (some ⟨nx+1,0,none⟩)]⟩] (aC (aC H nx [.pointer (some ⟨b,0,none⟩)]) (nx+1) [.int .i64 (f:Int)]) (nx+1+1) λx H' nx'=>H'=aC (aC H nx [.pointer (some ⟨b,0,none⟩)]) (nx+1) [.int .i64 (f:Int)]/\nx'=nx+1+1/\x=.bool (decide (f∈df of (r.getD u []))):=by
  refine WF.enter (E.h rfl _ _ _) E.Qz ?_
  repeat' (first|refine aE ?_|fail)
  refine WO.cn rfl ?_;refine(Gm E hk0 g (pb:=nx) (qb:=nx+1) (f:=f) (ay V aj) aj ((hi.same bF).up V) (g.rows u) (g.row u iF)).of ?_;rintro _ _ _ ⟨rfl,rfl,⟨i,rfl,hm⟩|⟨rfl,hm⟩⟩
  ·repeat' (first|refine aE ?_|(refine bJ ?_ ?_<;>intro h<;>(try simp only[aL]at h))|fail)
   ·exact aD (vs:=[_]) rfl ⟨rfl,rfl,by rw[fB hm];rfl⟩
   ·exfalso;omega
  ·repeat' (first|refine aE ?_|(refine bJ ?_ ?_<;>intro h<;>(try simp only[aL]at h))|fail)
   ·exfalso;omega
   ·exact aD (vs:=[_]) rfl ⟨rfl,rfl,by rw[im hm];rfl⟩
 refine WO.cn rfl ?_;refine hcf.of ?_;rintro _ _ _ ⟨rfl,rfl,rfl⟩
 repeat' (first|refine aE ?_|fail)
 exact aD (vs:=[_]) rfl ⟨bF,V,rfl⟩
end
section
variable {A:aN}{H H':Heap}{nx nx':Nat}{σ:aR}{L:List Value}{Q:cw}
theorem vq(of:List Int)(l:List Int){k:Nat}{a:Nat}(h:l[k]?=some (a:Int)):df of (l.take (k+1))=df of (l.take k)++[fa of a]:=by
 unfold df;rw[List.take_add_one,h,jG];simp
theorem zw(E:eA A){b u v ob oc fb fc m F:Nat}{n:Int}{ev rv:Value}{r:List (List Int)}{of far:List Int}(hk:Sk H nx b n ev rv u v r of far ob oc fb fc)(g:Zl m F u r of far) :
  WF A 33 [.pointer (some ⟨b,0,none⟩)] H nx λx H' nx'=>H'=H/\nx'=nx/\x=.int .i64 (qd far (df of (r.getD u []))):=by
 obtain⟨rb,rc,rfl⟩:=hk.rows.form;have iF:=g.ul;have oY:=g.rl;have Xq:=g.ml;have Dy:=g.ofl;have oJ:=g.fl;have Wj:=g.Zm;obtain⟨hb,hc,si,NM,mK,wQ,hr,uj⟩:=id hk;have mI:r.getD u []=r[u]:=by rw[aY,aM iF];rfl
 obtain⟨bb,bo,tN,ib,ic,rfl,iy,jz,bH,hi⟩:=hr.at iF;rw[<-mI]at bH hi;have wP:=g.rows u;have dv:=g.row u iF;generalize r.getD u []=l at *
 have Gl:ah H (at_ ob)=some (.cells (of.map (.int .i64))):=mK;have KZ:ah H (at_ fb)=some (.cells (far.map (.int .i64))):=wQ;refine WF.enter (E.h rfl _ _ _) E.Qx ?_
 repeat' (first|refine aE ?_|fail)
 refine WC.loop (α:=Nat) (λk=>[([],.pointer (some ⟨b,0,none⟩)),(S3,.int .i64 (qd far (df of (l.take k)))),(kD,.slice ib l.length ic),(jA,.int .i64 ((l.length:Nat):Int)),(ry,.int .i64 ((k:Nat):Int))])
  (λk H' nx'=>k<=l.length/\H'=H/\nx'=nx) (λk=>l.length-k)
  ?_ 0 aX ⟨bS _,rfl,rfl⟩
 rintro k _ _ ⟨iS,rfl,rfl⟩
 repeat' (first|refine aE ?_|(refine bJ ?_ ?_<;>intro h<;>(try simp only[aL]at h))|fail)
 ·have bQ:k<l.length:=V;obtain⟨lb,lo,lcs,rfl,tY,_,_,sr,jC⟩:=hi.at (by intro e;rw[e]at bQ;simp at bQ);have gY:=aM bQ;obtain⟨a,ha,qi⟩:=dv _ (dM gY);rw[ha]at gY;have q1:=cX (v:=.int .i64 (a:Int)) (jC k _ gY);have q2:=aB.cell (g.ok.get qi);have NN:=g.ok.lt qi;have q3:=aB.cell (gK (far:=far) (f:=fa of a) V);have US:=vq of l gY;have bO:qd far (df of (l.take (k+1)))=BV far (qd far (df of (l.take k))) (fa of a):=by rw[US,zt]
  rcases zu far (df of (l.take k))with⟨_,e⟩|⟨w,e,hw,_⟩
  ·rw[e]at bO ⊢;unfold BV at bO;rw[aJ (.inl V)]at bO
   repeat' (first|refine aE ?_|(refine bJ ?_ ?_<;>intro h<;>(try simp only[aL]at h))|fail)
   all_goals first|(exfalso;omega)|exact⟨k+1,V,by rw[bO];exact aX,V,rfl,rfl⟩
  ·rw[e]at bO ⊢;obtain⟨y,hy,hyw⟩:=pg.1 hw;obtain⟨c,lZ,vE⟩:=dv y (List.mem_of_mem_take hy);have hwF:w<F:=by
    rw[<-hyw,lZ,eE];exact g.ok.lt vE
   have q4:=aB.cell (gK (far:=far) (f:=w) V);unfold BV at bO;rw[eE]at bO
   repeat' (first|refine aE ?_|(refine bJ ?_ ?_<;>intro h<;>(try simp only[aL]at h))|fail)
   all_goals first
    | (exfalso;omega)
    | (rw[aJ V]at bO;exact⟨k+1,V,by rw[bO];exact aX,V,rfl,rfl⟩)
    | (rw[aw V]at bO;exact⟨k+1,V,by rw[bO];exact aX,V,rfl,rfl⟩)
 ·have:k=l.length:=V;subst this;rw[iJ];exact aD (vs:=[_]) rfl ⟨rfl,rfl,rfl⟩
end
section
variable {A:aN}{H H':Heap}{nx nx':Nat}{σ:aR}{L:List Value}{Q:cw}
def wi(of far:List Int)(U:List Nat)(fm:Int)(d:Int)(h:Nat):Prop:=(((fa of h:Nat):Int)=fm\/(fm<0/\fr far (fa of h)=d/\fa of h∈U))/\fr far (fa of (aU h))=d-1
theorem RN(E:eA A){b u v ob oc fb fc m F:Nat}{n fm d:Int}{ev rv:Value}{r:List (List Int)}{of far:List Int}(hk:Sk H nx b n ev rv u v r of far ob oc fb fc)(g:Zl m F u r of far)(hd : -2<=d/\d<=1048576) :
  WF A 66 [.pointer (some ⟨b,0,none⟩),.int .i64 fm,.int .i64 d] H nx λx H' nx'=>aq H H' nx/\nx<=nx'/\((∃h:Nat,x=.int .i64 (h:Int)/\h<of.length/\wi of far (df of (r.getD u [])) fm d h/\∀j,j<h->¬wi of far (df of (r.getD u [])) fm d j)\/(x=.int .i64 (-1)/\∀h,h<of.length->¬wi of far (df of (r.getD u [])) fm d h)):=by
 have Xq:=g.ml;have Dy:=g.ofl;have oJ:=g.fl;have Wj:=g.Zm;have ah3:of.length<=1048576:=V;obtain⟨hb,hc,si,NM,mK,wQ,hr,uj⟩:=id hk;refine WF.enter (E.h rfl _ _ _) E.acd ?_
 repeat' (first|refine aE ?_|fail)
 refine WC.loop (α:=Nat) (λk=>[([],.pointer (some ⟨b,0,none⟩)),(S1,.int .i64 fm),(S2,.int .i64 d),(ik,.int .i64 ((of.length:Nat):Int)),(iV,.int .i64 ((k:Nat):Int))])
  (λk H' nx'=>k<=of.length/\aq H H' nx/\nx<=nx'/\∀j,j<k->¬wi of far (df of (r.getD u [])) fm d j) (λk=>of.length-k)
  ?_ 0 aX ⟨bS _,.refl,au _,λj hj=>by omega⟩
 rintro k H1 aQ ⟨iS,bt,cH,gu⟩;have hk1:=hk.frame bt cH;clear hb hc si NM mK wQ hr uj;obtain⟨hb,hc,si,NM,mK,wQ,hr,uj⟩:=id hk1;have Gl:ah H1 (at_ ob)=some (.cells (of.map (.int .i64))):=mK;have KZ:ah H1 (at_ fb)=some (.cells (far.map (.int .i64))):=wQ
 repeat' (first|refine aE ?_|(refine bJ ?_ ?_<;>intro h<;>(try simp only[aL]at h))|fail)
 ·have bQ:k<of.length:=V;have Dg:aU k<of.length:=by have:=bM (h:=k) (m:=m) V;omega
  have q1:=aB.cell (g.ok.get bQ);have q2:=aB.cell (g.ok.get Dg);have f1:=g.ok.lt bQ;have f2:=g.ok.lt Dg;have q3:=aB.cell (gK (far:=far) (f:=fa of k) V);have q4:=aB.cell (gK (far:=far) (f:=fa of (aU k)) V);have fE:=g.low (fa of (aU k));have step:¬wi of far (df of (r.getD u [])) fm d k->∀j,j<k+1->¬wi of far (df of (r.getD u [])) fm d j:=λh j hj=>by
   rcases(show j<k\/j=k by omega)with c|rfl
   ·exact gu j c
   ·exact h
  repeat' (first|refine aE ?_|(refine bJ ?_ ?_<;>intro h<;>(try simp only[aL]at h))|fail)
  ·exact aD (vs:=[_]) rfl ⟨bt,cH,.inl ⟨k,rfl,bQ,⟨.inl (by assumption),V⟩,gu⟩⟩
  ·exact⟨k+1,V,aX,V,bt,cH,step (λhh=>by have:=hh.2;omega)⟩
  ·have h1:=h;refine WO.cn rfl ?_;refine(RM E hk1 g).of ?_;rintro _ H2 nx2 ⟨bN,fg,rfl⟩;have bV:=bt.trans bN cH;have CI:=hk1.frame bN fg;clear hb hc si NM mK wQ hr uj Gl KZ;obtain⟨hb,hc,si,NM,mK,wQ,hr,uj⟩:=id CI;have Gl:ah H2 (at_ ob)=some (.cells (of.map (.int .i64))):=mK;have KZ:ah H2 (at_ fb)=some (.cells (far.map (.int .i64))):=wQ;by_cases c:fa of k∈df of (r.getD u [])
   ·rw[fB c]
    repeat' (first|refine aE ?_|(refine bJ ?_ ?_<;>intro h<;>(try simp only[aL]at h))|fail)
    ·exact aD (vs:=[_]) rfl ⟨bV,V,.inl ⟨k,rfl,bQ,⟨.inr ⟨V,h1,c⟩,V⟩,gu⟩⟩
    ·exact⟨k+1,V,aX,V,bV,V,step (λhh=>by have:=hh.2;omega)⟩
   ·rw[im c]
    repeat' (first|refine aE ?_|fail)
    exact⟨k+1,V,aX,V,bV,V,step (λhh=>by rcases hh.1 with hh|hh;omega;exact c hh.2.2)⟩
  ·exact⟨k+1,V,aX,V,bt,cH,step (λhh=>by have:=hh.1;omega)⟩
  ·exact⟨k+1,V,aX,V,bt,cH,step (λhh=>by have:=hh.1;omega)⟩
 ·exact aD (vs:=[_]) rfl ⟨bt,cH,.inr ⟨rfl,λh hh=>gu h V⟩⟩
end
section
variable {A:aN}{H H':Heap}{nx nx':Nat}{σ:aR}{L:List Value}{Q:cw}
def aT(l:List Nat):List Int:=l.map λh:Nat=>(h:Int)
theorem bK(l:List Nat):(aT l).length=l.length:=by unfold aT;rw[ja]
theorem ek(l:List Nat)(h:Nat):aT (l++[h])=aT l++[(h:Int)]:=by unfold aT;rw[jG];rfl
def RtI(of far:List Int)(F:Nat)(U:Nat->Prop)(w:Nat)(fm d:Int)(l:List Nat):Prop:=
 (fm=-1/\l=[]/\d=fr far w)\/∃f:Nat,fm=(f:Int)/\f<F/\d=fr far f/\0<=d/\((l.length:Int)+d<=1048576)/\∀t,fV of far f t->∃f0,il of far U f0 (l++t)
theorem zx(E:eA A){b u v ob oc fb fc m F:Nat}{n:Int}{ev rv:Value}{r:List (List Int)}{of far:List Int}{T:Nat->Prop}(hk:Sk H nx b n ev rv u v r of far ob oc fb fc)(g:Zl m F u r of far)(D:m4 of F T far)(cG:r.getD u []≠[]) :
  WF A 31 [.pointer (some ⟨b,0,none⟩)] H nx λx H' nx'=>aq H H' nx/\nx<=nx'/\∃f l,GN H' nx nx' x (aT l)/\il of far (λf=>f∈df of (r.getD u [])) f l/\l.length<=1048576/\∀h∈l,h<of.length:=by
 have Xq:=g.ml;have Dy:=g.ofl;have oJ:=g.fl;have Wj:=g.Zm;obtain⟨hb,hc,si,NM,mK,wQ,hr,uj⟩:=id hk;have Gl:ah H (at_ ob)=some (.cells (of.map (.int .i64))):=mK;have KZ:ah H (at_ fb)=some (.cells (far.map (.int .i64))):=wQ;have Wk:=Rd.own hc;refine WF.enter (E.h rfl _ _ _) E.Kg ?_;have NN:∀f∈df of (r.getD u []),f<F:=λf hf=>by
  obtain⟨y,hy,e⟩:=pg.1 hf;obtain⟨a,ha,qi⟩:=g.row u g.ul y hy;rw[<-e,ha,eE];exact g.ok.lt qi
 obtain⟨w,hw,IN,vf⟩:∃w:Nat,qd far (df of (r.getD u []))=(w:Int)/\w∈df of (r.getD u [])/\∀g'∈df of (r.getD u []),fr far w<fr far g'\/(fr far w=fr far g'/\w<=g'):=by
  rcases zu far (df of (r.getD u []))with⟨e,_⟩|h
  ·exact absurd (List.map_eq_nil_iff.1 e) cG
  ·exact h
 have hwF:=NN w IN;have ahz:=g.high w;have fE:=g.low w
 repeat' (first|refine aE ?_|fail)
 refine WO.ca rfl ?_;refine(zw E hk g).of ?_;rintro _ _ _ ⟨e1,e2,rfl⟩;rw[e1,e2];refine⟨bB.look rfl Wk rfl rfl eO .nil,?_⟩;rw[hw];have q1:=aB.cell (gK (far:=far) (f:=w) V);generalize hU:(λf=>f∈df of (r.getD u []))=U at *
 repeat' (first|refine aE ?_|fail)
 refine WC.loop (α:=Value×List Nat×Int×Int) (λs=>[([],.pointer (some ⟨b,0,none⟩)),(S3,s.1),(S4,.int .i64 s.2.2.1),(S5,.int .i64 s.2.2.2)])
  (λs H' nx'=>aq H H' nx/\nx<=nx'/\GN H' nx nx' s.1 (aT s.2.1)/\RtI of far F U w s.2.2.1 s.2.2.2 s.2.1/\∀h∈s.2.1,h<of.length) (λs=>s.2.2.2.toNat)
  ?_ (.slice none 0 0,[],-1,fr far w) aX ⟨.refl,au _,.nil,.inl ⟨rfl,rfl,rfl⟩,λh hh=>by cases hh⟩
 rintro⟨lv,l,fm,d⟩ H1 aQ ⟨bt,cH,sd,hI,Tm⟩;simp only at sd hI Tm ⊢;have hk1:=hk.frame bt cH;have hdb : -1<=d/\d<=1048576:=by
  rcases hI with⟨_,_,e⟩|⟨f,_,hf,e,_⟩
  ·omega
  ·have:=g.high f;omega
 repeat' (first|refine aE ?_|(refine bJ ?_ ?_<;>intro h<;>(try simp only[aL]at h))|fail)
 ·have hd0:0<d:=V;refine WO.cn rfl ?_;refine(RN E hk1 g (fm:=fm) (d:=d) ⟨V,V⟩).of ?_;rintro xv H2 nx2 ⟨bN,fg,Fi⟩;have bV:=bt.trans bN cH;have CI:=hk1.frame bN fg;obtain⟨x,rfl,hx,hxh,hxn⟩:∃h:Nat,xv=.int .i64 (h:Int)/\h<of.length/\wi of far (df of (r.getD u [])) fm d h/\∀j,j<h->¬wi of far (df of (r.getD u [])) fm d j:=by
   rcases Fi with h|⟨_,h⟩
   ·exact h
   ·exfalso;rcases hI with⟨rfl,rfl,e⟩|⟨f,rfl,hf,e,_⟩
    ·obtain⟨y,y1,y2,y3⟩:=D.back w hwF V;exact h y y1 ⟨.inr ⟨V,by rw[y2];exact e.symm,by rw[y2];exact IN⟩,V⟩
    ·obtain⟨y,y1,y2,y3⟩:=D.back f hf V;exact h y y1 ⟨.inl (by rw[y2]),V⟩
  have Dg:aU x<of.length:=by have:=bM (h:=x) (m:=m) V;omega
  have oK:∀t,fV of far (fa of (aU x)) t->∃f0,il of far U f0 (l++[x]++t):=λt ht=>by
   rcases hI with⟨rfl,rfl,e⟩|⟨f,rfl,hf,e,_,_,Bk⟩
   ·obtain⟨a1,a2⟩:=hxh;obtain⟨_,a3,a4⟩:=a1.resolve_left V;rw[<-hU];refine⟨fa of x,a4,λg' Nx=>?_,.cons V ⟨hx,rfl,V,λj hj ej en=>hxn j hj ⟨.inr ⟨V,by rw[ej];exact a3,by rw[ej];exact a4⟩,by rw[en,a3]⟩⟩ ht,λen=>(by cases en),λh' t' en j hj hN=>?_⟩
    ·have:=vf g' Nx;omega
    ·cases en;exact hxn j hj ⟨.inr ⟨V,by have:=hN.2.1;omega,hN.1⟩,by have:=hN.2.2;omega⟩
   ·obtain⟨a1,a2⟩:=hxh;have a3:fa of x=f:=by rcases a1 with h|h<;>omega
    rw[jj];refine Bk (x::t) (.cons V ⟨hx,a3,V,λj hj ej en=>hxn j hj ⟨.inl (by rw[ej]),V⟩⟩ ht)
  have uo:l.length<=1048576/\(l.length:Int)+d<=1048576:=by
   rcases hI with⟨rfl,rfl,e⟩|⟨f,rfl,hf,e,_,ia,_⟩
   ·simp only[gp];omega
   ·omega
  have gg:=bK l;obtain⟨va,vc,rfl⟩:=sd.form
  repeat' (first|refine aE ?_|fail)
  refine WO.n rfl ?_;refine bG.more (m:=[(x:Int)]) rfl rfl (sd.frame (H':=aC H2 nx2 [.int .i64 (x:Int)]) (nx':=nx2+1) (λd _ h2=>by rw[ak,aw V];exact bN d h2) V) (.pre (xs:=[(x:Int)]) (b:=nx2) (c:=2*1+1) (rest:=[]) (.inl aj) V (by show 1<=1;omega) (λ_=>rfl)) V (by simp only[hO,gp];omega) (λv4 H4 dA oO g4 fA _=>?_);have eW:aq H H4 nx:=(bV.set V).trans fA V;have hk4:=hk.frame eW (show nx<=dA by omega);obtain⟨KH,Zb,ah4,ah5,UT,ahA,hr4,ah6⟩:=id hk4;have ahB:ah H4 (at_ ob)=some (.cells (of.map (.int .i64))):=UT;have q2:=aB.cell (g.ok.get Dg);obtain⟨v4a,v4c,rfl⟩:=g4.form
  repeat' (first|refine aE ?_|fail)
  refine⟨(_,l++[x],((fa of (aU x):Nat):Int),d-1),by show (d-1).toNat<d.toNat;omega,aX,eW,V,by show GN _ _ _ _ (aT (l++[x]));rw[ek];exact g4,.inr ⟨_,rfl,g.ok.lt Dg,by show d-1=fr far (fa of (aU x));have:=hxh.2;omega,by show 0<=d-1;omega,?_,oK⟩,λy hy=>?_⟩
  ·show (((l++[x]).length:Nat):Int)+(d-1)<=_;rw[cm];simp only[hO,gp];omega
  ·rcases ee.1 hy with hy|hy
   ·exact Tm y hy
   ·rw[fe]at hy;omega
 ·have hd0:¬0<d:=V;have ny:∃f0,il of far U f0 l:=by
   rcases hI with⟨rfl,rfl,e⟩|⟨f,rfl,hf,e,_,_,Bk⟩
   ·rw[<-hU];exact⟨w,IN,λg' Nx=>by have:=vf g' Nx;omega,.nil V,λ_ g' Nx eg=>by have:=vf g' Nx;omega,λh t e=>by cases e⟩
   ·have:=Bk [] (.nil V)
    rwa [gN]at this
  have uo:l.length<=1048576:=by
   rcases hI with⟨rfl,rfl,e⟩|⟨f,rfl,hf,e,_,ia,_⟩
   ·simp
   ·omega
  obtain⟨f0,hf0⟩:=ny;exact aD (vs:=[_]) rfl ⟨bt,cH,f0,l,sd,hf0,uo,Tm⟩
end
section
variable {A:aN}{H H':Heap}{nx nx':Nat}{σ:aR}{L:List Value}{Q:cw}
theorem ints_set(l:List Int)(i:Nat)(x:Int):(l.map (Value.int .i64)).set (0+i*1) (.int .i64 x)=(l.set i x).map (Value.int .i64):=by rw[Nat.zero_add,Nat.mul_one,List.map_set]
theorem B0.I7{F:Nat}{T:Nat->Prop}{far:List Int}{q:List Nat}(h:B0 F T far q):q.length<=F:=by
 have:q.length<=(List.range F).length:=h.nd.length_le_of_subset λx hx=>wC.2 (h.lt x hx)
 simpa using this
theorem Gn(E:eA A){n:Int}{m u v:Nat}{ev rv:Value}{es:List Ed}{r:List (List Int)}(h0:aH n es r=0)(iL:n=(m:Int))(he:bL H nx 2 aW ev es)(hr:er H nx 1 aZ rv r)(hv:v<m) :
  WF A 30 [.agg #[.int .i64 n,ev],rv,.int .i64 (u:Int),.int .i64 (v:Int)] H nx λx H' nx'=>aq H H' nx/\nx<=nx'/\∃b Zn ob oc fb fc far,x=.pointer (some ⟨b,0,none⟩)/\nx<=b/\Sk H' nx' b n ev Zn u v (cV r) (aG es r) far ob oc fb fc/\m4 (aG es r) (aP es r).length (λf=>f∈df (aG es r) ((cV r).getD v [])) far:=by
 obtain⟨base,ec,rfl⟩:=he.form;obtain⟨rb,rc,rfl⟩:=hr.form;have cD:=cC h0;obtain⟨hm,hl,_⟩:=bR h0;obtain⟨m0,m1,m2,_⟩:=id hm;have ok:=iN h0;have Q1:=ok.YQ;obtain⟨Wl,Dy⟩:=gZ h0;have kI:=fX r;have SI:=j3 h0;subst iL;refine WF.enter (E.h rfl _ _ _) E.Kf ?_;have bF:aq H (aC (aC H nx [.int .i64 (m:Int),.slice base es.length ec]) (nx+1) [.int .i64 (m:Int),.slice base es.length ec,.slice none 0 0,.slice none 0 0,.slice none 0 0,.int .i64 (u:Int),.int .i64 (v:Int)]) nx:=(aq.refl.set (au _)).set V
 repeat' (first|refine aE ?_|fail)
 refine WO.cn rfl ?_;refine(sm E h0 ((he.same bF).up V) ((hr.same bF).up V) cD).of ?_;rintro _ H1 aQ ⟨bt,cH,cb,cc,us,rfl,zS,hu⟩;have a4:ah H1 (at_ nx)=some (.cells [.int .i64 (m:Int),.slice base es.length ec]):=(bt nx V).trans (ay V aj);have a9:ah H1 (at_ (nx+1))=some (.cells [.int .i64 (m:Int),.slice base es.length ec,.slice none 0 0,.slice none 0 0,.slice none 0 0,.int .i64 (u:Int),.int .i64 (v:Int)]):=(bt (nx+1) V).trans aj;have bu:=bF.trans bt V
 repeat' (first|refine aE ?_|fail)
 generalize zY:aC H1 (nx+1) _=H2;have b4:ah H2 (at_ nx)=some (.cells [.int .i64 (m:Int),.slice base es.length ec]):=by rw[<-zY];exact ay V a4
 have b9:ah H2 (at_ (nx+1))=some (.cells [.int .i64 (m:Int),.slice base es.length ec,.slice (some ⟨cb,0,some 1⟩) r.length cc,.slice none 0 0,.slice none 0 0,.int .i64 (u:Int),.int .i64 (v:Int)]):=by rw[<-zY];exact aj
 have bV:aq H H2 nx:=by rw[<-zY];exact bu.set V
 have ch2:∀d,nx+1+1<=d->d<aQ->ah H2 (at_ d)=ah H1 (at_ d):=λd h1 _=>by rw[<-zY,ak,aw V]
 clear a4 a9 bu bt bF zY;refine WO.cn rfl ?_;refine(E.Rr (n:=(m:Int)) h0 ((he.same bV).up V) ((hr.same bV).up V) cD).of ?_;rintro _ H3 bW ⟨ob,oc,rfl,uj,F6,G5,mK,de,j8⟩;have a4:=(de nx V).trans b4;have a9:=(de (nx+1) V).trans b9;have dZ:=bV.trans de V
 repeat' (first|refine aE ?_|fail)
 generalize re:aC H3 (nx+1) _=H4;have c4:ah H4 (at_ nx)=some (.cells [.int .i64 (m:Int),.slice base es.length ec]):=by rw[<-re];exact ay V a4
 have c9:ah H4 (at_ (nx+1))=some (.cells [.int .i64 (m:Int),.slice base es.length ec,.slice (some ⟨cb,0,some 1⟩) r.length cc,.slice (some ⟨ob,0,some 1⟩) (2*es.length) oc,.slice none 0 0,.int .i64 (u:Int),.int .i64 (v:Int)]):=by rw[<-re];exact aj
 have eW:aq H H4 nx:=by rw[<-re];exact dZ.set V
 have UT:aB H4 ob (aG es r):=by rw[<-re];exact ay V mK
 have ch4:∀d,nx+1+1<=d->d<aQ->ah H4 (at_ d)=ah H1 (at_ d):=λd h1 h2=>by rw[<-re,ak,aw V];exact(de d V).trans (ch2 d h1 h2)
 clear a4 a9 dZ de bV mK b4 b9 re ch2;refine WO.cn rfl ?_;refine(E.Ga (n:=(m:Int)) h0 ((he.same eW).up V) ((hr.same eW).up V) cD).of ?_;rintro _ H5 fy ⟨Zo,nf,rfl,jP,kH,hL,jD⟩;obtain⟨fb,fc,rfl⟩:=hL.form;have a4:=(jD nx V).trans c4;have a9:=(jD (nx+1) V).trans c9;have j6:=eW.trans jD V;have M5:aB H5 ob (aG es r):=(jD ob V).trans UT;have ch5:∀d,nx+1+1<=d->d<aQ->ah H5 (at_ d)=ah H1 (at_ d):=λd h1 h2=>(jD d V).trans (ch4 d h1 h2)
 clear c4 c9 eW jD UT ch4
 repeat' (first|refine aE ?_|fail)
 generalize Jb:aC (aC H5 fy _) (nx+1) _=H6;generalize hF:(aP es r).length=F at *
 have b9:ah H6 (at_ (nx+1))=some (.cells [.int .i64 (m:Int),.slice base es.length ec,.slice (some ⟨cb,0,some 1⟩) r.length cc,.slice (some ⟨ob,0,some 1⟩) (2*es.length) oc,.slice (some ⟨fy,0,some 1⟩) F (2*F+1),.int .i64 (u:Int),.int .i64 (v:Int)]):=by rw[<-Jb];exact aj
 have acG:aB H6 fy (List.replicate F 0):=by rw[<-Jb];exact fW (ay V aj)
 have RO:∀d,d<fy->d≠nx+1->ah H6 (at_ d)=ah H5 (at_ d):=λd h1 h2=>by rw[<-Jb,ak,aw h2,ak,aw V]
 have wR:aq H H6 nx:=λd hd=>(RO d V V).trans (j6 d hd)
 have Zp:aB H6 ob (aG es r):=(RO ob V V).trans M5;have agj:=(hL.vX (λd h1 h2=>RO d h2 V) (au _)).FW;have acH:er H6 fy 1 aZ (.slice (some ⟨cb,0,some 1⟩) r.length cc) (cV r):=by
  have Wb:=hu.frame (H':=H6) (nx':=fy) (λd h1 h2=>(RO d V V).trans (ch5 d h1 h2)) V;have:=Wb.FW (c:=cc) (by rw[kI];exact zS)
  rwa [kI]at this
 have dS:nx+1<fy:=V;have ho5:ob<fy:=V;have wj:nx<=fy:=V;clear a4 a9 j6 RO M5 hL hu ch5 Jb zS jP kH;have Mx:v<(cV r).length:=V;have kE:(cV r).getD v []=(cV r)[v]:=by rw[aY,aM Mx];rfl
 obtain⟨bb,bo,tN,ib,ic,e3,iy,jz,bH,hi⟩:=acH.at Mx;cases e3;rw[<-kE]at bH hi;have acI:∀x∈(cV r).getD v [],∃a:Nat,x=(a:Int)/\a<2*es.length:=λx hx=>by
  obtain⟨a,h1,h2,_⟩:=dw SI Mx hx;exact⟨a,h1,h2⟩
 have hlk:=(cC SI).row v;generalize(cV r).getD v []=lw at *
 have qe:sq (aG es r) F:=by first|exact Wl|(rw[<-hF];exact Wl)
 refine WC.loop (α:=Nat×List Int) (λk=>[(S3,.int .i64 (v:Int)),(S9,.pointer (some ⟨nx+1,0,none⟩)),(dQ,.slice fb F fc),(S61,.int .i64 ((F:Nat):Int)),(S62,.int .i64 ((k.1:Nat):Int))])
  (λk H' nx'=>k.1<=F/\k.2.length=F/\(∀i,i<k.1->k.2[i]?=some (-1))/\aq H6 H' fy/\aB H' fy k.2/\nx'=fy+1) (λk=>F-k.1)
  ?_ (0,List.replicate F 0) aX ⟨bS _,by simp,λi hi=>by omega,.refl,acG,rfl⟩
 rintro⟨k,fl⟩ H7 j9 ⟨hk,oJ,Cp,k7,lg,rfl⟩;simp only at hk oJ Cp lg ⊢;have b7:=(k7 (nx+1) dS).trans b9;have wS:ah H7 (at_ fy)=some (.cells (fl.map (.int .i64))):=lg
 repeat' (first|refine aE ?_|(refine bJ ?_ ?_<;>intro h<;>(try simp only[aL]at h))|fail)
 ·have hkF:k<F:=V;refine⟨(k+1,fl.set k (-1)),by show F-(k+1)<F-k;omega,aX,by show k+1<=F;omega,by show (fl.set k (-1)).length=F;rw[iq];exact oJ,λi hi=>?_,k7.set (au _),?_,rfl⟩
  ·show (fl.set k (-1))[i]?=_;rw[fZ];by_cases c:k=i
   ·rw[aJ c,aJ V]
   ·rw[aw c];exact Cp i (by show i<k;have:i<k+1:=hi;omega)
  ·show ah (aC H7 fy ((fl.map (Value.int .i64)).set (0+k*1) (.int .i64 (-1)))) (at_ fy)=_;rw[ints_set];exact aj
 ·have hkF:k=F:=V;have Zq:fl=List.replicate F (-1):=by
   apply mb;intro i;rw[mN];by_cases c:i<F
   ·rw[aJ c];exact Cp i V
   ·rw[aw c,gx V]
  have Zr:=k7.rd iy jz
  repeat' (first|refine aE ?_|fail)
  subst Zq;clear hk Cp hkF b7 wS Zr oJ;refine WC.loop (α:=Nat×List Int×List Nat×Value) (λs=>[(S9,.pointer (some ⟨nx+1,0,none⟩)),(dQ,.slice fb F fc),(ik,s.2.2.2),(S78,.slice ib lw.length ic),(S79,.int .i64 ((lw.length:Nat):Int)),(TW,.int .i64 ((s.1:Nat):Int))])
   (λs H' nx'=>s.1<=lw.length/\aq H6 H' fy/\aB H' fy s.2.1/\fy+1<=nx'/\GN H' (fy+1) nx' s.2.2.2 (aT s.2.2.1)/\B0 F (λf=>f∈df (aG es r) (lw.take s.1)) s.2.1 s.2.2.1) (λs=>lw.length-s.1)
   ?_ (0,List.replicate F (-1),[],.slice none 0 0) aX ⟨bS _,k7,lg,au _,.nil,B0.start.nI (λf=>⟨λh=>h.elim,λh=>by simp[df]at h⟩)⟩
  clear k7 lg;rintro⟨k,fl,q,qv⟩ H7 j9 ⟨hk,k7,lg,Dz,AR,I⟩;simp only at hk lg AR I ⊢;have MG:=I.I7;have gg:=bK q;have oJ:=I.len;have b7:=(k7 (nx+1) dS).trans b9;have wS:ah H7 (at_ fy)=some (.cells (fl.map (.int .i64))):=lg;have M6:ah H7 (at_ ob)=some (.cells ((aG es r).map (.int .i64))):=(k7 ob ho5).trans Zp
  repeat' (first|refine aE ?_|(refine bJ ?_ ?_<;>intro h<;>(try simp only[aL]at h))|fail)
  ·have bQ:k<lw.length:=V;obtain⟨lb,lo,lcs,rfl,tY,_,_,sr,jC⟩:=hi.at (by intro e;rw[e]at bQ;simp at bQ);have gY:=aM bQ;obtain⟨a,ha,qi⟩:=acI _ (dM gY);rw[ha]at gY;have q1:=cX (v:=.int .i64 (a:Int)) (jC k _ gY);have agk:=k7.rd tY sr;have q2:=aB.cell (qe.get (show a<(aG es r).length by omega));have NN:=qe.lt (show a<(aG es r).length by omega);have q3:=aB.cell (gK (far:=fl) (f:=fa (aG es r) a) V);have US:=vq (aG es r) lw gY;have NO:∀f,(f∈df (aG es r) (lw.take k)\/f=fa (aG es r) a)↔f∈df (aG es r) (lw.take (k+1)):=λf=>by rw[US,ee,fe]
   obtain⟨qa,qc,rfl⟩:=AR.form
   repeat' (first|refine aE ?_|(refine bJ ?_ ?_<;>intro h<;>(try simp only[aL]at h))|fail)
   ·refine WO.n rfl ?_;refine bG.more (m:=[((fa (aG es r) a:Nat):Int)]) rfl rfl (AR.frame (λd h1 h2=>by rw[ak,aw V,ak,aw V]) V) (.pre (xs:=[((fa (aG es r) a:Nat):Int)]) (b:=j9) (c:=2*1+1) (rest:=[]) (.inl aj) V (by show 1<=1;omega) (λ_=>rfl)) V (by simp only[hO,gp];omega) (λv8 H8 RP hn8 g8 DA _=>?_);have Zs:aB H8 fy (fl.set (fa (aG es r) a) 0):=by
     refine(DA fy V).trans (ay V ?_);show ah (aC H7 fy ((fl.map (Value.int .i64)).set (0+(fa (aG es r) a)*1) (.int .i64 0))) (at_ fy)=_;rw[ints_set];exact aj
    have agl:aq H6 H8 fy:=λd hd=>(DA d V).trans (by rw[ak,aw V,ak,aw V];exact k7 d hd)
    obtain⟨v8a,v8c,rfl⟩:=g8.form
    repeat' (first|refine aE ?_|fail)
    refine⟨(k+1,fl.set (fa (aG es r) a) 0,q++[fa (aG es r) a],_),by show lw.length-(k+1)<lw.length-k;omega,aX,by show k+1<=_;omega,agl,Zs,V,by show GN _ _ _ _ (aT (q++[_]));rw[ek];exact g8,(I.put NN V).nI NO⟩
   ·exact⟨(k+1,fl,q,_),by show lw.length-(k+1)<lw.length-k;omega,aX,by show k+1<=_;omega,k7,lg,Dz,AR,(I.skip NN V).nI NO⟩
  ·have bQ:k=lw.length:=V;subst bQ;rw[iJ]at I;have J:=BQ.start (of:=aG es r) I;clear hk I oJ MG gg b7 wS M6;refine WC.loop (α:=Nat×List Int×List Nat×Value) (λs=>[(S9,.pointer (some ⟨nx+1,0,none⟩)),(dQ,.slice fb F fc),(ik,s.2.2.2),(jA,.int .i64 ((s.1:Nat):Int))])
    (λs H' nx'=>s.1<=s.2.2.1.length/\aq H6 H' fy/\aB H' fy s.2.1/\fy+1<=nx'/\GN H' (fy+1) nx' s.2.2.2 (aT s.2.2.1)/\BQ (aG es r) F (λf=>f∈df (aG es r) lw) s.2.1 s.2.2.1 s.1 (λy=>fa (aG es r) y∈s.2.2.1.take s.1)) (λs=>F-s.1)
    ?_ (0,fl,q,qv) aX ⟨bS _,k7,lg,Dz,AR,J.weaken (λx _ h=>by simp at h)⟩
   clear k7 lg AR J Dz;rintro⟨i,fl,q,qv⟩ H7 j9 ⟨hk,k7,lg,Dz,AR,J⟩;simp only at hk lg AR J ⊢;have MG:=J.I7;have gg:=bK q;obtain⟨qa,qc,rfl⟩:=AR.form
   repeat' (first|refine aE ?_|(refine bJ ?_ ?_<;>intro h<;>(try simp only[aL]at h))|fail)
   ·have jT:i<q.length:=V;have gY:=aM jT;generalize q[i]=p at gY;have ug:=dM gY;have UU:=J.lt p ug;obtain⟨lb,lo,lcs,rfl,tY,_,_,sr,jC⟩:=AR.sle.at (by intro e;rw[e]at gg;simp at gg;omega);have q1:=cX (v:=.int .i64 (p:Int)) (jC i _ (by unfold aT;rw[eD,gY];rfl));obtain⟨bb2,bo2,ah7,ib2,ic2,rfl,Zt,mh,Zu,KD⟩:=agj.at (i:=p) (by rw[hF];exact UU);have UW:(aP es r).getD p []=(aP es r)[p]'(by rw[hF];exact UU):=by rw[aY,aM (by rw[hF];exact UU)];rfl
    rw[<-UW]at Zu KD;have hfm:∀x,x∈(aP es r).getD p []↔∃y:Nat,x=(y:Int)/\y<2*es.length/\fa (aG es r) y=p:=λx=>zp h0
    have Hv:=ok.row p;generalize(aP es r).getD p []=fp at *
    have Zr:=k7.rd Zt mh;have hiF:i<F:=V
    repeat' (first|refine aE ?_|fail)
    refine WC.loop (α:=Nat×List Int×List Nat×Value) (λs=>[(S9,.pointer (some ⟨nx+1,0,none⟩)),(dQ,.slice (some ⟨bb2,bo2,some 1⟩) F fc),(ik,s.2.2.2),(jA,.int .i64 ((i:Nat):Int)),(ry,.int .i64 ((p:Nat):Int)),(TR,.slice ib2 fp.length ic2),(XR,.int .i64 ((fp.length:Nat):Int)),(T0,.int .i64 ((s.1:Nat):Int))])
     (λs H' nx'=>s.1<=fp.length/\aq H6 H' fy/\aB H' fy s.2.1/\fy+1<=nx'/\GN H' (fy+1) nx' s.2.2.2 (aT s.2.2.1)/\s.2.2.1[i]?=some p/\s.2.2.1.take i=q.take i/\BQ (aG es r) F (λf=>f∈df (aG es r) lw) s.2.1 s.2.2.1 i (λy=>fa (aG es r) y∈q.take i\/∃j,j<s.1/\fp[j]?=some (y:Int))) (λs=>fp.length-s.1)
     ?_ (0,fl,q,_) aX ⟨bS _,k7,lg,Dz,AR,gY,rfl,J.weaken (λx _ h=>by rcases h with h|⟨j,hj,_⟩;exact h;omega)⟩
    clear k7 lg AR J Dz hk MG gg jT ug q1 jC sr Zr;rintro⟨k,fl,q',qv⟩ H8 RP ⟨hk,k7,lg,Dz,AR,m5,zy,J⟩;simp only at hk lg AR m5 zy J ⊢;have MG:=J.I7;have gg:=bK q';have oJ:=J.len;have b7:=(k7 (nx+1) dS).trans b9;have wS:ah H8 (at_ fy)=some (.cells (fl.map (.int .i64))):=lg;have M6:ah H8 (at_ ob)=some (.cells ((aG es r).map (.int .i64))):=(k7 ob ho5).trans Zp;obtain⟨qa,qc,rfl⟩:=AR.form
    repeat' (first|refine aE ?_|(refine bJ ?_ ?_<;>intro h<;>(try simp only[aL]at h))|fail)
    ·have bQ:k<fp.length:=V;obtain⟨lb,lo,lcs,rfl,tY,_,_,sr,jC⟩:=KD.at (by intro e;rw[e]at bQ;simp at bQ);have kF:=aM bQ;obtain⟨y,hy,Wm,hyp⟩:=(hfm _).1 (dM kF);rw[hy]at kF;have q1:=cX (v:=.int .i64 (y:Int)) (jC k _ kF);have agk:=k7.rd tY sr;have Dg:aU y<(aG es r).length:=by have:=bM Wm;omega
     have q2:=aB.cell (qe.get Dg);have NN:=qe.lt Dg;have q3:=aB.cell (gK (far:=fl) (f:=fa (aG es r) (aU y)) V);have q4:=aB.cell (gK (far:=fl) (f:=p) V);have Bu:=J.bound qe Dy UU;have hlw:=J.low p;have hcv:∀x,x<(aG es r).length->(fa (aG es r) x∈q.take i\/∃j,j<k+1/\fp[j]?=some (x:Int))->((fa (aG es r) x∈q.take i\/∃j,j<k/\fp[j]?=some (x:Int))\/x=y):=λx _ h=>by
      rcases h with h|⟨j,hj,e⟩
      ·exact .inl (.inl h)
      ·rcases(show j<k\/j=k by omega)with c|rfl
       ·exact .inl (.inr ⟨j,c,e⟩)
       ·rw[kF]at e;have:=jk e;exact .inr V
     repeat' (first|refine aE ?_|(refine bJ ?_ ?_<;>intro h<;>(try simp only[aL]at h))|fail)
     ·refine WO.n rfl ?_;refine bG.more (m:=[((fa (aG es r) (aU y):Nat):Int)]) rfl rfl (AR.frame (λd h1 h2=>by rw[ak,aw V,ak,aw V]) V) (.pre (xs:=[((fa (aG es r) (aU y):Nat):Int)]) (b:=RP) (c:=2*1+1) (rest:=[]) (.inl aj) V (by show 1<=1;omega) (λ_=>rfl)) V (by simp only[hO,gp];omega) (λv9 H9 uq hn9 g9 Gp _=>?_);have Zv:aB H9 fy (fl.set (fa (aG es r) (aU y)) (fr fl p+1)):=by
       refine(Gp fy V).trans (ay V ?_);show ah (aC H8 fy ((fl.map (Value.int .i64)).set (0+(fa (aG es r) (aU y))*1) (.int .i64 (fr fl p+1)))) (at_ fy)=_;rw[ints_set];exact aj
      have Zw:aq H6 H9 fy:=λd hd=>(Gp d V).trans (by rw[ak,aw V,ak,aw V];exact k7 d hd)
      have Zx:i<q'.length:=(cS.1 m5).1;obtain⟨v9a,v9c,rfl⟩:=g9.form
      repeat' (first|refine aE ?_|fail)
      exact⟨(k+1,fl.set (fa (aG es r) (aU y)) (fr fl p+1),q'++[fa (aG es r) (aU y)],_),by show fp.length-(k+1)<fp.length-k;omega,aX,by show k+1<=_;omega,Zw,Zv,V,by show GN _ _ _ _ (aT (q'++[_]));rw[ek];exact g9,by show (q'++[_])[i]?=_;rw[eC Zx];exact m5,by show (q'++[_]).take i=_;rw[List.take_append_of_le_length V];exact zy,(J.put qe Dy m5 V hyp V).weaken hcv⟩
     ·exact⟨(k+1,fl,q',_),by show fp.length-(k+1)<fp.length-k;omega,aX,by show k+1<=_;omega,k7,lg,Dz,AR,m5,zy,(J.skip qe Dy m5 V hyp V).weaken hcv⟩
    ·have bQ:k=fp.length:=V;subst bQ
     skip
     refine⟨(i+1,fl,q',_),by show F-(i+1)<F-i;have:=(cS.1 m5).1;omega,aX,by show i+1<=q'.length;have:=(cS.1 m5).1;omega,k7,lg,Dz,AR,(J.next m5).weaken λx hx h=>?_⟩;have h:fa (aG es r) x∈q'.take (i+1):=h;rw[List.take_add_one,m5,zy]at h;rcases ee.1 h with h|h
     ·exact .inl h
     ·have hxp:fa (aG es r) x=p:=by simpa using h
      have:=(hfm (x:Int)).2 ⟨x,rfl,V,hxp⟩;obtain⟨j,hj,e⟩:=kG this;exact .inr ⟨j,hj,by rw[aM hj,e]⟩
   ·have Zx:i=q.length:=V;subst Zx;rw[iJ]at J;have Dd:=J.done qe (λ_ _ h=>h);refine aD (vs:=[_]) rfl ⟨(wR.trans k7 wj),V,nx+1,.slice (some ⟨cb,0,some 1⟩) r.length cc,ob,oc,fy,2*F+1,fl,rfl,V,⟨V,?_,V,V,(k7 ob ho5).trans Zp,lg,(acH.same k7).up V,by rw[Dy];exact uj⟩,Dd⟩;rw[Dy,Dd.len];exact(k7 (nx+1) dS).trans b9
end
section
variable {A:aN}{H H':Heap}{nx nx':Nat}{σ:aR}{L:List Value}{Q:cw}
open Classical in
noncomputable def da(n:Int)(es:List Ed)(r:List (List Int))(u v:Int):Int:=
 if dm n es r≠0 then dm n es r else if u<0\/n<=u\/v<0\/n<=v then 2 else if u=v then 1 else if Reach es u.toNat v.toNat then 0 else 6
section
variable {n:Int}{es:List Ed}{r:List (List Int)}{u v:Int}
theorem zz(h:dm n es r≠0):da n es r u v=dm n es r:=by unfold da;rw[aJ h]
theorem Gq(h:dm n es r=0)(hb:u<0\/n<=u\/v<0\/n<=v):da n es r u v=2:=by unfold da;rw[aw (λe=>e h),aJ hb]
theorem Gr(h:dm n es r=0)(hb:¬(u<0\/n<=u\/v<0\/n<=v))(e:u=v):da n es r u v=1:=by unfold da;rw[aw (λe=>e h),aw hb,aJ e]
theorem Gs(h:dm n es r=0)(hb:¬(u<0\/n<=u\/v<0\/n<=v))(e:u≠v)(hr:Reach es u.toNat v.toNat):da n es r u v=0:=by unfold da;rw[aw (λe=>e h),aw hb,aw e,aJ hr]
theorem Gt(h:dm n es r=0)(hb:¬(u<0\/n<=u\/v<0\/n<=v))(e:u≠v)(hr:¬Reach es u.toNat v.toNat):da n es r u v=6:=by unfold da;rw[aw (λe=>e h),aw hb,aw e,aw hr]
theorem qP(h:da n es r u v=0):aH n es r=0/\dm n es r=0/\0<=u/\u<n/\0<=v/\v<n/\u≠v/\Reach es u.toNat v.toNat:=by
 unfold da at h;by_cases h1:dm n es r=0
 ·rw[aw (λe=>e h1)]at h;by_cases h2:u<0\/n<=u\/v<0\/n<=v
  ·rw[aJ h2]at h;omega
  ·rw[aw h2]at h;by_cases h3:u=v
   ·rw[aJ h3]at h;omega
   ·rw[aw h3]at h;by_cases h4:Reach es u.toNat v.toNat
    ·refine⟨?_,h1,V,V,V,V,h3,h4⟩;unfold dm at h1;by_cases h5:aH n es r=0
     ·exact h5
     ·rw[aw h5]at h1;exact h1
    ·rw[aw h4]at h;omega
 ·rw[aJ h1]at h;exact absurd h h1
end
theorem sG.DB{es:List Ed}{m:Nat}{c:List Int}(h:sG es m m c){a b:Nat}(ha:a<m)(hb:b<m)(hr:Reach es a b):c[a]?=c[b]?:=by
 obtain⟨r,h1,h2,h3,h4⟩:=h.root ha;rw[h4,h.old hb h1 h2 (h3.trans hr)]
theorem wk(E:eA A){n:Int}{ev rv:Value}{es:List Ed}{r:List (List Int)}{u v:Int}(he:bL H nx 2 aW ev es)(hr:er H nx 1 aZ rv r)(cD:cR r) :
  WF A 29 [.agg #[.int .i64 n,ev],rv,.int .i64 u,.int .i64 v] H nx λx H' nx'=>aq H H' nx/\nx<=nx'/\x=.int .i64 (da n es r u v):=by
 obtain⟨base,ec,rfl⟩:=he.form;obtain⟨rb,rc,rfl⟩:=hr.form;refine WF.enter (E.h rfl _ _ _) E.Ke ?_;have bF:aq H (aC H nx [.int .i64 n,.slice base es.length ec]) nx:=aq.refl.set (au _)
 repeat' (first|refine aE ?_|fail)
 refine WO.cn rfl ?_;refine(E.acz (n:=n) ((he.same bF).up V) ((hr.same bF).up V) cD).of ?_;rintro _ H1 aQ ⟨gv,rfl,hg,bt,cH⟩;have bu:=bF.trans bt V;have a4:ah H1 (at_ nx)=some (.cells [.int .i64 n,.slice base es.length ec]):=(bt nx V).trans aj;by_cases h0:aH n es r=0
 ·rw[hg h0,h0];have hm:=(bR h0).1;obtain⟨m0,m1,m2,_⟩:=id hm;have hp:dm n es r=if oy es r n.toNat=0 then 0 else 5:=by unfold dm;rw[aJ h0]
  generalize oy es r n.toNat=gn at hp
  repeat' (first|refine aE ?_|(refine bJ ?_ ?_<;>intro h<;>(try simp only[aL]at h))|fail)
  ·exfalso;omega
  ·rw[aw V]at hp;exact aD (vs:=[_]) rfl ⟨bu,V,by rw[zz V,hp];rfl⟩
  all_goals rw[aJ V]at hp
  all_goals first
   | exact aD (vs:=[_]) rfl ⟨bu,V,by rw[Gq hp V];rfl⟩
   | exact aD (vs:=[_]) rfl ⟨bu,V,by rw[Gr hp V V];rfl⟩
   | skip
  obtain⟨u',rfl⟩:=Int.eq_ofNat_of_zero_le (show 0<=u by omega);obtain⟨v',rfl⟩:=Int.eq_ofNat_of_zero_le (show 0<=v by omega);obtain⟨m,rfl⟩:=Int.eq_ofNat_of_zero_le m0;refine WO.cn rfl ?_;refine(E.Rp (n:=(m:Int)) hm rfl ((he.same bu).up V)).of ?_;rintro _ H5 fy ⟨pb,pc,c,rfl,XF,GY,G0,kI,AP,jD,wj⟩;have j6:=bu.trans jD V;have iF:u'<m:=V;have mG:v'<m:=V;obtain⟨x,hx⟩:=p9 AP.len iF;obtain⟨y,hy⟩:=p9 AP.len mG;have DQ:=aB.cell hx;have hcy:=aB.cell hy;have Wk:ah H5 (at_ pb)=some (.cells (c.map (.int .i64))):=kI;by_cases tR:Reach es u' v'
  ·have oT:x=y:=by
    have:=AP.DB iF mG tR;rw[hx,hy]at this;exact jk this
   subst oT
   repeat' (first|refine aE ?_|(refine bJ ?_ ?_<;>intro h<;>(try simp only[aL]at h))|fail)
   ·exact absurd rfl (by assumption)
   ·exact aD (vs:=[_]) rfl ⟨j6,V,by rw[Gs (u:=(u':Int)) (v:=(v':Int)) hp V V (by simpa using tR)];rfl⟩
  ·have oT:x≠y:=AP.apart hx hy tR
   repeat' (first|refine aE ?_|(refine bJ ?_ ?_<;>intro h<;>(try simp only[aL]at h))|fail)
   ·exact aD (vs:=[_]) rfl ⟨j6,V,by rw[Gt (u:=(u':Int)) (v:=(v':Int)) hp V V (by simpa using tR)];rfl⟩
   ·exact absurd V oT
 ·have hp:dm n es r=aH n es r:=by unfold dm;rw[aw h0]
  repeat' (first|refine aE ?_|(refine bJ ?_ ?_<;>intro h<;>(try simp only[aL]at h))|fail)
  ·exact aD (vs:=[_]) rfl ⟨bu,V,by rw[zz V,hp];rfl⟩
  all_goals exfalso;omega
end
section
variable {A:aN}{H H':Heap}{nx nx':Nat}{σ:aR}{L:List Value}{Q:cw}
def total(bs:List (List Int))(k:Nat):Nat:=((bs.take k).map List.length).foldl (· + ·) 0
theorem oE{bs:List (List Int)}{k:Nat}(hk:k<bs.length):total bs (k+1)=total bs k+(bs.getD k []).length:=by
 have hg:bs.getD k []=bs[k]:=by rw[aY,aM hk];rfl
 unfold total;rw[List.take_add_one,aM hk,jG,Hc,hg];rfl
theorem eA.acJ(E:eA A){n:Int}{ev:Value}{es:List (Int×Int)}(he:bL H nx 2 aW ev es) :
  WF A 26 [.agg #[.int .i64 n,ev]] H nx λv H' nx'=>v=.bool (decide (kK n es))/\aq H H' nx/\nx<=nx':=tK E.QE (E.h rfl) he
def Zy(n:Int)(es:List Ed):Prop:=es.length<=300/\(n<=300\/¬kK n es)
def Lt9(n:Int)(es:List Ed)(r:List (List Int)):Prop:=Zy n es/\n<=200/\r.length+total r r.length<=1000
def M7(n:Int)(es:List Ed)(r:List (List Int)):Prop:=Lt9 n es r/\(¬kK n es\/n<=60/\es.length<=80)
open Classical in
theorem Gu(E:eA A){n:Int}{ev:Value}{es:List Ed}(he:bL H nx 2 aW ev es) :
  WF A 55 [.agg #[.int .i64 n,ev]] H nx λv H' nx'=>v=.bool (decide (Zy n es))/\aq H H' nx/\nx<=nx':=by
 obtain⟨base,ec,rfl⟩:=he.form;refine WF.enter (E.h rfl _ _ _) E.Kn ?_;have bF:aq H (aC H nx [.int .i64 n,.slice base es.length ec]) nx:=aq.refl.set (au _)
 repeat' (first|refine aE ?_|(refine bJ ?_ ?_<;>intro h<;>(try simp only[aL]at h))|fail)
 ·have h1:=h;have h2:n<=300:=V;exact aD (vs:=[_]) rfl ⟨by rw[fB (p:=Zy n es) ⟨V,.inl h2⟩];rfl,bF,V⟩
 ·have h1:=h;have h2:¬n<=300:=V;refine WO.cn rfl ?_;refine(E.acJ ((he.same bF).up V)).of ?_;rintro _ H1 aQ ⟨rfl,bt,cH⟩;have bu:aq H H1 nx:=bF.trans bt V;by_cases hm:kK n es
  ·rw[fB hm]
   repeat' (first|refine aE ?_|fail)
   exact aD (vs:=[_]) rfl ⟨by rw[im (p:=Zy n es) (λh=>by rcases h.2 with h|h;exact h2 h;exact h hm)];rfl,bu,V⟩
  ·rw[im hm]
   repeat' (first|refine aE ?_|fail)
   exact aD (vs:=[_]) rfl ⟨by rw[fB (p:=Zy n es) ⟨V,.inr hm⟩];rfl,bu,V⟩
 ·have h1:=h;exact aD (vs:=[_]) rfl ⟨by rw[im (p:=Zy n es) (λh=>by have:=h.1;omega)];rfl,bF,V⟩
theorem RQ{r:List (List Int)}(cD:cR r):∀{k:Nat},k<=r.length->total r k<=1048576*k:=by
 intro k
 induction k with
 | zero=>intro _;exact au _
 | succ k ih=>
  intro hk;rw[oE V];have:=ih V;have:=cD.row k;omega
open Classical in
theorem Gv(E:eA A){n:Int}{ev rv:Value}{es:List Ed}{r:List (List Int)}(he:bL H nx 2 aW ev es)(hr:er H nx 1 aZ rv r)(cD:cR r) :
  WF A 25 [.agg #[.int .i64 n,ev],rv] H nx λv H' nx'=>v=.bool (decide (Lt9 n es r))/\aq H H' nx/\nx<=nx':=by
 obtain⟨base,ec,rfl⟩:=he.form;obtain⟨cN,rc,rfl⟩:=hr.form;have ql:=cD.1;refine WF.enter (E.h rfl _ _ _) E.Kc ?_;have bF:aq H (aC H nx [.int .i64 n,.slice base es.length ec]) nx:=aq.refl.set (au _);have CR:Rd (aC H nx [.int .i64 n,.slice base es.length ec]) nx [.int .i64 n,.slice base es.length ec]:=Rd.self
 repeat' (first|refine aE ?_|fail)
 refine WC.loop (α:=Nat) (λk=>[(S1,.slice cN r.length rc),(S2,.pointer (some ⟨nx,0,none⟩)),(S5,.int .i64 ((r.length+total r k:Nat):Int)),(S6,.int .i64 ((k:Nat):Int))])
  (λk H' nx'=>k<=r.length/\aq H H' nx/\Rd H' nx [.int .i64 n,.slice base es.length ec]/\nx+1<=nx') (λk=>r.length-k)
  ?_ 0 aX ⟨bS _,bF,CR,au _⟩
 clear bF CR;rintro k H1 aQ ⟨hk,bF,CR,cH⟩;have zy:=RQ cD hk
 repeat' (first|refine aE ?_|(refine bJ ?_ ?_<;>intro h<;>(try simp only[aL]at h))|fail)
 ·have bQ:k<r.length:=V;have dv:=cD.row k;have kE:r.getD k []=r[k]:=by rw[aY,aM bQ];rfl
  obtain⟨rb,ro,Wa,ib,ic,rfl,uh,rX,vd,hi⟩:=hr.at bQ;rw[<-kE]at vd;have FT:=bF.rd uh rX
  repeat' (first|refine aE ?_|fail)
  refine⟨k+1,V,.cons rfl (.cons rfl (.cons ?_ (.cons rfl (.nil _)))),V,bF,CR,cH⟩;show some _=some _;rw[oE bQ,<-Nat.add_assoc]
 ·have:k=r.length:=V;subst this
  skip
  refine WO.cn rfl ?_;refine(Gu E ((he.same bF).up V)).of ?_;rintro _ H2 nx2 ⟨rfl,bN,fg⟩;have bV:aq H H2 nx:=bF.trans bN V;have k9:Rd H2 nx [.int .i64 n,.slice base es.length ec]:=bN.rd V CR;by_cases h3:Zy n es
  ·rw[fB h3]
   repeat' (first|refine aE ?_|(refine bJ ?_ ?_<;>intro h<;>(try simp only[aL]at h))|fail)
   all_goals
    have h1:=h
    first
     | exact aD (vs:=[_]) rfl ⟨by rw[fB (p:=Lt9 n es r) ⟨h3,V,V⟩];rfl,bV,V⟩
     | exact aD (vs:=[_]) rfl ⟨by rw[im (p:=Lt9 n es r) (λh=>by have:=h.2.1;have:=h.2.2;omega)];rfl,bV,V⟩
  ·rw[im h3]
   repeat' (first|refine aE ?_|fail)
   exact aD (vs:=[_]) rfl ⟨by rw[im (p:=Lt9 n es r) (λh=>h3 h.1)];rfl,bV,V⟩
open Classical in
theorem DC(E:eA A){n:Int}{ev rv:Value}{es:List Ed}{r:List (List Int)}(he:bL H nx 2 aW ev es)(hr:er H nx 1 aZ rv r)(cD:cR r) :
  WF A 5 [.agg #[.int .i64 n,ev],rv] H nx λv H' nx'=>v=.bool (decide (M7 n es r))/\aq H H' nx/\nx<=nx':=by
 obtain⟨base,ec,rfl⟩:=he.form;obtain⟨cN,rc,rfl⟩:=hr.form;refine WF.enter (E.h rfl _ _ _) E.FE ?_;have bF:aq H (aC H nx [.int .i64 n,.slice base es.length ec]) nx:=aq.refl.set (au _)
 repeat' (first|refine aE ?_|fail)
 refine WO.cn rfl ?_;refine(Gv E ((he.same bF).up V) ((hr.same bF).up V) cD).of ?_;rintro _ H1 aQ ⟨rfl,bt,cH⟩;have bu:aq H H1 nx:=bF.trans bt V;have dS:Rd H1 nx [.int .i64 n,.slice base es.length ec]:=bt.rd V Rd.self;clear bF bt;by_cases h9:Lt9 n es r
 ·rw[fB h9]
  repeat' (first|refine aE ?_|fail)
  refine WO.cn rfl ?_;refine(E.acJ ((he.same bu).up V)).of ?_;rintro _ H2 nx2 ⟨rfl,bN,fg⟩;have bV:aq H H2 nx:=bu.trans bN V;have k9:Rd H2 nx [.int .i64 n,.slice base es.length ec]:=bN.rd V dS;by_cases hm:kK n es
  ·rw[fB hm]
   repeat' (first|refine aE ?_|(refine bJ ?_ ?_<;>intro h<;>(try simp only[aL]at h))|fail)
   all_goals
    have h1:=h
    first
     | exact aD (vs:=[_]) rfl ⟨by rw[fB (p:=M7 n es r) ⟨h9,.inr ⟨V,V⟩⟩];rfl,bV,V⟩
     | exact aD (vs:=[_]) rfl ⟨by rw[im (p:=M7 n es r) (λh=>by rcases h.2 with h|h;exact h hm;have:=h.1;have:=h.2;omega)];rfl,bV,V⟩
  ·rw[im hm]
   repeat' (first|refine aE ?_|fail)
   exact aD (vs:=[_]) rfl ⟨by rw[fB (p:=M7 n es r) ⟨h9,.inl hm⟩];rfl,bV,V⟩
 ·rw[im h9]
  repeat' (first|refine aE ?_|fail)
  exact aD (vs:=[_]) rfl ⟨by rw[im (p:=M7 n es r) (λh=>h9 h.1)];rfl,bu,V⟩
theorem zA(E:eA A){av bv:Value}{a:List (List Int)}(ha:er H nx 1 aZ av a)(hb:er H nx 1 aZ bv a)(hm:a.length<=1048576)(hr:∀k,(a.getD k []).length<=4000) :
  WF A 20 [av,bv] H nx λv H' nx'=>H'=H/\nx'=nx/\v=.bool true:=by
 obtain⟨base,c,rfl⟩:=ha.form;obtain⟨QO,bc,rfl⟩:=hb.form;refine WF.enter (E.h rfl _ _ _) E.Qv ?_
 repeat' (first|refine aE ?_|(refine bJ ?_ ?_<;>intro h<;>(try simp only[aL]at h))|fail)
 all_goals try (first|(exfalso;omega)|exact absurd trivial (by assumption))
 refine WC.loop (α:=Nat) (λk=>[([],.slice base a.length c),(S1,.slice QO a.length bc),(S5,.int .i64 k)]) (λk H' nx'=>H'=H/\nx'=nx/\k<=a.length) (λk=>a.length-k)
   ?_ 0 aX ⟨rfl,rfl,bS _⟩
 rintro k _ _ ⟨rfl,rfl,hk⟩
 repeat' (first|refine aE ?_|(refine bJ ?_ ?_<;>intro h<;>(try simp only[aL]at h))|fail)
 ·have bQ:k<a.length:=V;have wP:=hr k;have kE:a.getD k []=a[k]:=by rw[aY,aM bQ];rfl
  obtain⟨b1,o1,JH,ib1,ic1,rfl,_,ql,lZ,xr⟩:=ha.at bQ;obtain⟨b2,o2,kf,ib2,ic2,rfl,_,Ek,vE,KD⟩:=hb.at bQ;rw[<-kE]at lZ xr vE KD
  repeat' (first|refine aE ?_|fail)
  refine WO.cn rfl ?_;refine(ve E.Kw (E.h rfl) xr KD wP).of ?_;rintro _ _ _ ⟨rfl,rfl,rfl⟩;rw[fB rfl]
  repeat' (first|refine aE ?_|fail)
  exact⟨k+1,V,.cons rfl aX,rfl,rfl,V⟩
 ·exact aD (vs:=[_]) rfl ⟨rfl,rfl,rfl⟩
end
section
variable {A:aN}{H H':Heap}{nx nx':Nat}{σ:aR}{L:List Value}{Q:cw}
def K0{α:Type}(H:Heap)(lo nx z:Nat)(enc:α->List Value)(x:α)(v:Value)(xs:List α):Prop:=
 ∃d,v=.slice (some ⟨d,0,some z⟩) xs.length (2*(xs.length+1))/\lo<=d/\d<nx/\ah H (at_ d)=some (.cells ((xs++[x]).flatMap enc))
theorem K0.sle{α:Type}{lo z:Nat}{enc:α->List Value}{x:α}{v:Value}{xs:List α}(h:K0 H lo nx z enc x v xs)(he:∀x,(enc x).length=z):bL H nx z enc v xs:=by
 obtain⟨d,rfl,h1,h2,h3⟩:=h;refine .pre (rest:=enc x) (.inl ?_) h2 (by rw[bT];omega) he;rw[h3,List.flatMap_append];simp
theorem K0.frame{α:Type}{lo z:Nat}{enc:α->List Value}{x:α}{v:Value}{xs:List α}(h:K0 H lo nx z enc x v xs)(hs:∀d,lo<=d->d<nx->ah H' (at_ d)=ah H (at_ d))(hn:nx<=nx'):K0 H' lo nx' z enc x v xs:=by
 obtain⟨d,rfl,h1,h2,h3⟩:=h;exact⟨d,rfl,h1,V,(hs d h1 h2).trans h3⟩
theorem bP.mke{α:Type}{lo z n:Nat}{enc:α->List Value}{x:α}{v:Value}{xs:List α}(h:bP H lo nx z v n ((xs++[x]).flatMap enc))(hn:n=xs.length+1):∃d,v=.slice (some ⟨d,0,some z⟩) (xs.length+1) (2*(xs.length+1))/\lo<=d/\d<nx/\ah H (at_ d)=some (.cells ((xs++[x]).flatMap enc)):=by
 subst hn;obtain⟨_,⟨_,e⟩|⟨d,rfl,h1,h2,h3⟩⟩:=h
 ·omega
 ·exact⟨d,rfl,h1,h2,h3⟩
theorem Jc(E:eA A){n:Int}{ev:Value}{es:List Ed}(he:bL H nx 2 aW ev es)(hm:es.length<=1000000) :
  WF A 7 [.agg #[.int .i64 n,ev]] H nx λv H' nx'=>aq H H' nx/\nx<=nx'/\∃oA,v=.agg #[.int .i64 n,oA]/\K0 H' nx nx' 2 aW (-7,7) oA es:=by
 obtain⟨base,ec,rfl⟩:=he.form;refine WF.enter (E.h rfl _ _ _) E.Qp ?_;have bF:aq H (aC (aC H nx [.int .i64 n,.slice base es.length ec]) (nx+1) [.int .i64 0,.slice none 0 0]) nx:=(aq.refl.set (au _)).set V;have p0:Rd (aC (aC H nx [.int .i64 n,.slice base es.length ec]) (nx+1) [.int .i64 0,.slice none 0 0]) nx [.int .i64 n,.slice base es.length ec]:=Rd.skip V Rd.self
 repeat' (first|refine aE ?_|fail)
 have WY:=(he.same bF).up (show nx<=nx+1+1 by omega);refine WO.na rfl ?_;refine bP.more (nx0:=nx+1+1) (l:=[]) (m:=es) rfl rfl .nil (WY.src (λ_=>rfl)) (au _) V (by simp only[gp];omega) ?_;intro v1 H1 aQ cH sd bt;rw[qQ]at sd;have p1:=bt.rd V p0;have t1:ah H1 (at_ (nx+1))=some (.cells [.int .i64 0,.slice none 0 0]):=(bt (nx+1) V).trans aj;refine⟨bB.look rfl p1 rfl rfl eO (bB.look rfl p1 rfl rfl (by simp[mc,ff]) .nil),?_⟩
 repeat' (first|refine aE ?_|fail)
 have Gw:aq H1 (aC H1 aQ [.int .i64 (-7),.int .i64 7]) aQ:=aq.refl.set (au _);refine WO.na rfl ?_;refine bP.more (l:=es) (m:=[(-7,7)]) rfl rfl (sd.same Gw (cE aQ)) (nH Rd.self) V V (by show es.length+1<=_;omega) ?_;intro v2 H2 nx2 fg MH bN;have p7:aq H1 H2 (nx+1+1):=(Gw.low V).trans bN (au _);have p2:=p7.rd V p1;have t2:=(p7 (nx+1) V).trans t1;refine⟨bB.look rfl p2 rfl rfl eO (bB.look rfl p2 rfl rfl (by simp[mc,ff]) .nil),?_⟩;obtain⟨d,rfl,PJ,Jd,RR⟩:=MH.mke (xs:=es) (by rw[cm];rfl);have um:es.length<=aF (2*(es.length+1)):=by rw[bT];omega
 repeat' (first|refine aE ?_|fail)
 refine kA rfl aj rfl ⟨((bF.trans bt V).trans p7 V).set V,V,_,rfl,d,rfl,V,V,?_⟩;rw[ak,aw V];exact RR
end
section
variable {A:aN}{H H':Heap}{nx nx':Nat}{σ:aR}{L:List Value}{Q:cw}
structure NP(H:Heap)(lo nx b q qc:Nat)(us:List Value)(r:List (List Int)):Prop where
 b1:lo<=b
 b2:b<nx
 q1:lo<=q
 q2:q<nx
 cells:ah H (at_ b)=some (.cells (us++[.slice (some ⟨q,0,some 1⟩) 1 qc]))
 mark:ah H (at_ q)=some (.cells [.int .i64 (-78)])
 len:us.length=r.length
 row:∀(i:Nat) (u:Value) (l:List Int),us[i]?=some u->r[i]?=some l->K0 H lo nx 1 aZ (-77) u l
theorem NP.frame{lo b q qc:Nat}{us:List Value}{r:List (List Int)}(h:NP H lo nx b q qc us r)(hs:∀d,lo<=d->d<nx->ah H' (at_ d)=ah H (at_ d))(hn:nx<=nx'):NP H' lo nx' b q qc us r:=
 ⟨h.b1,kN h.b2 hn,h.q1,kN h.q2 hn,(hs b h.b1 h.b2).trans h.cells,(hs q h.q1 h.q2).trans h.mark,h.len,λi u l hu hl=>(h.row i u l hu hl).frame hs hn⟩
theorem NP.FW{lo b q qc:Nat}{us:List Value}{r:List (List Int)}(h:NP H lo nx b q qc us r):er H nx 1 aZ (.slice (some ⟨b,0,some 1⟩) r.length (2*(r.length+1))) r:=by
 refine⟨us,h.len,?_,λi u l hu hl=>(h.row i u l hu hl).sle (λ_=>rfl)⟩;rw[<-h.len];exact .pre (rest:=[.slice (some ⟨q,0,some 1⟩) 1 qc]) (.inl (by rw[ln];exact h.cells)) h.b2 (by rw[bT];omega) (λ_=>rfl)
theorem bP.acK{nx0 n:Nat}{v:Value}{cs:List Value}(h:bP H nx0 nx 1 v n cs):∃a c,v=.slice a n c:=by
 obtain⟨_,⟨rfl,h0⟩|⟨d,rfl,_⟩⟩:=h
 ·exact⟨_,_,by rw[h0]⟩
 ·exact⟨_,_,rfl⟩
def TwS(H:Heap)(lo nx:Nat)(v:Value)(us:List Value)(r:List (List Int))(k:Nat):Prop:=
 us.length=k/\bP H lo nx 1 v us.length us/\∀(i:Nat) (u:Value) (l:List Int),us[i]?=some u->r[i]?=some l->K0 H lo nx 1 aZ (-77) u l/\∀d,bk u=some d->bk v≠some d
theorem GN.mke{lo:Nat}{v:Value}{l:List Int}{x:Int}(h:GN H lo nx v (l++[x])):∃d,v=.slice (some ⟨d,0,some 1⟩) (l.length+1) (2*(l.length+1))/\lo<=d/\d<nx/\ah H (at_ d)=some (.cells ((l++[x]).flatMap aZ)):=by
 have e:(l++[x]).length=l.length+1:=by rw[cm];rfl
 rcases h with⟨_,h⟩|⟨d,rfl,_,h1,h2,h3⟩
 ·rw[h]at e;simp at e
 ·rw[e];exact⟨d,rfl,h1,h2,by rw[fj];exact h3⟩
theorem Je(E:eA A){rv:Value}{r:List (List Int)}(hr:er H nx 1 aZ rv r)(hl:r.length<=100000)(dv:∀k,(r.getD k []).length<=100000) :
  WF A 8 [rv] H nx λv H' nx'=>aq H H' nx/\nx<=nx'/\∃b q qc us,v=.slice (some ⟨b,0,some 1⟩) r.length (2*(r.length+1))/\NP H' nx nx' b q qc us r:=by
 obtain⟨rb,rc,rfl⟩:=hr.form;refine WF.enter (E.h rfl _ _ _) E.Qq ?_
 repeat' (first|refine aE ?_|fail)
 refine WC.loop (α:=Nat×Value) (λk=>[([],.slice rb r.length rc),(S3,k.2),(S4,.int .i64 ((k.1:Nat):Int))])
  (λk H' nx'=>k.1<=r.length/\nx<=nx'/\aq H H' nx/\∃us,TwS H' nx nx' k.2 us r k.1) (λk=>r.length-k.1)
  ?_ (0,.slice none 0 0) aX ⟨bS _,au _,.refl,[],rfl,.nil,λi u l hu=>by simp at hu⟩
 rintro⟨k,vk⟩ H1 aQ ⟨hk,cH,bt,us,iF,hg,hrw⟩;simp only at hk hg hrw iF ⊢;obtain⟨ka,kc,hvk⟩:=hg.acK;subst hvk
 repeat' (first|refine aE ?_|(refine bJ ?_ ?_<;>intro h<;>(try simp only[aL]at h))|fail)
 ·have bQ:k<r.length:=V;have kE:r.getD k []=r[k]:=by rw[aY,aM bQ];rfl
  have wP:=dv k;obtain⟨bb,bo,tN,ib,ic,rfl,iy,jz,bH,hi⟩:=hr.at bQ;rw[<-kE]at bH hi;have fU:=bt.rd iy jz;have xr:=(hi.same bt).up cH
  repeat' (first|refine aE ?_|fail)
  refine WO.na rfl ?_;refine bG.more (nx0:=aQ) rfl rfl .nil xr (au _) (by simp only[gp];omega) (λv2 H2 nx2 fg g2 bN _=>?_);rw[qQ]at g2;have mh:=bN.rd V fU;refine⟨bB.look rfl mh (gD bH) rfl eO .nil,?_⟩;obtain⟨va,vc,rfl⟩:=g2.form
  repeat' (first|refine aE ?_|fail)
  have zB:aq H2 (aC H2 nx2 [.int .i64 (-77)]) nx2:=aq.refl.set (au _);refine WO.na rfl ?_;refine bG.more (m:=[-77]) rfl rfl (g2.frame (H':=aC H2 nx2 [.int .i64 (-77)]) (λd _ hd=>zB d hd) (cE nx2)) (.pre (xs:=[-77]) (b:=nx2) (c:=2*1+1) (rest:=[]) (.inl aj) V (by show 1<=1;omega) (λ_=>rfl)) V (by simp only[hO,gp];omega) (λv4 H4 dA oO g4 fA _=>?_);have vr:aq H1 H4 aQ:=bN.trans ((zB.low V).trans fA (au _)) (au _);have agm:=vr.rd V fU;refine⟨bB.look rfl agm (gD bH) rfl eO .nil,?_⟩;obtain⟨d,rfl,PJ,Jd,RR⟩:=g4.mke;have um:(r.getD k []).length<=aF (2*((r.getD k []).length+1)):=by rw[bT];omega
  have ma:=hg.same vr (by omega:aQ<=dA)
  repeat' (first|refine aE ?_|fail)
  refine WO.n rfl ?_;have DE:aq H4 (aC H4 dA [.slice (some ⟨d,0,some 1⟩) (r.getD k []).length (2*((r.getD k []).length+1))]) dA:=aq.refl.set (au _);refine bG.tz (nx0:=nx) (m:=1) (new:=[.slice (some ⟨d,0,some 1⟩) (r.getD k []).length (2*((r.getD k []).length+1))]) rfl rfl (ma.same DE (cE dA)) (dL Rd.self rfl) V V rfl (by unfold small;omega) (by unfold small;omega) ?_;intro H5 UX vt;have Zz:∀e,e<dA->bk (.slice ka us.length kc)≠some e->ah H5 (at_ e)=ah H4 (at_ e):=λe he cG=>by
   rw[vt e V (λc z' q eq=>by
    obtain⟨_,⟨e1,_⟩|⟨g,e1,_⟩⟩:=hg
    ·rw[e1]at eq;cases eq
    ·rw[e1]at eq cG;cases eq;exact cG rfl)]
   exact DE e he
  have G6:∀e,bk (.slice ka us.length kc)=some e->nx<=e/\e<aQ:=λe he=>by
   obtain⟨_,⟨e1,_⟩|⟨g,e1,g1,g2,_⟩⟩:=hg
   ·rw[e1]at he;cases he
   ·rw[e1]at he;cases he;exact⟨g1,g2⟩
  have WU:(us++[Value.slice (some ⟨d,0,some 1⟩) (r.getD k []).length (2*((r.getD k []).length+1))]).length=us.length+1:=by rw[cm];rfl
  repeat' (first|refine aE ?_|fail)
  refine⟨(k+1,.slice (some ⟨dA+1,0,some 1⟩) (us.length+1) (2*(us.length+1))),by show r.length-(k+1)<r.length-k;omega,aX,by show k+1<=_;omega,V,λe he=>?_,us++[.slice (some ⟨d,0,some 1⟩) (r.getD k []).length (2*((r.getD k []).length+1))],by rw[WU,iF],?_,λi u l hu hl=>?_⟩
  ·rw[Zz e V (λh=>by have:=(G6 e h).1;omega)];exact(vr e V).trans (bt e he)
  ·rw[WU];exact⟨by rw[WU];omega,.inr ⟨dA+1,rfl,V,V,UX⟩⟩
  ·by_cases hi:i<k
   ·rw[eC V]at hu;obtain⟨g1,g2⟩:=hrw i u l hu hl;obtain⟨e,rfl,h1,h2,h3⟩:=g1;refine⟨⟨e,rfl,h1,V,?_⟩,λe' zP=>?_⟩
    ·rw[Zz e V (g2 e rfl),vr e h2];exact h3
    ·cases zP;intro h;cases h;omega
   ·have cg:=(cS.1 hu).1;rw[WU]at cg;obtain rfl:i=k:=V;rw[aiQ V,iF,He]at hu;cases hu;rw[kE,aM bQ]at *
    cases hl;refine⟨⟨d,rfl,V,V,?_⟩,λe' zP=>?_⟩
    ·rw[Zz d V (λh=>by have:=(G6 d h).2;omega)];exact RR
    ·cases zP;intro h;cases h;omega
 ·have hkr:k=r.length:=V;subst hkr;have bN:aq H1 (aC (aC H1 aQ [.int .i64 (-78)]) (aQ+1) [.slice (some ⟨aQ,0,some 1⟩) 1 (2*1+1)]) aQ:=(aq.refl.set (au _)).set V;refine WO.n rfl ?_;refine bG.tz (nx0:=nx) (m:=1) (new:=[.slice (some ⟨aQ,0,some 1⟩) 1 (2*1+1)]) rfl rfl (hg.same bN (show aQ<=aQ+1+1 by omega)) (dL Rd.self rfl) V V rfl (by unfold small;omega) (by unfold small;omega) ?_;intro H5 UX vt;have um:r.length<=aF (2*(us.length+1)):=by rw[bT];omega
  repeat' (first|refine aE ?_|fail)
  have G6:∀e,bk (.slice ka us.length kc)=some e->nx<=e/\e<aQ:=λe he=>by
   obtain⟨_,⟨e1,_⟩|⟨g,e1,g1,g2,_⟩⟩:=hg
   ·rw[e1]at he;cases he
   ·rw[e1]at he;cases he;exact⟨g1,g2⟩
  have hf:∀e,e<aQ+1+1->bk (.slice ka us.length kc)≠some e->ah H5 (at_ e)=ah (aC (aC H1 aQ [.int .i64 (-78)]) (aQ+1) [.slice (some ⟨aQ,0,some 1⟩) 1 (2*1+1)]) (at_ e):=λe he cG=>
   vt e he (λc z' q eq=>by
    obtain⟨_,⟨e1,_⟩|⟨g,e1,_⟩⟩:=hg
    ·rw[e1]at eq;cases eq
    ·rw[e1]at eq cG;cases eq;exact cG rfl)
  refine aD (vs:=[_]) rfl ⟨λe he=>?_,V,aQ+1+1,aQ,2*1+1,us,by rw[iF];rfl,V,V,cH,V,UX,?_,iF,λi u l hu hl=>?_⟩
  ·rw[hf e V (λh=>by have:=(G6 e h).1;omega)];exact(bN e V).trans (bt e he)
  ·rw[hf aQ V (λh=>by have:=(G6 _ h).2;omega),ak,aw V,ak,aJ rfl]
  ·obtain⟨g1,g2⟩:=hrw i u l hu hl;obtain⟨e,rfl,h1,h2,h3⟩:=g1;refine⟨e,rfl,h1,V,?_⟩;rw[hf e V (g2 e rfl),bN e h2];exact h3
end
section
variable {A:aN}{H H':Heap}{nx nx':Nat}{σ:aR}{L:List Value}{Q:cw}
theorem zC(E:eA A){n:Int}{av bv:Value}{es:List Ed}(ha:bL H nx 2 aW av es)(hb:bL H nx 2 aW bv es)(hm:es.length<=1048576) :
  WF A 19 [.agg #[.int .i64 n,av],.agg #[.int .i64 n,bv]] H nx λv H' nx'=>aq H H' nx/\nx<=nx'/\v=.bool true:=by
 obtain⟨ab,ac,rfl⟩:=ha.form;obtain⟨bb,bc,rfl⟩:=hb.form;refine WF.enter (E.h rfl _ _ _) E.Qu ?_;have bF:aq H (aC (aC H nx [.int .i64 n,.slice ab es.length ac]) (nx+1) [.int .i64 n,.slice bb es.length bc]) nx:=(aq.refl.set (au _)).set V;have p0:Rd (aC (aC H nx [.int .i64 n,.slice ab es.length ac]) (nx+1) [.int .i64 n,.slice bb es.length bc]) nx [.int .i64 n,.slice ab es.length ac]:=Rd.skip V Rd.self;have p1:Rd (aC (aC H nx [.int .i64 n,.slice ab es.length ac]) (nx+1) [.int .i64 n,.slice bb es.length bc]) (nx+1) [.int .i64 n,.slice bb es.length bc]:=Rd.self
 repeat' (first|refine aE ?_|(refine bJ ?_ ?_<;>intro h<;>(try simp only[aL]at h))|fail)
 all_goals try (exfalso;omega)
 refine WC.loop (α:=Nat) (λk=>[(S2,.pointer (some ⟨nx,0,none⟩)),(S3,.pointer (some ⟨nx+1,0,none⟩)),(S5,.int .i64 ((k:Nat):Int))])
  (λk H' nx'=>k<=es.length/\nx'=nx+1+1/\H'=aC (aC H nx [.int .i64 n,.slice ab es.length ac]) (nx+1) [.int .i64 n,.slice bb es.length bc]) (λk=>es.length-k)
  ?_ 0 aX ⟨bS _,rfl,rfl⟩
 rintro k H1 aQ ⟨hk,e1,e2⟩;rw[e1];have q0:Rd H1 nx [.int .i64 n,.slice ab es.length ac]:=by rw[e2];exact p0
 have q1:Rd H1 (nx+1) [.int .i64 n,.slice bb es.length bc]:=by rw[e2];exact p1
 have bt:aq H H1 nx:=by rw[e2];exact bF
 repeat' (first|refine aE ?_|(refine bJ ?_ ?_<;>intro h<;>(try simp only[aL]at h))|fail)
 ·have bQ:k<es.length:=V;obtain⟨ba,oa,ca,rfl,hba,_,_,har,had⟩:=ha.at (λe=>by rw[e]at bQ;simp at bQ);obtain⟨bb',ob,cb,rfl,iy,_,_,zO,Bu⟩:=hb.at (λe=>by rw[e]at bQ;simp at bQ);have kF:=aM bQ;have ta:take? 2 (ca.drop (oa+k*2))=some [.int .i64 (es[k]).1,.int .i64 (es[k]).2]:=had k _ kF;have tb:take? 2 (cb.drop (ob+k*2))=some [.int .i64 (es[k]).1,.int .i64 (es[k]).2]:=Bu k _ kF;have ah8:=bt.rd hba har;have ah9:=bt.rd iy zO
  repeat' (first|refine aE ?_|fail)
  refine WO.k rfl ?_;refine bG.of (Act.ae2 E.q49 rfl rfl) ?_;rw[im (λh=>h rfl)]
  repeat' (first|refine aE ?_|fail)
  exact⟨k+1,V,aX,V,rfl,e2⟩
 ·exact aD (vs:=[_]) rfl ⟨bt,V,rfl⟩
theorem zD(E:eA A){n:Int}{lo:Nat}{av bv:Value}{es:List Ed}(ha:K0 H lo nx 2 aW (-7,7) av es)(hb:bL H nx 2 aW bv es)(hm:es.length<=1000000) :
  WF A 14 [.agg #[.int .i64 n,av],.agg #[.int .i64 n,bv]] H nx λv H' nx'=>aq H H' nx/\nx<=nx'/\v=.bool true:=by
 have hsa:=ha.sle (λ_=>rfl);obtain⟨d,rfl,h1,h2,h3⟩:=id ha;obtain⟨bb,bc,rfl⟩:=hb.form;refine WF.enter (E.h rfl _ _ _) E.Qs ?_;have bF:aq H (aC (aC H nx [.int .i64 n,.slice (some ⟨d,0,some 2⟩) es.length (2*(es.length+1))]) (nx+1) [.int .i64 n,.slice bb es.length bc]) nx:=(aq.refl.set (au _)).set V;have p0:Rd (aC (aC H nx [.int .i64 n,.slice (some ⟨d,0,some 2⟩) es.length (2*(es.length+1))]) (nx+1) [.int .i64 n,.slice bb es.length bc]) nx [.int .i64 n,.slice (some ⟨d,0,some 2⟩) es.length (2*(es.length+1))]:=Rd.skip V Rd.self;have p1:Rd (aC (aC H nx [.int .i64 n,.slice (some ⟨d,0,some 2⟩) es.length (2*(es.length+1))]) (nx+1) [.int .i64 n,.slice bb es.length bc]) (nx+1) [.int .i64 n,.slice bb es.length bc]:=Rd.self
 repeat' (first|refine aE ?_|fail)
 refine WO.cn rfl ?_;refine(zC E (n:=n) ((hsa.same bF).up (show nx<=nx+1+1 by omega)) ((hb.same bF).up V) V).of ?_;rintro _ H1 aQ ⟨bt,cH,rfl⟩;have bu:=bF.trans bt V;have q0:=bt.rd V p0;have q1:=bt.rd V p1;have PJ:Rd H1 d ((es++[(-7,7)]).flatMap aW):=bu.rd h2 (Rd.own h3);have um:es.length+1<=aF (2*(es.length+1)):=by rw[bT];omega
 have zy:take? 2 (((es++[(-7,7)]).flatMap aW).drop (0+0*2+es.length*2))=some [.int .i64 (-7),.int .i64 7]:=by
  rw[List.flatMap_append,show 0+0*2+es.length*2=(es.flatMap aW).length by rw[iB];omega,List.drop_left];rfl
 repeat' (first|refine aE ?_|fail)
 refine WO.n rfl ?_;refine bG.of (Act.XC E.q49 rfl rfl) ?_;rw[fB (show ((-7:Int),(7:Int))=(Int.negSucc 6,Int.ofNat 7)from rfl)]
 repeat' (first|refine aE ?_|fail)
 exact aD (vs:=[_]) rfl ⟨bu,V,rfl⟩
theorem zE(E:eA A){lo b q qc:Nat}{us:List Value}{rv:Value}{r:List (List Int)}(ht:NP H lo nx b q qc us r)(hr:er H nx 1 aZ rv r)(hl:r.length<=100000)(dv:∀k,(r.getD k []).length<=4000) :
  WF A 15 [.slice (some ⟨b,0,some 1⟩) r.length (2*(r.length+1)),rv] H nx λv H' nx'=>H'=H/\nx'=nx/\v=.bool true:=by
 obtain⟨rb,rc,rfl⟩:=hr.form;have hbR:=Rd.own ht.cells;have hqR:=Rd.own ht.mark;have iF:=ht.len;refine WF.enter (E.h rfl _ _ _) E.Qt ?_;have um:r.length+1<=aF (2*(r.length+1)):=by rw[bT];omega
 have JR:(us++[Value.slice (some ⟨q,0,some 1⟩) 1 qc])[0+0*1+r.length*1]?=some (.slice (some ⟨q,0,some 1⟩) 1 qc):=by
  rw[aiQ V,show 0+0*1+r.length*1-us.length=0 by omega];rfl
 repeat' (first|refine aE ?_|fail)
 refine WO.cn rfl ?_;refine(zA E ht.FW hr V dv).of ?_;rintro _ H_0 aia ⟨f1,f2,rfl⟩;rw[f1,f2]
 repeat' (first|refine aE ?_|(refine bJ ?_ ?_<;>intro h<;>(try simp only[aL]at h))|fail)
 ·exact absurd rfl (by assumption)
 refine WC.loop (α:=Nat) (λk=>[([],.slice (some ⟨b,0,some 1⟩) r.length (2*(r.length+1))),(S1,.slice rb r.length rc),(S5,.int .i64 ((k:Nat):Int))])
  (λk H' nx'=>k<=r.length/\H'=H/\nx'=nx) (λk=>r.length-k)
  ?_ 0 aX ⟨bS _,rfl,rfl⟩
 rintro k H1 aQ ⟨hk,e1,e2⟩;rw[e1,e2]
 repeat' (first|refine aE ?_|(refine bJ ?_ ?_<;>intro h<;>(try simp only[aL]at h))|fail)
 ·have bQ:k<r.length:=V;have kE:r.getD k []=r[k]:=by rw[aY,aM bQ];rfl
  have wP:=dv k;obtain⟨bb,bo,tN,ib,ic,rfl,iy,jz,bH,hi⟩:=hr.at bQ;rw[<-kE]at bH hi;have hu:=aM (show k<us.length by omega);obtain⟨d,hd0,PJ,Jd,RR⟩:=ht.row k _ _ hu (aM bQ);rw[hd0,<-kE]at hu;rw[<-kE]at RR;have JE:(us++[Value.slice (some ⟨q,0,some 1⟩) 1 qc])[0+k*1]?=some (.slice (some ⟨d,0,some 1⟩) (r.getD k []).length (2*((r.getD k []).length+1))):=by
   rw[eC V,show 0+k*1=k by omega];exact hu
  have hdR:=Rd.own RR;have hsk:(r.getD k []).length+1<=aF (2*((r.getD k []).length+1)):=by rw[bT];omega
  have aib:(((r.getD k [])++[-77]).flatMap aZ)[0+0*1+(r.getD k []).length*1]?=some (.int .i64 (-77)):=by
   rw[fj];unfold mi;rw[jG,aiQ (by rw[ja];omega),ja,show 0+0*1+(r.getD k []).length*1-(r.getD k []).length=0 by omega];rfl
  repeat' (first|refine aE ?_|(refine bJ ?_ ?_<;>intro h<;>(try simp only[aL]at h))|fail)
  ·exact absurd rfl (by assumption)
  exact⟨k+1,V,aX,V,rfl,rfl⟩
 ·exact aD (vs:=[_]) rfl ⟨rfl,rfl,rfl⟩
end
section
variable {A:aN}{H H':Heap}{nx nx':Nat}{σ:aR}{L:List Value}{Q:cw}
theorem FL.same{nx0 pb B:Nat}{lv:Value}{us:List Value}(h:FL H nx0 nx pb lv us B)(hs:aq H H' nx)(hn:nx<=nx'):FL H' nx0 nx' pb lv us B:=by
 obtain⟨sv,a,s,h1,h2,h3,h4,h5,h6⟩:=h;exact⟨sv,a,s,(hs pb V).trans h1,h2.same hs hn,h3,h4,h5,V⟩
theorem FL.blk{nx0 pb B d:Nat}{lv:Value}{us:List Value}(h:FL H nx0 nx pb lv us B)(hd:bk lv=some d):nx0<=d/\d<nx:=by
 obtain⟨sv,a,s,h1,⟨_,⟨rfl,_⟩|⟨e,rfl,h2,h3,_⟩⟩,_⟩:=h
 ·cases hd
 ·cases hd;exact⟨h2,h3⟩
structure wm(H:Heap)(lo nx:Nat)(us:List Value):Prop where
 row:∀u∈us,∃d c cs,u=.slice (some ⟨d,0,some 1⟩) cs.length c/\ah H (at_ d)=some (.cells cs)/\cs.length<=4000/\lo<=d/\d<nx
 inj:us.Pairwise λu w=>∀d,bk u=some d->bk w≠some d
theorem wm.nil{lo:Nat}:wm H lo nx []:=⟨λu h=>(by cases h),.nil⟩
theorem wm.blk{lo d:Nat}{us:List Value}{u:Value}(h:wm H lo nx us)(hu:u∈us)(hd:bk u=some d):lo<=d/\d<nx:=by
 obtain⟨e,c,cs,rfl,_,_,h1,h2⟩:=h.row u hu;cases hd;exact⟨h1,h2⟩
theorem wm.frame{lo:Nat}{us:List Value}(h:wm H lo nx us)(hs:∀u∈us,∀d,bk u=some d->ah H' (at_ d)=ah H (at_ d))(hn:nx<=nx'):wm H' lo nx' us:=by
 refine⟨λu hu=>?_,h.inj⟩;obtain⟨d,c,cs,rfl,h1,h2,h3,h4⟩:=h.row u hu;exact⟨d,c,cs,rfl,(hs _ hu d rfl).trans h1,h2,h3,V⟩
theorem wm.low{lo lo':Nat}{us:List Value}(h:wm H lo nx us)(hl:lo'<=lo):wm H lo' nx us:=
 ⟨λu hu=>let ⟨d,c,cs,h1,h2,h3,h4,h5⟩:=h.row u hu;⟨d,c,cs,h1,h2,h3,V,h5⟩,h.inj⟩
theorem wm.app{lo mid:Nat}{us ws:List Value}(h:wm H lo nx us)(h':wm H mid nx ws)(hl:lo<=mid)(hu:∀u∈us,∀d,bk u=some d->d<mid):wm H lo nx (us++ws):=by
 refine⟨λu hm=>?_,List.pairwise_append.2 ⟨h.inj,h'.inj,λu hu' w hw d hd Hn=>?_⟩⟩
 ·rcases ee.1 hm with hm|hm
  ·exact h.row u hm
  ·exact(h'.low hl).row u hm
 ·have:=hu u hu' d hd;have:=(h'.blk hw Hn).1;omega
theorem dK.kpt{lo b:Nat}{us:List Value}{r:List (List Int)}(h:dK H lo nx b us r)(hr:∀k,(r.getD k []).length<=4000):wm H lo nx (kept us):=by
 have rO:∀u∈kept us,∃(i:Nat) (l:List Int),us[i]?=some u/\r[i]?=some l/\l.length<=4000/\u≠.slice none 0 0:=by
  intro u hu;unfold kept at hu;obtain⟨h1,h2⟩:=rC.1 hu;obtain⟨i,hi,he⟩:=kG h1;have hri:i<r.length:=by rw[<-h.len];exact hi
  refine⟨i,r[i],by rw[aM hi,he],aM hri,?_,λe=>by rw[e]at h2;cases h2⟩;have:=hr i
  rwa [aY,aM hri]at this
 refine⟨λu hu=>?_,?_⟩
 ·obtain⟨i,l,h1,h2,h3,h4⟩:=rO u hu;rcases h.row i u l h1 h2 with⟨e,_⟩|⟨d,c,rfl,g1,g2,g3,g4,g5,g6,g7⟩
  ·exact absurd e h4
  ·exact⟨d,c,mi l,by rw[mY],g7,by rw[mY];exact h3,g4,g5⟩
 ·unfold kept;refine List.Pairwise.filter _ (List.pairwise_iff_getElem.2 λi j hi hj Bh d hd Hn=>?_);have:=h.inj i j _ _ d (aM hi) (aM hj) hd Hn;omega
theorem M8{us:List Value}{k:Nat}{u:Value}(h:us[k]?=some u):kept (us.take (k+1))=kept (us.take k)++kept [u]:=by
 obtain⟨hk,rfl⟩:=cS.1 h;rw[List.take_succ_eq_append_getElem hk,BH]
theorem AS(E:eA A){p:Value}{n c:Nat}(hn:n=0) :
  WF A 13 [p,.slice none n c] H nx λ_ H' nx'=>H'=H/\nx'=nx:=by
 subst hn;refine WF.enter (E.h rfl _ _ _) E.yK ?_
 repeat' (first|refine aE ?_|fail)
 refine WC.loop (α:=Unit) (λ_=>[(S1,.slice none 0 c),(S4,.int .i64 0)]) (λ_ H' nx'=>H'=H/\nx'=nx) (λ_=>0) ?_ () aX ⟨rfl,rfl⟩;rintro _ H1 aQ ⟨e1,e2⟩
 repeat' (first|refine aE ?_|(refine bJ ?_ ?_<;>intro h<;>(try simp only[aL]at h))|fail)
 ·exfalso;omega
 ·exact jU (vs:=[]) rfl ⟨e1,e2⟩
end
end Go.Eng
