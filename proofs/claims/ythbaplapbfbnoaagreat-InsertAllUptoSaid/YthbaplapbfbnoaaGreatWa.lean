import Derived.Test.YthbaplapbfbnoaaGreatLd
/- Walks over the program: part 1. -/

set_option maxRecDepth 100000
set_option maxHeartbeats 1000000
namespace Go.Eng
section
variable {A:aN}{H H':Heap}{nx nx':Nat}{σ:aR}{Q:cw}
theorem BG{g:FuncId}(hf:A.funcs g=some tF)(hh:zhN A g){n lo hi:Nat}{vc:Value}(hv:cW vc=some (lo,hi))(Hr:hi<=9223372036854775807)(hn:n<=100000) :
  WF A g [.int .i64 (n:Int),vc] H nx λv H' nx'=>H'=H/\nx'=nx/\cW v=some (min lo (n+2000),min hi (n+2000)):=by
 refine WF.enter (hh _ _ _) hf ?_
 repeat' (first|refine aE ?_|fail)
 refine WO.n rfl ?_;refine bG.XA rfl rfl hv (nC (n:=n+2000)) V (λv hv=>?_)
 repeat' (first|refine aE ?_|fail)
 exact aD (vs:=[_]) rfl ⟨rfl,rfl,hv⟩
def kept(us:List Value):List Value:=us.filter λu=>match u with
 | .slice none _ _=>false
 | _=>true
theorem BH{us:List Value}{u:Value}:kept (us++[u])=kept us++kept [u]:=by unfold kept;rw[List.filter_append]
def FL(H:Heap)(nx0 nx pb:Nat)(lv:Value)(us:List Value)(B:Nat):Prop:=
 ∃sv a s,ah H (at_ pb)=some (.cells [lv,sv])/\bP H nx0 nx 1 lv us.length us/\cW sv=some (a,s)/\s<=B/\pb<nx0/\nx0<=nx
end
section
variable {A:aN}{H H':Heap}{nx nx':Nat}{σ:aR}{Q:cw}
def qA{α:Type}(f:Nat->α)(i:Nat)(x:α):Nat->α:=λj=>if j=i then x else f j
theorem eB{α:Type}{f:Nat->α}{i:Nat}{x:α}:qA f i x i=x:=by simp[qA]
theorem xm{α:Type}{f:Nat->α}{i:Nat}{x y:α}:qA (qA f i x) i y=qA f i y:=by funext j;unfold qA;split<;>rfl
theorem r9{α:Type}{f:Nat->α}{i j:Nat}{x:α}(h:j≠i):qA f i x j=f j:=by simp[qA,h]
structure G1 where
 pb:Nat
 rb:Nat
 m:Nat
 rc:Nat
 sv:Value
 d:Nat->Nat
 o:Nat->Nat
 c:Nat->Nat
def G1.v(D:G1)(n:Nat->Nat)(j:Nat):Value:=.slice (some ⟨D.d j,D.o j,some 1⟩) (n j) (2*D.c j+1)
def G1.row(D:G1)(n:Nat->Nat):List Value:=(List.range D.m).map (D.v n)
structure zX(D:G1)(H:Heap)(nx:Nat)(n:Nat->Nat)(cs:Nat->List Value):Prop where
 p:ah H (at_ D.pb)=some (.cells [.slice (some ⟨D.rb,0,some 1⟩) D.m D.rc,D.sv])
 r:ah H (at_ D.rb)=some (.cells (D.row n))
 l:∀j,j<D.m->ah H (at_ (D.d j))=some (.cells (cs j))/\(cs j).length=D.o j+n j/\n j<=D.c j/\D.c j<=ft/\D.d j<nx/\D.d j≠D.rb/\D.d j≠D.pb
 ne:D.rb≠D.pb
 lt:D.pb<nx/\D.rb<nx
 inj:∀i j,i<D.m->j<D.m->D.d i=D.d j->i=j
variable {D:G1}{n:Nat->Nat}{cs:Nat->List Value}
theorem G1.Da{j:Nat}(h:j<D.m):(D.row n)[0+j*1]?=some (D.v n j):=by
 unfold G1.row;rw[Nat.zero_add,Nat.mul_one,eD,wz h];rfl
theorem zX.same(st:zX D H nx n cs)(hs:aq H H' nx)(hn:nx<=nx'):zX D H' nx' n cs:=
 ⟨(hs _ st.lt.1).trans st.p,(hs _ st.lt.2).trans st.r,λj hj=>let ⟨h1,h2,h3,h4,h5,h6,h7⟩:=st.l j hj;⟨(hs _ h5).trans h1,h2,h3,h4,kN h5 hn,h6,h7⟩,st.ne,⟨kN st.lt.1 hn,kN st.lt.2 hn⟩,st.inj⟩
theorem zX.put(st:zX D H nx n cs){i:Nat}(hi:i<D.m){l:List Value}(hl:l.length=(cs i).length):zX D (aC H (D.d i) l) nx n (qA cs i l):=by
 obtain⟨h1,h2,h3,h4,h5,h6,h7⟩:=st.l i hi;refine⟨by rw[ak,aw (λe=>h7 e.symm)];exact st.p,by rw[ak,aw (λe=>h6 e.symm)];exact st.r,λj hj=>?_,st.ne,st.lt,st.inj⟩;by_cases e:j=i
 ·subst e;rw[eB];exact⟨aj,by rw[hl];exact h2,h3,h4,h5,h6,h7⟩
 ·obtain⟨g1,g⟩:=st.l j hj;rw[r9 e];exact⟨by rw[ak,aw (λe'=>e (st.inj j i hj hi e'))];exact g1,g⟩
theorem zX.app(st:zX D H nx n cs){i:Nat}(hi:i<D.m){v:Value}(hc:n i<D.c i) :
  zX D (aC (aC H (D.d i) (cs i++[v])) D.rb ((D.row n).set i (.slice (some ⟨D.d i,D.o i,some 1⟩) (n i+1) (2*D.c i+1)))) nx (qA n i (n i+1)) (qA cs i (cs i++[v])):=by
 obtain⟨h1,h2,h3,h4,h5,h6,h7⟩:=st.l i hi;refine⟨by rw[ak,aw (λe=>st.ne e.symm),ak,aw (λe=>h7 e.symm)];exact st.p,?_,λj hj=>?_,st.ne,st.lt,st.inj⟩
 ·rw[aj]
  congr 2
  apply mb;intro j;unfold G1.row;rw[fZ];by_cases e:i=j
  ·subst e;rw[aJ rfl,aJ (by simpa using hi),eD,wz hi];show some _=some (D.v _ i);unfold G1.v;rw[eB]
  ·rw[aw e,eD,eD];cases hj:(List.range D.m)[j]? with
   | none=>rfl
   | some q=>
    have:q=j:=by
     have cg:=(cS.1 hj).1;rw[wz (by simpa using cg)]at hj;exact(jk hj).symm
    subst this;show some (D.v n q)=some (D.v _ q);unfold G1.v;rw[r9 (λe'=>e e'.symm)]
 ·by_cases e:j=i
  ·subst e;rw[eB,eB];exact⟨by rw[ak,aw h6,aj],by rw[cm,h2];rfl,V,h4,h5,h6,h7⟩
  ·obtain⟨g1,g2,g3,g4,g5,g6,g7⟩:=st.l j hj;rw[r9 e,r9 e];exact⟨by rw[ak,aw g6,ak,aw (λe'=>e (st.inj j i hj hi e'))];exact g1,g2,g3,g4,g5,g6,g7⟩
theorem eO{base:Option Addr}{n c:Nat}:mc (.slice base n c) (.slice base n c)=true:=yA
theorem yO{g:FuncId}(hf:A.funcs g=some tF)(hh:zhN A g){n c:Nat}(hn:n<=100000) :
  WF A g [.int .i64 (n:Int),.int .i64 (c:Int)] H nx λv H' nx'=>H'=H/\nx'=nx/\v=.int .i64 ((min c (n+2000):Nat):Int):=by
 refine WF.enter (hh _ _ _) hf ?_
 repeat' (first|refine aE ?_|fail)
 refine aD (vs:=[_]) rfl ⟨rfl,rfl,?_⟩;show Value.int .i64 _=.int .i64 _
 congr 1
 omega
theorem afG(st:zX D H nx n cs){i N:Nat}(hi:i<D.m)(hm:D.m<=100000)(hN:N<=D.c i)(hN2:N<=100000)(V8:n i<=100000)(bq:∀σ H' nx' r l,bD [([],.pointer (some ⟨D.pb,0,none⟩)),(S3,.int .i64 ((i:Nat):Int))] σ->nx<=nx'->r<=100000->zX D H' nx' (qA n i r) (qA cs i l)->Q (.exit 2) σ H' nx') :
  WC A (.loop PW) [([],.pointer (some ⟨D.pb,0,none⟩)),(S3,.int .i64 ((i:Nat):Int)),(S4,.int .i64 ((N:Nat):Int))] H nx Q:=by
 refine WC.loop (α:=Nat×List Value) (λ_=>[([],.pointer (some ⟨D.pb,0,none⟩)),(S3,.int .i64 ((i:Nat):Int)),(S4,.int .i64 ((N:Nat):Int))])
  (λk H' nx'=>nx<=nx'/\k.1<=100000/\zX D H' nx' (qA n i k.1) (qA cs i k.2)) (λk=>N-k.1)
  ?_ (n i,cs i) aX ⟨au _,V8,by
   have e1:qA n i (n i)=n:=by funext j;unfold qA;split<;>simp_all
   have e2:qA cs i (cs i)=cs:=by funext j;unfold qA;split<;>simp_all
   rw[e1,e2];exact st⟩
 rintro⟨r,l⟩ H1 aQ ⟨cH,ql,ll⟩;simp only at ql ll ⊢;have hp:=ll.p;have hr:=ll.r;have q1:(D.row (qA n i r))[0+i*1]?=some (.slice (some ⟨D.d i,D.o i,some 1⟩) r (2*D.c i+1)):=by
  rw[D.Da hi];unfold G1.v;rw[eB]
 obtain⟨h1,h2,h3,h4,h5,h6,h7⟩:=ll.l i hi;simp only[eB]at h1 h2 h3;have cg:=ll.lt;have oY:(D.row (qA n i r)).length=D.m:=by simp[G1.row]
 unfold PW
 repeat' (first|refine aE ?_|(refine bJ ?_ ?_<;>intro h<;>(try simp only[aL]at h))|fail)
 ·have vd:r<D.c i:=V;have ru:ah (aC H1 aQ [.int .i64 0]) (at_ (D.d i))=some (.cells l):=by rw[ak,aw V];exact h1
  refine WO.na rfl ?_;refine bG.of (Act.pk (n:=1) (l:=l++[.int .i64 0]) rfl rfl (dL Rd.self rfl) V V rfl ru (by rw[bU];omega) (By (by simp) V)) ?_;refine⟨.look rfl (Rd.skip V (Rd.skip V (Rd.own hp))) rfl rfl eO .nil,?_⟩;have qp:ah (aC (aC H1 aQ [.int .i64 0]) (D.d i) (l++[.int .i64 0])) (at_ D.rb)=some (.cells (D.row (qA n i r))):=by rw[ak,aw V,ak,aw V];exact hr
  repeat' (first|refine aE ?_|fail)
  refine⟨(r+1,l++[.int .i64 0]),by show N-(r+1)<N-r;omega,.cons rfl aX,V,by show r+1<=_;omega,?_⟩;have xn:zX D (aC H1 aQ [.int .i64 0]) (aQ+1) (qA n i r) (qA cs i l):=ll.same (aq.refl.set (au _)) (cE _);have My:=xn.app hi (v:=.int .i64 0) (by rw[eB];exact vd);rw[eB,eB,xm,xm]at My;rw[show 0+i*1=i by omega];exact My
 ·exact bq _ _ _ r l aX cH ql ll
theorem afH(st:zX D H nx n cs){i:Nat}(hi:i<D.m)(hm:D.m<=100000)(V8:n i<=100000)(bq:∀σ H' nx' l,bD [([],.pointer (some ⟨D.pb,0,none⟩)),(S3,.int .i64 ((i:Nat):Int))] σ->nx<=nx'->zX D H' nx' n (qA cs i l)->(∀q,q<n i->l[D.o i+q]?=some (.int .i64 (-1000-(i:Int))))->Q (.exit 4) σ H' nx') :
  WC A (.loop PX) [([],.pointer (some ⟨D.pb,0,none⟩)),(S3,.int .i64 ((i:Nat):Int)),(S5,.int .i64 0)] H nx Q:=by
 refine WC.loop (α:=Nat×List Value) (λk=>[([],.pointer (some ⟨D.pb,0,none⟩)),(S3,.int .i64 ((i:Nat):Int)),(S5,.int .i64 ((k.1:Nat):Int))])
  (λk H' nx'=>nx<=nx'/\k.1<=n i/\zX D H' nx' n (qA cs i k.2)/\∀q,q<k.1->k.2[D.o i+q]?=some (.int .i64 (-1000-(i:Int)))) (λk=>n i-k.1)
  ?_ (0,cs i) aX ⟨au _,bS _,by
   have e2:qA cs i (cs i)=cs:=by funext j;unfold qA;split<;>simp_all
   rw[e2];exact st,λq hq=>absurd hq (SS _)⟩
 rintro⟨k,l⟩ H1 aQ ⟨cH,hk,ll,ie⟩;simp only at hk ll ie ⊢;have hp:=ll.p;have hr:=ll.r;have q1:(D.row n)[0+i*1]?=some (.slice (some ⟨D.d i,D.o i,some 1⟩) (n i) (2*D.c i+1)):=D.Da hi;obtain⟨h1,h2,h3,h4,h5,h6,h7⟩:=ll.l i hi;simp only[eB]at h1 h2;have cg:=ll.lt;unfold PX
 repeat' (first|refine aE ?_|(refine bJ ?_ ?_<;>intro h<;>(try simp only[aL]at h))|fail)
 ·try (refine WO.n rfl ?_;refine bG.of (Act.sub (a:=-1000) (b:=(i:Int)) rfl rfl (by unfold Fs;omega)) ?_)
  skip
  refine⟨(k+1,l.set (D.o i+k*1) (.int .i64 (-1000-(i:Int)))),by show n i-(k+1)<n i-k;omega,.cons rfl aX,V,by show k+1<=_;omega,?_,λq hq=>?_⟩
  ·have xn:=ll.put hi (l:=l.set (D.o i+k*1) (.int .i64 (-1000-(i:Int)))) (by rw[eB,iq]);rw[xm]at xn;exact xn
  ·show (l.set _ _)[_]?=_;rw[Nat.mul_one,fZ];by_cases e:k=q
   ·subst e;rw[aJ rfl,aJ V]
   ·rw[aw V];exact ie q (by show q<k;have:q<k+1:=hq;omega)
 ·have:k=n i:=V;subst this;exact bq _ _ _ l aX cH ll ie
theorem afI(st:zX D H nx n cs){i:Nat}(hi:i<D.m)(hm:D.m<=100000)(V8:n i<=100000)(ie:∀q,q<n i->(cs i)[D.o i+q*1]?=some (.int .i64 (-1000-(i:Int))))(bq:∀σ,bD [([],.pointer (some ⟨D.pb,0,none⟩)),(S6,.int .i64 ((i:Nat):Int))] σ->Q (.exit 8) σ H nx) :
  WC A (.loop PY) [([],.pointer (some ⟨D.pb,0,none⟩)),(S6,.int .i64 ((i:Nat):Int)),(S7,.int .i64 0)] H nx Q:=by
 refine WC.loop (α:=Nat) (λk=>[([],.pointer (some ⟨D.pb,0,none⟩)),(S6,.int .i64 ((i:Nat):Int)),(S7,.int .i64 ((k:Nat):Int))])
  (λk H' nx'=>k<=n i/\H'=H/\nx'=nx) (λk=>n i-k)
  ?_ 0 aX ⟨bS _,rfl,rfl⟩
 rintro k _ _ ⟨hk,rfl,rfl⟩;have hp:=st.p;have hr:=st.r;have q1:(D.row n)[0+i*1]?=some (.slice (some ⟨D.d i,D.o i,some 1⟩) (n i) (2*D.c i+1)):=D.Da hi;obtain⟨h1,h2,h3,h4,h5,h6,h7⟩:=st.l i hi;unfold PY
 repeat' (first|refine aE ?_|(refine bJ ?_ ?_<;>intro h<;>(try simp only[aL]at h))|fail)
 ·have q2:=ie k V
  repeat' (first|refine aE ?_|(refine bJ ?_ ?_<;>intro h<;>(try simp only[aL]at h))|fail)
  try (refine WO.n rfl ?_;refine bG.of (Act.sub (a:=-1000) (b:=(i:Int)) rfl rfl (by unfold Fs;omega)) ?_)
  skip
  ·exact absurd rfl h
  ·exact⟨k+1,V,.cons rfl aX,V,rfl,rfl⟩
 ·exact bq _ aX
theorem ap2(st:zX D H nx n cs)(hm:D.m<=100000)(V8:∀i,i<D.m->n i<=100000)(ie:∀i q,i<D.m->q<n i->(cs i)[D.o i+q*1]?=some (.int .i64 (-1000-(i:Int))))(bq:∀σ,Q (.exit 6) σ H nx) :
  WC A (.loop XP) [([],.pointer (some ⟨D.pb,0,none⟩)),(S6,.int .i64 0)] H nx Q:=by
 refine WC.loop (α:=Nat) (λk=>[([],.pointer (some ⟨D.pb,0,none⟩)),(S6,.int .i64 ((k:Nat):Int))])
  (λk H' nx'=>k<=D.m/\H'=H/\nx'=nx) (λk=>D.m-k)
  ?_ 0 aX ⟨bS _,rfl,rfl⟩
 rintro k _ _ ⟨hk,rfl,rfl⟩;have hp:=st.p;unfold XP
 repeat' (first|refine aE ?_|(refine bJ ?_ ?_<;>intro h<;>(try simp only[aL]at h))|fail)
 ·refine WC.sub aX (afI st (i:=k) V hm (V8 k V) (λq hq=>ie k q V hq) (λσ hσ=>?_));refine kW (Md (lO (WC.sub hσ ?_)))
  repeat' (first|refine aE ?_|fail)
  exact⟨k+1,V,.cons rfl aX,V,rfl,rfl⟩
 ·exact bq _
theorem ap1(V9:A.funcs 38=some tF)(FM:zhN A 38)(st:zX D H nx n cs)(hm:D.m<=100000)(V8:∀i,i<D.m->n i<=4000)(bq:∀σ H' nx' n' cs',bD [([],.pointer (some ⟨D.pb,0,none⟩))] σ->zX D H' nx' n' cs'->(∀i,i<D.m->n' i<=100000)->(∀i q,i<D.m->q<n' i->(cs' i)[D.o i+q*1]?=some (.int .i64 (-1000-(i:Int))))->Q (.exit 0) σ H' nx') :
  WC A (.loop XN) [([],.pointer (some ⟨D.pb,0,none⟩)),(S3,.int .i64 0)] H nx Q:=by
 refine WC.loop (α:=Nat×(Nat->Nat)×(Nat->List Value)) (λk=>[([],.pointer (some ⟨D.pb,0,none⟩)),(S3,.int .i64 ((k.1:Nat):Int))])
  (λk H' nx'=>k.1<=D.m/\zX D H' nx' k.2.1 k.2.2/\(∀i,i<D.m->k.2.1 i<=100000)/\(∀i,k.1<=i->i<D.m->k.2.1 i<=4000)/\∀i q,i<k.1->q<k.2.1 i->(k.2.2 i)[D.o i+q*1]?=some (.int .i64 (-1000-(i:Int)))) (λk=>D.m-k.1)
  ?_ (0,n,cs) aX ⟨bS _,st,λi hi=>hX (V8 i hi) V,λi _ hi=>V8 i hi,λi q hi=>absurd hi (SS _)⟩
 rintro⟨k,n1,JH⟩ H1 aQ ⟨hk,ll,dS,k9,ie⟩;simp only at hk ll dS k9 ie ⊢;have hp:=ll.p;have hr:=ll.r;unfold XN
 repeat' (first|refine aE ?_|(refine bJ ?_ ?_<;>intro h<;>(try simp only[aL]at h))|fail)
 ·have Bs:k<D.m:=V;have q1:(D.row n1)[0+k*1]?=some (.slice (some ⟨D.d k,D.o k,some 1⟩) (n1 k) (2*D.c k+1)):=D.Da Bs
  repeat' (first|refine aE ?_|fail)
  refine WO.n rfl ?_;refine bG.of (Act.Xz rfl (u3 _)) ?_;rw[bU];refine WO.cn rfl ?_;refine(yO V9 FM (by have:=k9 k (au _) Bs;omega)).of ?_;rintro _ H1 aQ ⟨rfl,rfl,rfl⟩
  repeat' (first|refine aE ?_|fail)
  have hb:=k9 k (au _) Bs;refine WC.sub aX (afG ll Bs hm (N:=min (D.c k) (n1 k+2000)) (Nat.min_le_left _ _) V (dS k Bs) (λσ H2 nx2 r l hσ fg Ek xn=>?_));refine kW (lO (WC.sub hσ ?_))
  repeat' (first|refine aE ?_|fail)
  refine WC.sub aX (afH xn Bs hm (by rw[eB];exact Ek) (λσ H3 bW l2 hσ j8 My nc=>?_));rw[xm]at My;rw[eB]at nc;refine kW (Md (lO (WC.sub hσ ?_)))
  repeat' (first|refine aE ?_|fail)
  refine⟨(k+1,qA n1 k r,qA JH k l2),by show D.m-(k+1)<D.m-k;omega,.cons rfl aX,by show k+1<=_;omega,My,λi hi=>?_,λi hi him=>?_,λi q hi hq=>?_⟩
  ·show qA n1 k r i<=_;by_cases e:i=k
   ·subst e;rw[eB];exact Ek
   ·rw[r9 e];exact dS i hi
  ·have zR:k+1<=i:=hi;show qA n1 k r i<=_;rw[r9 V];exact k9 i V him
  ·have zR:i<k+1:=hi;have iE:q<qA n1 k r i:=hq;show (qA JH k l2 i)[_]?=_;by_cases e:i=k
   ·subst e;rw[eB]at iE ⊢;rw[Nat.mul_one];exact nc q iE
   ·rw[r9 e]at iE ⊢;exact ie i q V iE
 ·have Bs:k=D.m:=V;subst Bs;exact bq _ _ _ n1 JH aX ll dS ie
theorem apart_spec{g:FuncId}(hf:A.funcs g=some Iv)(V9:A.funcs 38=some tF)(hh:zhN A g)(FM:zhN A 38)(st:zX D H nx n cs)(hm:D.m<=100000)(hn:∀j,j<D.m->n j<=4000) :
  WF A g [.pointer (some ⟨D.pb,0,none⟩)] H nx λv _ _=>v=.bool true:=by
 refine WF.enter (hh _ _ _) hf ?_
 repeat' (first|refine aE ?_|fail)
 refine WC.sub aX (ap1 V9 FM st hm hn (λσ H2 nx2 n2 kf hσ xn k9 QM=>?_));refine kW (lO (WC.sub hσ ?_))
 repeat' (first|refine aE ?_|fail)
 refine WC.sub aX (ap2 xn hm k9 QM (λσ=>?_));refine kW (lO ?_)
 repeat' (first|refine aE ?_|fail)
 exact aD (vs:=[_]) rfl rfl
end
section
variable {A:aN}{H H':Heap}{nx nx':Nat}{σ:aR}{Q:cw}{P:Program}{ins:List Nat}
theorem Mz{g:FuncId}(hf:A.funcs g=some Iv)(hh:zhN A g){pb:Nat}{sv:Value}(hp:ah H (at_ pb)=some (.cells [.slice none 0 0,sv])) :
  WF A g [.pointer (some ⟨pb,0,none⟩)] H nx λv _ _=>v=.bool true:=by
 refine WF.enter (hh _ _ _) hf ?_
 repeat' (first|refine aE ?_|fail)
 refine WC.loop (α:=Unit) (λ_=>[([],.pointer (some ⟨pb,0,none⟩)),(S3,.int .i64 0)]) (λ_ H' nx'=>H'=H/\nx'=nx) (λ_=>0) ?_ () aX ⟨rfl,rfl⟩;rintro _ _ _ ⟨rfl,rfl⟩
 repeat' (first|refine aE ?_|(refine bJ ?_ ?_<;>intro h<;>(try simp only[aL]at h))|fail)
 all_goals try (exfalso;omega)
 refine WC.loop (α:=Unit) (λ_=>[([],.pointer (some ⟨pb,0,none⟩)),(S6,.int .i64 0)]) (λ_ H' nx'=>H'=_/\nx'=_) (λ_=>0) ?_ () aX ⟨rfl,rfl⟩;rintro _ _ _ ⟨rfl,rfl⟩
 repeat' (first|refine aE ?_|(refine bJ ?_ ?_<;>intro h<;>(try simp only[aL]at h))|fail)
 all_goals first|exact aD (vs:=[_]) rfl rfl|(exfalso;omega)
def sD:Value->Nat
 | .slice (some ⟨d,_,_⟩) _ _=>d
 | _=>0
def sO:Value->Nat
 | .slice (some ⟨_,o,_⟩) _ _=>o
 | _=>0
def sN:Value->Nat
 | .slice _ n _=>n
 | _=>0
def sC:Value->Nat
 | .slice _ _ c=>c
 | _=>0
noncomputable def Db(H:Heap)(d:Nat):List Value:=match ah H (at_ d)with
 | some (.cells l)=>l
 | _=>[]
def FD(vs:List Value)(H:Heap)(nx:Nat):Prop:=∃pb lv sv nx0 us,vs=[.pointer (some ⟨pb,0,none⟩)]/\ah H (at_ pb)=some (.cells [lv,sv])/\bP H nx0 nx 1 lv us.length us/\pb<nx0/\nx0<=nx/\us.length<=100000/\
 (∀(i:Nat) (u:Value),us[i]?=some u->∃d o n c cs,u=.slice (some ⟨d,o,some 1⟩) n c/\ah H (at_ d)=some (.cells cs)/\cs.length=o+n/\n<=4000/\d<nx/\d≠pb/\bk lv≠some d)/\
 ∀(i j:Nat) (u w:Value),us[i]?=some u->us[j]?=some w->bk u=bk w->i=j
theorem Iw(hA:GR P ins A){g:FuncId}(qU:fI P g)(hf:A.funcs g=some Iv)(V9:A.funcs 38=some tF)(hh:zhN A g)(FM:zhN A 38){vs:List Value}(hp:FD vs H nx):dX P g vs H nx (.ok (.bool true) .e nx):=by
 obtain⟨pb,lv,sv,nx0,us,rfl,ng,hg,CN,yz,iF,sB,afJ⟩:=hp;refine dX.refined hA qU rfl λρ ws w hv hH=>?_
 obtain⟨NG,⟨rfl,h0⟩|⟨rb,rfl,CR,dS,hr⟩⟩:=hg
 ·exact⟨_,H,hv,hH,λ_ h=>h,Mz hf hh ng⟩
 obtain⟨kf,nc,JU,zY,mT⟩:=hH.roomy hr;have form:∀j,j<us.length->∃d o n c' cs,kf[j]?=some (.slice (some ⟨d,o,some 1⟩) n (2*c'+1))/\n<=c'/\c'<=ft/\ah H (at_ d)=some (.cells cs)/\cs.length=o+n/\n<=4000/\d<nx/\d≠pb/\d≠rb/\∃c,us[j]?=some (.slice (some ⟨d,o,some 1⟩) n c):=by
  intro j hj;have hu:us[j]?=some us[j]:=aM hj;have vE:kf[j]?=some kf[j]:=aM V;obtain⟨d,o,n,c,cs,he,g1,g2,g3,g4,g5,g6⟩:=sB j _ hu;have ql:=(JU j _ _ hu vE).1 d o 1 n c he;obtain⟨c',q1,q2,q3⟩:=ql;refine⟨d,o,n,c',cs,by rw[vE,q1],q2,q3,g1,g2,g3,g4,g5,λe=>g6 (by rw[e];rfl),c,by rw[hu,he]⟩
 let D:G1:=⟨pb,rb,us.length,2*us.length,sv,λj=>sD (kf.getD j undef),λj=>sO (kf.getD j undef),λj=>sC (kf.getD j undef) / 2⟩
 have dv:D.row (λj=>sN (kf.getD j undef))=kf:=by
  apply mb;intro j;unfold G1.row;rw[eD];by_cases hj:j<us.length
  ·rw[wz (by exact hj)];obtain⟨d,o,n,c',cs,h1,_⟩:=form j hj;rw[h1];show some (D.v _ j)=_;unfold G1.v;have hd:kf.getD j undef=.slice (some ⟨d,o,some 1⟩) n (2*c'+1):=by rw[aY,h1];rfl
   show some (Value.slice (some ⟨sD (kf.getD j undef),sO (kf.getD j undef),some 1⟩) (sN (kf.getD j undef)) (2*(sC (kf.getD j undef) / 2)+1))=_;rw[hd];show some (Value.slice (some ⟨d,o,some 1⟩) n (2*((2*c'+1) / 2)+1))=_
   congr 2
   omega
  ·have h1:(List.range D.m)[j]?=none:=gx (by simp;exact Nat.le_of_not_lt hj);have h2:kf[j]?=none:=gx V;rw[h1,h2];rfl
 refine⟨_,_,hv,zY,mT,apart_spec (D:=D) (n:=λj=>sN (kf.getD j undef)) (cs:=λj=>Db H (sD (kf.getD j undef))) hf V9 hh FM ⟨?_,?_,λj hj=>?_,?_,⟨?_,dS⟩,λi j hi hj he=>?_⟩ iF λj hj=>?_⟩
 ·show ah (aC H rb kf) (at_ pb)=_;rw[ak,aw V];exact ng
 ·show ah (aC H rb kf) (at_ rb)=_;rw[aj,dv]
 ·obtain⟨d,o,n,c',cs,h1,h2,h3,h4,h5,h6,h7,h8,h9,_⟩:=form j hj;have hd:kf.getD j undef=.slice (some ⟨d,o,some 1⟩) n (2*c'+1):=by rw[aY,h1];rfl
  have e1:D.d j=d:=by show sD (kf.getD j undef)=d;rw[hd];rfl
  have e2:D.o j=o:=by show sO (kf.getD j undef)=o;rw[hd];rfl
  have e3:D.c j=c':=by show sC (kf.getD j undef) / 2=c';rw[hd];show (2*c'+1) / 2=c';omega
  have e4:sD (kf.getD j undef)=d:=by rw[hd];rfl
  have e5:sN (kf.getD j undef)=n:=by rw[hd];rfl
  simp only[e1,e2,e3,e4,e5];have hc:Db H d=cs:=by unfold Db;rw[h4]
  rw[hc];refine⟨?_,h5,h2,h3,h7,h9,h8⟩;show ah (aC H rb kf) (at_ d)=_;rw[ak,aw h9];exact h4
 ·show rb≠pb;omega
 ·show pb<nx;omega
 ·obtain⟨d,o,n,c',cs,h1,_,_,_,_,_,_,_,_,c,h2⟩:=form i hi;obtain⟨d',o',n',O1,cs',ru,_,_,_,_,_,_,_,_,cc,DP⟩:=form j hj;have hd:kf.getD i undef=.slice (some ⟨d,o,some 1⟩) n (2*c'+1):=by rw[aY,h1];rfl
  have Hn:kf.getD j undef=.slice (some ⟨d',o',some 1⟩) n' (2*O1+1):=by rw[aY,ru];rfl
  have zP:sD (kf.getD i undef)=sD (kf.getD j undef):=he;rw[hd,Hn]at zP;have:d=d':=zP;subst this;exact afJ i j _ _ h2 DP rfl
 ·obtain⟨d,o,n,c',cs,h1,_,_,_,_,h6,_⟩:=form j hj;have hd:kf.getD j undef=.slice (some ⟨d,o,some 1⟩) n (2*c'+1):=by rw[aY,h1];rfl
  show sN (kf.getD j undef)<=_;rw[hd];exact h6
end
section
variable {A:aN}{H:Heap}{nx:Nat}{σ:aR}{Q:cw}
def zZ(n:Int)(e:Int×Int):Prop:=0<=e.1/\e.1<n/\0<=e.2/\e.2<n
instance (n:Int)(e:Int×Int):Decidable (zZ n e):=by unfold zZ;infer_instance
def kK(n:Int)(es:List (Int×Int)):Prop:=0<=n/\n<=1024/\es.length<=3072/\∀e∈es,zZ n e
instance (n:Int)(es:List (Int×Int)):Decidable (kK n es):=by unfold kK;infer_instance
theorem QN{P:Prop}[Decidable P](h:P):Value.bool true=.bool (decide P):=by rw[fB h]
theorem pQ{P:Prop}[Decidable P](h:¬P):Value.bool false=.bool (decide P):=by rw[im h]
theorem afK{n:Int}{es:List (Int×Int)}{c k b o:Nat}{cs:List Value}{e:Int×Int}(hk:k<es.length)(hb:b<nx)(hr:Rd H b cs)(g1:cs[o+k*2]?=some (.int .i64 e.1))(g2:cs[o+k*2+1]?=some (.int .i64 e.2))(jf:¬zZ n e->∀σ,bD [(S2,.bool false)] σ->Q .ret σ (aC H nx [.int .i64 n,.slice (some ⟨b,o,some 2⟩) es.length c]) (nx+1))(bq:zZ n e->∀σ,bD [(S1,.pointer (some ⟨nx,0,none⟩)),(S3,.int .i64 k)] σ->Q (.exit 2) σ (aC H nx [.int .i64 n,.slice (some ⟨b,o,some 2⟩) es.length c]) (nx+1)) :
  WC A (.loop PZ) [(S1,.pointer (some ⟨nx,0,none⟩)),(S3,.int .i64 k),(S4,.int .i64 (Int.ofNat 0))] (aC H nx [.int .i64 n,.slice (some ⟨b,o,some 2⟩) es.length c]) (nx+1) Q:=by
 refine WC.loop (α:=Nat) (λj=>[(S1,.pointer (some ⟨nx,0,none⟩)),(S3,.int .i64 k),(S4,.int .i64 j)])
  (λj H' nx'=>H'=aC H nx [.int .i64 n,.slice (some ⟨b,o,some 2⟩) es.length c]/\nx'=nx+1/\j<=2/\(0<j->0<=e.1/\e.1<n)/\(1<j->0<=e.2/\e.2<n)) (λj=>2-j)
  ?_ 0 (bD.cons rfl (bD.cons rfl (bD.cons rfl (bD.nil _)))) ⟨rfl,rfl,bS _,λh=>by omega,λh=>by omega⟩
 rintro j _ _ ⟨rfl,rfl,hj,hj0,AI⟩;have hc:j<2->cs[o+k*2+j*1]?=some (.int .i64 (if j=0 then e.1 else e.2)):=by
  intro cg;rcases(show j=0\/j=1 by omega)with rfl|rfl
  ·exact g1
  ·exact g2
 unfold PZ
 repeat' (first|refine aE ?_|(refine bJ ?_ ?_<;>intro h<;>(try simp only[aL]at h))|fail)
 ·have hc':=hc V;clear hc
  repeat' (first|refine aE ?_|(refine bJ ?_ ?_<;>intro h<;>(try simp only[aL]at h))|fail)
  ·exact jf (λh=>by unfold zZ at h;split at *<;>omega) _ (bD.cons rfl (bD.nil _))
  ·exact jf (λh=>by unfold zZ at h;split at *<;>omega) _ (bD.cons rfl (bD.nil _))
  ·exact⟨j+1,V,bD.cons rfl (bD.cons rfl (bD.cons rfl (bD.nil _))),rfl,rfl,V,λ_=>by split at *<;>omega,λ_=>by split at *<;>omega⟩
 ·exact bq (by have:=hj0 V;have:=AI V;unfold zZ;omega) _ (bD.cons rfl (bD.cons rfl (bD.nil _)))
theorem afL{n:Int}{es:List (Int×Int)}{base:Option Addr}{c:Nat}(he:bL H nx 2 aW (.slice base es.length c) es)(hlen:es.length<=3072)(jf:¬(∀e∈es,zZ n e)->∀σ,bD [(S2,.bool false)] σ->Q .ret σ (aC H nx [.int .i64 n,.slice base es.length c]) (nx+1))(bq:(∀e∈es,zZ n e)->∀σ,Q (.exit 0) σ (aC H nx [.int .i64 n,.slice base es.length c]) (nx+1)) :
  WC A (.loop P0) [(S1,.pointer (some ⟨nx,0,none⟩)),(S3,.int .i64 (Int.ofNat 0))] (aC H nx [.int .i64 n,.slice base es.length c]) (nx+1) Q:=by
 refine WC.loop (α:=Nat) (λk=>[(S1,.pointer (some ⟨nx,0,none⟩)),(S3,.int .i64 k)]) (λk H' nx'=>H'=aC H nx [.int .i64 n,.slice base es.length c]/\nx'=nx+1/\k<=es.length/\∀(i:Nat) e,i<k->es[i]?=some e->zZ n e) (λk=>es.length-k)
  ?_ 0 (bD.cons rfl (bD.cons rfl (bD.nil _))) ⟨rfl,rfl,bS _,λi e h=>by omega⟩
 rintro k _ _ ⟨rfl,rfl,hk,ie⟩;unfold P0
 repeat' (first|refine aE ?_|(refine bJ ?_ ?_<;>intro h<;>(try simp only[aL]at h))|fail)
 ·obtain⟨b,o,cs,rfl,hb,_,_,hr,oG⟩:=he.at (by intro e;rw[e]at h;simp at h;omega);have cg:k<es.length:=V;obtain⟨g1,g2⟩:=J2 (oG k es[k] (by simp[cg]));refine WC.sub (bD.cons rfl (bD.cons rfl (bD.cons rfl (bD.nil _)))) (afK (e:=es[k]) cg hb hr g1 g2 (λhn σ hσ=>?_) (λhy σ hσ=>?_))
  ·repeat' (first|refine aE ?_|fail)
   exact jf (λh=>hn (h _ (jE cg))) _ hσ
  ·refine WC.sub hσ ?_
   repeat' (first|refine aE ?_|fail)
   exact⟨k+1,V,bD.cons rfl (bD.cons rfl (bD.nil _)),rfl,rfl,V,λi e hi he=>by
    rcases(show i<k\/i=k by omega)with h|rfl
    ·exact ie i e h he
    ·have:e=es[i]:=by rw[aM cg]at he;simpa using he.symm
     rw[this];exact hy⟩
 ·refine bq (λe zP=>?_) _;obtain⟨i,hi,rfl⟩:=kG zP;exact ie i _ V (aM hi)
theorem tK{g:FuncId}(hf:A.funcs g=some T4)(hh:zhN A g){n:Int}{ev:Value}{es:List (Int×Int)}(he:bL H nx 2 aW ev es) :
  WF A g [.agg #[.int .i64 n,ev]] H nx λv H' nx'=>v=.bool (decide (kK n es))/\aq H H' nx/\nx<=nx':=by
 obtain⟨base,c,rfl⟩:=he.form;refine WF.enter (hh _ _ _) hf ?_
 repeat' (first|refine aE ?_|(refine bJ ?_ ?_<;>intro h<;>(try simp only[aL]at h))|fail)
 ·exact aD rfl ⟨pQ λhm=>by have:=hm.1;omega,aq.refl.set (au _),V⟩
 ·exact aD rfl ⟨pQ λhm=>by have:=hm.2.1;omega,aq.refl.set (au _),V⟩
 ·exact aD rfl ⟨pQ λhm=>by have:=hm.2.2.1;omega,aq.refl.set (au _),V⟩
 ·refine WC.sub (bD.cons rfl (bD.cons rfl (bD.nil _))) (afL he V (λhn σ hσ=>?_) (λhy σ=>?_))
  ·repeat' (first|refine aE ?_|fail)
   exact tu (vs:=[_]) hσ rfl ⟨pQ λhm=>hn hm.2.2.2,aq.refl.set (au _),V⟩
  ·refine kW (lO (WC.sub (bD.nil _) ?_))
   repeat' (first|refine aE ?_|fail)
   exact aD (vs:=[_]) rfl ⟨QN (P:=kK n es) ⟨V,V,V,hy⟩,aq.refl.set (au _),V⟩
end
section
variable {A:aN}{H:Heap}{nx:Nat}{σ:aR}{Q:cw}
theorem acm{n:Int}{k m:Nat}{sv:Value}{e:Int×Int}(hr:Rd H nx [.int .i64 n,sv]){nx':Nat}(jf:¬zZ n e->∀σ,bD [(S2,.bool false)] σ->Q .ret σ H nx')(bq:zZ n e->∀σ,bD [(S1,.pointer (some ⟨nx,0,none⟩)),(qZ,sv),(oM,.int .i64 m),(oq,.int .i64 k)] σ->Q (.exit 2) σ H nx') :
  WC A (.loop It) [(S1,.pointer (some ⟨nx,0,none⟩)),(qZ,sv),(oM,.int .i64 m),(oq,.int .i64 k),(PN,.agg ⟨aW e⟩),(NA,.int .i64 (Int.ofNat 0))] H nx' Q:=by
 refine WC.loop (α:=Nat) (λj=>[(S1,.pointer (some ⟨nx,0,none⟩)),(qZ,sv),(oM,.int .i64 m),(oq,.int .i64 k),(PN,.agg ⟨aW e⟩),(NA,.int .i64 j)])
  (λj H' nx2=>H'=H/\nx2=nx'/\j<=2/\(0<j->0<=e.1/\e.1<n)/\(1<j->0<=e.2/\e.2<n)) (λj=>2-j)
  ?_ 0 aX ⟨rfl,rfl,bS _,λh=>by omega,λh=>by omega⟩
 rintro j _ _ ⟨rfl,rfl,hj,hj0,AI⟩;have hc:j<2->(aW e)[j*1]?=some (.int .i64 (if j=0 then e.1 else e.2)):=by
  intro cg;rcases(show j=0\/j=1 by omega)with rfl|rfl<;>rfl
 unfold It
 repeat' (first|refine aE ?_|(refine bJ ?_ ?_<;>intro h<;>(try simp only[aL]at h))|fail)
 ·have hc':=hc V;clear hc
  repeat' (first|refine aE ?_|(refine bJ ?_ ?_<;>intro h<;>(try simp only[aL]at h))|fail)
  ·exact jf (λh=>by unfold zZ at h;split at *<;>omega) _ aX
  ·exact jf (λh=>by unfold zZ at h;split at *<;>omega) _ aX
  ·exact⟨j+1,V,.cons rfl aX,rfl,rfl,V,λ_=>by split at *<;>omega,λ_=>by split at *<;>omega⟩
 ·exact bq (by have:=hj0 V;have:=AI V;unfold zZ;omega) _ aX
theorem acn{H0:Heap}{n:Int}{es:List (Int×Int)}{base:Option Addr}{c aQ:Nat}(he:bL H0 nx 2 aW (.slice base es.length c) es)(hlen:es.length<=3072)(hr:Rd H nx [.int .i64 n,.slice base es.length c])(hs:aq H0 H nx)(hn:nx<aQ)(jf:¬(∀e∈es,zZ n e)->∀σ H' nx',bD [(S2,.bool false)] σ->aq H0 H' nx->nx<=nx'->Q .ret σ H' nx')(bq:(∀e∈es,zZ n e)->∀σ H' nx',aq H0 H' nx->nx<=nx'->Q (.exit 0) σ H' nx') :
  WC A (.loop Iu) [(S1,.pointer (some ⟨nx,0,none⟩)),(qZ,.slice base es.length c),(oM,.int .i64 es.length),(oq,.int .i64 (Int.ofNat 0))] H aQ Q:=by
 refine WC.loop (α:=Nat) (λk=>[(S1,.pointer (some ⟨nx,0,none⟩)),(qZ,.slice base es.length c),(oM,.int .i64 es.length),(oq,.int .i64 k)]) (λk H' nx'=>Rd H' nx [.int .i64 n,.slice base es.length c]/\aq H0 H' nx/\nx<nx'/\k<=es.length/\∀(i:Nat) e,i<k->es[i]?=some e->zZ n e) (λk=>es.length-k)
  ?_ 0 aX ⟨hr,hs,hn,bS _,λi e h=>by omega⟩
 clear hr hs hn;rintro k H aQ ⟨hr,hs,hn,hk,ie⟩;unfold Iu
 repeat' (first|refine aE ?_|(refine bJ ?_ ?_<;>intro h<;>(try simp only[aL]at h))|fail)
 ·obtain⟨b,o,cs,rfl,hb,_,_,uh,oG⟩:=he.at (by intro e;rw[e]at h;simp at h;omega);have cg:k<es.length:=V;have oX:=oG k es[k] (by simp[cg]);have ahT:=hs.rd hb uh
  repeat' (first|refine aE ?_|fail)
  refine WC.sub aX (acm (nx:=nx) (e:=es[k]) (n:=n) rdP (λGW σ hσ=>?_) (λhy σ hσ=>?_))
  ·repeat' (first|refine aE ?_|fail)
   exact jf (λh=>GW (h _ (jE cg))) _ _ _ hσ ((hs.set V).set V) V
  ·refine kW (Md (lO (WC.sub hσ ?_)))
   repeat' (first|refine aE ?_|fail)
   exact⟨k+1,V,.cons rfl aX,by(first|with_reducible apply Rd.self|with_reducible assumption|(with_reducible apply Rd.own;with_reducible assumption)|((repeat ((with_reducible apply Rd.skip);omega));first|with_reducible apply Rd.self|with_reducible assumption|(with_reducible apply Rd.own;with_reducible assumption))),(hs.set V).set V,V,V,λi e hi he=>by
    rcases(show i<k\/i=k by omega)with h|rfl
    ·exact ie i e h he
    ·have:e=es[i]:=by rw[aM cg]at he;simpa using he.symm
     rw[this];exact hy⟩
 ·refine bq (λe zP=>?_) _ _ _ hs V;obtain⟨i,hi,rfl⟩:=kG zP;exact ie i _ V (aM hi)
theorem qC{g:FuncId}(hf:A.funcs g=some vZ)(hh:zhN A g){n:Int}{ev:Value}{es:List (Int×Int)}(he:bL H nx 2 aW ev es) :
  WF A g [.agg #[.int .i64 n,ev]] H nx λv H' nx'=>v=.bool (decide (kK n es))/\aq H H' nx/\nx<=nx':=by
 obtain⟨base,c,rfl⟩:=he.form;refine WF.enter (hh _ _ _) hf ?_
 repeat' (first|refine aE ?_|(refine bJ ?_ ?_<;>intro h<;>(try simp only[aL]at h))|fail)
 ·exact aD rfl ⟨pQ λhm=>by have:=hm.1;omega,aq.refl.set (au _),V⟩
 ·exact aD rfl ⟨pQ λhm=>by have:=hm.2.1;omega,aq.refl.set (au _),V⟩
 ·exact aD rfl ⟨pQ λhm=>by have:=hm.2.2.1;omega,aq.refl.set (au _),V⟩
 ·refine WC.sub aX (acn he V Rd.self (aq.refl.set (au _)) V (λhn σ H' nx' hσ hs hx=>?_) (λhy σ H' nx' hs hx=>?_))
  ·repeat' (first|refine aE ?_|fail)
   exact tu (vs:=[_]) hσ rfl ⟨pQ λhm=>hn hm.2.2.2,hs,hx⟩
  ·refine kW (lO (WC.sub (bD.nil _) ?_))
   repeat' (first|refine aE ?_|fail)
   exact aD (vs:=[_]) rfl ⟨QN (P:=kK n es) ⟨V,V,V,hy⟩,hs,hx⟩
end
section
variable {A:aN}{H:Heap}{nx:Nat}{σ:aR}{Q:cw}
theorem ve{g:FuncId}(hf:A.funcs g=some VV)(hh:zhN A g){av bv:Value}{a b:List Int}(ha:bL H nx 1 aZ av a)(hb:bL H nx 1 aZ bv b)(hm4:a.length<=4000) :
  WF A g [av,bv] H nx λv H' nx'=>H'=H/\nx'=nx/\v=.bool (decide (a=b)):=by
 obtain⟨base,c,rfl⟩:=ha.form;obtain⟨QO,bc,rfl⟩:=hb.form;refine WF.enter (hh _ _ _) hf ?_
 repeat' (first|refine aE ?_|(refine bJ ?_ ?_<;>intro h<;>(try simp only[aL]at h))|fail)
 ·exact aD (vs:=[_]) rfl ⟨rfl,rfl,by rw[im (λe=>by rw[e]at h;exact h rfl)];rfl⟩
 ·have uD:a.length=b.length:=V;refine WC.loop (α:=Nat) (λk=>[([],.slice base a.length c),(S1,.slice QO b.length bc),(S5,.int .i64 k)]) (λk H' nx'=>H'=H/\nx'=nx/\k<=a.length/\∀i:Nat,i<k->a[i]?=b[i]?) (λk=>a.length-k)
   ?_ 0 aX ⟨rfl,rfl,bS _,λi h=>by omega⟩
  rintro k _ _ ⟨rfl,rfl,hk,ie⟩
  repeat' (first|refine aE ?_|(refine bJ ?_ ?_<;>intro h<;>(try simp only[aL]at h))|fail)
  ·have hka:k<a.length:=V;have GX:k<b.length:=V;obtain⟨b1,o1,JH,rfl,_,_,_,ql,afM⟩:=ha.at (by intro e;rw[e]at hka;simp at hka);obtain⟨b2,o2,kf,rfl,_,_,_,Ek,Mn⟩:=hb.at (by intro e;rw[e]at GX;simp at GX);have hx:=cX (v:=.int .i64 a[k]) (afM k a[k] (by simp[hka]));have hy:=cX (v:=.int .i64 b[k]) (Mn k b[k] (by simp[GX]))
   repeat' (first|refine aE ?_|(refine bJ ?_ ?_<;>intro h<;>(try simp only[aL]at h))|fail)
   ·exact aD (vs:=[_]) rfl ⟨rfl,rfl,by rw[im (λe=>h (by simp only[e]))];rfl⟩
   ·refine⟨k+1,V,.cons rfl aX,rfl,rfl,V,λi hi=>?_⟩;rcases(show i<k\/i=k by omega)with h5|rfl
    ·exact ie i h5
    ·rw[aM hka,aM GX,SR.1 h]
  ·refine aD (vs:=[_]) rfl ⟨rfl,rfl,?_⟩;rw[fB (mb λi=>?_)]
   ·rfl
   ·rcases rD i k with h5|h5
    ·exact ie i h5
    ·rw[gx V,gx V]
end
section
abbrev Ed:=Int×Int
def bZ(es:List Ed)(h:Nat):Int:=if h%2=0 then(es.getD (h / 2) (0,0)).1 else(es.getD (h / 2) (0,0)).2
def bad(es:List Ed)(s:List Bool)(x:Nat×Int):Bool:=decide (x.2<0)||(decide ((s.length:Int)<=x.2)||(s.getD x.2.toNat false||decide (bZ es x.2.toNat≠x.1)))
def iw(es:List Ed)(s:Option (List Bool))(x:Nat×Int):Option (List Bool):=s.bind λs=>if bad es s x then none else some (s.set x.2.toNat true)
def rowP(r:List (List Int))(v k:Nat):List (Nat×Int):=((r.getD v []).take k).map λh=>(v,h)
def fh(r:List (List Int))(v:Nat):List (Nat×Int):=(List.range v).flatMap λv=>(r.getD v []).map λh=>(v,h)
def kz(es:List Ed):List Bool:=List.replicate (2*es.length) false
def gF(es:List Ed)(xs:List (Nat×Int)):Option (List Bool):=xs.foldl (iw es) (some (kz es))
def aH(n:Int)(es:List Ed)(r:List (List Int)):Int:=if kK n es then(if (r.length:Int)=n then(match gF es (fh r r.length)with
  | none=>4
  | some _=>if (fh r r.length).length=2*es.length then 0 else 4)else 4)else 1
theorem dF(r:List (List Int))(v:Nat):fh r (v+1)=fh r v++rowP r v (r.getD v []).length:=by
 unfold fh rowP;rw[K8,List.flatMap_append,iJ];simp
theorem BI{r:List (List Int)}{v k:Nat}(hk:k<(r.getD v []).length):rowP r v (k+1)=rowP r v k++[(v,(r.getD v [])[k])]:=by
 unfold rowP;rw[List.take_succ_eq_append_getElem hk,jG];rfl
theorem qD(r:List (List Int))(v:Nat):rowP r v 0=[]:=by simp[rowP]
theorem yP(es:List Ed):∀xs:List (Nat×Int),xs.foldl (iw es) none=none:=by
 intro xs
 induction xs with
 | nil=>rfl
 | cons x xs ih=>exact ih
theorem FN(es:List Ed)(xs ys:List (Nat×Int)):gF es (xs++ys)=ys.foldl (iw es) (gF es xs):=by
 unfold gF;rw[Hc]
theorem tL(es:List Ed)(xs:List (Nat×Int))(x:Nat×Int):gF es (xs++[x])=iw es (gF es xs) x:=by rw[FN];rfl
theorem yQ{es:List Ed}{xs ys:List (Nat×Int)}(h:gF es xs=none):gF es (xs++ys)=none:=by rw[FN,h,yP]
theorem KB(r:List (List Int)){v w:Nat}(h:v<=w):∃ys,fh r w=fh r v++ys:=by
 induction w with
 | zero=>
   obtain rfl:v=0:=V;exact⟨[],by simp⟩
 | succ w ih=>
  by_cases e:v=w+1
  ·subst e;exact⟨[],by simp⟩
  ·obtain⟨ys,h1⟩:=ih V;exact⟨ys++rowP r w (r.getD w []).length,by rw[dF,h1,jj]⟩
theorem yR(r:List (List Int))(v:Nat){k:Nat}(hk:k<=(r.getD v []).length):∃ys,rowP r v (r.getD v []).length=rowP r v k++ys:=by
 refine⟨((r.getD v []).drop k).map λh=>(v,h),?_⟩;unfold rowP;rw[<-jG,K6,iJ]
theorem FO{es:List Ed}{r:List (List Int)}{v k:Nat}(hv:v<r.length)(hk:k<=(r.getD v []).length)(h:gF es (fh r v++rowP r v k)=none):gF es (fh r r.length)=none:=by
 obtain⟨ys,h1⟩:=KB r (show v+1<=r.length from hv);obtain⟨zs,h2⟩:=yR r v hk;rw[h1,dF,h2,<-jj (fh r v),jj];exact yQ h
theorem FP{es:List Ed}{s s1:List Bool}{x:Nat×Int}(h:iw es (some s) x=some s1):bad es s x=false/\s1=s.set x.2.toNat true:=by
 have h':(if bad es s x then none else some (s.set x.2.toNat true))=some s1:=h;cases hb:bad es s x with
 | true=>rw[hb]at h';cases h'
 | false=>rw[hb]at h';cases h';exact⟨rfl,rfl⟩
theorem pR{es:List Ed}{s:List Bool}{x:Nat×Int}(h:x.2<0\/(s.length:Int)<=x.2\/s.getD x.2.toNat false=true\/bZ es x.2.toNat≠x.1):bad es s x=true:=by
 simp only[bad,Bool.or_eq_true,DW];exact h
theorem Dc{es:List Ed}{s:List Bool}{x:Nat×Int}(h1:0<=x.2)(h2:x.2<(s.length:Int))(h3:s.getD x.2.toNat false=false)(h4:bZ es x.2.toNat=x.1):bad es s x=false:=by
 cases hb:bad es s x with
 | false=>rfl
 | true=>
  simp only[bad,Bool.or_eq_true,DW]at hb;rcases hb with h|h|h|h
  ·omega
  ·omega
  ·rw[h3]at h;cases h
  ·exact absurd h4 h
theorem BJ{es:List Ed}{s:List Bool}{x:Nat×Int}(h:bad es s x=false):0<=x.2/\x.2<s.length/\s[x.2.toNat]?=some false/\bZ es x.2.toNat=x.1:=by
 simp only[bad,Bool.or_eq_false_iff,decide_eq_false_iff_not]at h;obtain⟨b1,b2,b3,b4⟩:=h;have cg:x.2.toNat<s.length:=V;refine⟨V,V,?_,SR.1 b4⟩;rw[aY,aM cg]at b3;rw[aM cg];exact congrArg some b3
theorem IB{es:List Ed}:∀{xs:List (Nat×Int)} {s0 s:List Bool},xs.foldl (iw es) (some s0)=some s->s.length=s0.length/\s.count true=s0.count true+xs.length:=by
 intro xs
 induction xs with
 | nil=>intro s0 s h;cases h;exact⟨rfl,rfl⟩
 | cons x xs ih=>
  intro s0 s h;rw[List.foldl_cons]at h;cases h1:iw es (some s0) x with
  | none=>rw[h1,yP]at h;cases h
  | some s1=>
   rw[h1]at h;obtain⟨hb,rfl⟩:=FP h1;obtain⟨b1,b2,b3,_⟩:=BJ hb;obtain⟨g1,g2⟩:=ih h;have cg:x.2.toNat<s0.length:=V;refine⟨by simpa using g1,?_⟩;rw[g2,List.count_set cg];have:s0[x.2.toNat]=false:=by rw[aM cg]at b3;exact jk b3
   rw[this,hO];simp;omega
theorem ot{es:List Ed}{xs:List (Nat×Int)}{s:List Bool}(h:gF es xs=some s):s.length=2*es.length/\s.count true=xs.length:=by
 obtain⟨h1,h2⟩:=IB h;exact⟨by simpa[kz]using h1,by simpa[kz,List.count_replicate]using h2⟩
theorem xo{es:List Ed}{xs:List (Nat×Int)}{s:List Bool}(h:gF es xs=some s):xs.length<=2*es.length:=by
 obtain⟨h1,h2⟩:=ot h;have:=List.count_le_length (a:=true) (l:=s);omega
end
section
variable {A:aN}{H H':Heap}{nx nx':Nat}{σ:aR}{Q:cw}
def cU(H:Heap)(b:Nat)(s:List Bool):Prop:=ah H (at_ b)=some (.cells (s.map .bool))
theorem QP{s:List Bool}{i:Nat}{x:Bool}(h:s[i]?=some x):(s.map Value.bool)[0+i*1]?=some (.bool x):=by
 rw[Nat.zero_add,Nat.mul_one,eD,h];rfl
theorem tM{es:List Ed}{eo:Nat}{YI:List Value}{e:Nat}(he:e<es.length)(FQ:∀(i:Nat) (x:Ed),es[i]?=some x->take? 2 (YI.drop (eo+i*2))=some (aW x)){q:Nat}(hq:q<2) :
  YI[eo+e*2+q*1]?=some (.int .i64 (bZ es (2*e+q))):=by
 have hx:es[e]?=some es[e]:=aM he;obtain⟨g1,g2⟩:=J2 (v:=.int .i64 es[e].1) (u:=.int .i64 es[e].2) (FQ e _ hx);have hg:es.getD e (0,0)=es[e]:=by rw[aY,hx];rfl
 rcases(show q=0\/q=1 by omega)with rfl|rfl
 ·unfold bZ;rw[aJ V,show (2*e+0) / 2=e by omega,hg]
  simpa using g1
 ·unfold bZ;rw[aw V,show (2*e+1) / 2=e by omega,hg]
  simpa using g2
theorem rmI{n:Int}{es:List Ed}{r:List (List Int)}{nb sb v:Nat}{base ib:Option Addr}{ec ic sc:Nat}{ov oc:Value}{H0:Heap}{s:List Bool}(he:bL H0 nb 2 aW (.slice base es.length ec) es)(hi:bL H0 nb 1 aZ (.slice ib (r.getD v []).length ic) (r.getD v []))(pB:(r.getD v []).length<=1048576)(dx:es.length<=4000)(Fv:v<=1048576)(hs:cU H sb s)(Ef:gF es (fh r v)=some s)(QQ:nb<sb)(o9:sb<nx)(cM:aq H0 H nb)(jz:Rd H nb [.int .i64 n,.slice base es.length ec])(qj:2*es.length<=aF sc)(jf:∀σ H' nx',gF es (fh r v++rowP r v (r.getD v []).length)=none->bD [(S4,.int .i64 4)] σ->aq H0 H' nb->nx<=nx'->Q .ret σ H' nx')(bq:∀σ H' nx' s',bD [(S2,.pointer (some ⟨nb,0,none⟩)),(S5,.slice (some ⟨sb,0,some 1⟩) (2*es.length) sc),(S6,.int .i64 (((fh r v++rowP r v (r.getD v []).length).length:Nat):Int)),(oq,ov),(vY,oc),(tC,.int .i64 ((v:Nat):Int))] σ->
   gF es (fh r v++rowP r v (r.getD v []).length)=some s'->cU H' sb s'->aq H0 H' nb->Rd H' nb [.int .i64 n,.slice base es.length ec]->nx<=nx'->Q (.exit 2) σ H' nx') :
  WC A (.loop X7) [(S2,.pointer (some ⟨nb,0,none⟩)),(S5,.slice (some ⟨sb,0,some 1⟩) (2*es.length) sc),(S6,.int .i64 (((fh r v).length:Nat):Int)),(oq,ov),(vY,oc),(tC,.int .i64 ((v:Nat):Int)),(S7,.int .i64 ((v:Nat):Int)),(XI,.slice ib (r.getD v []).length ic),(Qa,.int .i64 (((r.getD v []).length:Nat):Int)),(CZ,.int .i64 0)] H nx Q:=by
 refine WC.loop (α:=Nat×List Bool) (λk=>[(S2,.pointer (some ⟨nb,0,none⟩)),(S5,.slice (some ⟨sb,0,some 1⟩) (2*es.length) sc),(S6,.int .i64 (((fh r v++rowP r v k.1).length:Nat):Int)),(oq,ov),(vY,oc),(tC,.int .i64 ((v:Nat):Int)),(S7,.int .i64 ((v:Nat):Int)),(XI,.slice ib (r.getD v []).length ic),(Qa,.int .i64 (((r.getD v []).length:Nat):Int)),(CZ,.int .i64 ((k.1:Nat):Int))])
  (λk H' nx'=>k.1<=(r.getD v []).length/\nx<=nx'/\gF es (fh r v++rowP r v k.1)=some k.2/\cU H' sb k.2/\aq H0 H' nb/\Rd H' nb [.int .i64 n,.slice base es.length ec]) (λk=>(r.getD v []).length-k.1)
  ?_ (0,s) (.cons rfl (.cons rfl (.cons ?_ (.cons rfl (.cons rfl (.cons rfl (.cons rfl (.cons rfl (.cons rfl (.cons rfl (.nil _))))))))))) ⟨bS _,au _,by rw[qD,gN];exact Ef,hs,cM,jz⟩
 ·rintro⟨k,s1⟩ H1 aQ ⟨hk,cH,jP,bt,br,fU⟩;simp only at hk jP bt ⊢;obtain⟨jB,lZ⟩:=ot jP;have hle:=xo jP;have IC:ah H1 (at_ sb)=some (.cells (s1.map .bool)):=bt;unfold X7
  repeat' (first|refine aE ?_|(refine bJ ?_ ?_<;>intro h<;>(try simp only[aL]at h))|fail)
  ·have bQ:k<(r.getD v []).length:=V;obtain⟨bb,bo,tN,rfl,iy,_,_,G2,jC⟩:=hi.at (by intro e;rw[e]at bQ;simp at bQ);have q1:=cX (v:=.int .i64 (r.getD v [])[k]) (jC k _ (aM bQ));have QR:=br.rd iy G2;generalize hx:(r.getD v [])[k]=x at q1;have dv:rowP r v (k+1)=rowP r v k++[(v,x)]:=by rw[BI bQ,hx]
   have kZ:bad es s1 (v,x)=true->gF es (fh r v++rowP r v (r.getD v []).length)=none:=by
    intro hb;obtain⟨ys,hy⟩:=yR r v (k:=k+1) bQ;rw[hy,dv,<-jj,<-jj];refine yQ ?_;rw[tL,jP];show (if bad es s1 (v,x)then none else _)=_;rw[hb];rfl
   repeat' (first|refine aE ?_|(refine bJ ?_ ?_<;>intro h<;>(try simp only[aL]at h))|fail)
   ·exact jf _ _ _ (kZ (pR (.inl (by show x<0;omega)))) aX br cH
   ·exact jf _ _ _ (kZ (pR (.inr (.inl (by show (s1.length:Int)<=x;omega))))) aX br cH
   ·obtain⟨w,rfl⟩:∃w:Nat,x=(w:Int):=⟨x.toNat,V⟩;have vf:w<s1.length:=V;have hg:=aM vf;generalize MA:s1[w]=bw at hg;have q2:=QP hg;have m9:s1.getD w false=bw:=by rw[aY,hg];rfl
    have ID:w / 2<es.length:=V;obtain⟨eb,eo,YI,rfl,FR,_,_,Uv,FQ⟩:=he.at (by intro e;rw[e]at ID;simp at ID);have aco:=br.rd FR Uv;have q3:=tM ID FQ (q:=w%2) (Nat.mod_lt _ V);rw[show 2*(w / 2)+w%2=w by omega]at q3;cases bw with
    | true=>
     repeat' (first|refine aE ?_|fail)
     exact jf _ _ _ (kZ (pR (.inr (.inr (.inl m9))))) aX br cH
    | false=>
     repeat' (first|refine aE ?_|(refine bJ ?_ ?_<;>intro h<;>(try simp only[aL]at h))|fail)
     ·exact jf _ _ _ (kZ (pR (.inr (.inr (.inr (λe=>h (by first|exact e|exact e.symm))))))) aX br cH
     ·have hev:bZ es w=v:=by first|omega|exact SR.1 h
      have hbf:bad es s1 (v,(w:Int))=false:=Dc (by show (0:Int)<=(w:Int);omega) (by show (w:Int)<_;omega) m9 hev;have kH:gF es (fh r v++rowP r v (k+1))=some (s1.set w true):=by
       rw[dv,<-jj,tL,jP];show (if bad es s1 (v,(w:Int))then none else some (s1.set w true))=_;rw[hbf];rfl
      have hlen:(fh r v++rowP r v (k+1)).length=(fh r v++rowP r v k).length+1:=by rw[dv,<-jj,cm];rfl
      refine⟨(k+1,s1.set w true),by show (r.getD v []).length-(k+1)<(r.getD v []).length-k;omega,.cons rfl (.cons rfl (.cons ?_ (.cons rfl (.cons rfl (.cons rfl (.cons rfl (.cons rfl (.cons rfl (.cons rfl (.nil _)))))))))),by show k+1<=_;omega,cH,kH,?_,br.set V,Rd.skip V fU⟩
      ·show some _=some _
       congr 2
       show _=(((fh r v++rowP r v (k+1)).length:Nat):Int);rw[hlen]
       first|done|rfl|omega
      ·show cU (aC H1 sb _) sb _;unfold cU;rw[aj,List.map_set]
       congr 3
       first|done|omega
  ·have:k=(r.getD v []).length:=V;subst this;exact bq _ _ _ s1 aX jP bt br fU cH
 ·show some _=some _;rw[qD,gN]
def cR(r:List (List Int)):Prop:=r.length<=1048576/\∀l∈r,l.length<=1048576
theorem cR.row{r:List (List Int)}(h:cR r)(v:Nat):(r.getD v []).length<=1048576:=by
 rw[aY];cases hv:r[v]? with
 | none=>simp
 | some l=>exact h.2 l (dM hv)
theorem rmO{n:Int}{es:List Ed}{r:List (List Int)}{nb sb:Nat}{base cN:Option Addr}{ec rc sc:Nat}{H0:Heap}(he:bL H0 nb 2 aW (.slice base es.length ec) es)(hr:er H0 nb 1 aZ (.slice cN r.length rc) r)(cD:cR r)(dx:es.length<=4000)(hs:cU H sb (kz es))(QQ:nb<sb)(o9:sb<nx)(cM:aq H0 H nb)(jz:Rd H nb [.int .i64 n,.slice base es.length ec])(qj:2*es.length<=aF sc)(jf:∀σ H' nx',gF es (fh r r.length)=none->bD [(S4,.int .i64 4)] σ->aq H0 H' nb->nx<=nx'->Q .ret σ H' nx')(bq:∀σ H' nx' s',bD [(S5,.slice (some ⟨sb,0,some 1⟩) (2*es.length) sc),(S6,.int .i64 (((fh r r.length).length:Nat):Int))] σ->
   gF es (fh r r.length)=some s'->aq H0 H' nb->nx<=nx'->Q (.exit 0) σ H' nx') :
  WC A (.loop X8) [(S2,.pointer (some ⟨nb,0,none⟩)),(S5,.slice (some ⟨sb,0,some 1⟩) (2*es.length) sc),(S6,.int .i64 0),(oq,.slice cN r.length rc),(vY,.int .i64 ((r.length:Nat):Int)),(tC,.int .i64 0)] H nx Q:=by
 refine WC.loop (α:=Nat×List Bool) (λv=>[(S2,.pointer (some ⟨nb,0,none⟩)),(S5,.slice (some ⟨sb,0,some 1⟩) (2*es.length) sc),(S6,.int .i64 (((fh r v.1).length:Nat):Int)),(oq,.slice cN r.length rc),(vY,.int .i64 ((r.length:Nat):Int)),(tC,.int .i64 ((v.1:Nat):Int))])
  (λv H' nx'=>v.1<=r.length/\nx<=nx'/\gF es (fh r v.1)=some v.2/\cU H' sb v.2/\aq H0 H' nb/\Rd H' nb [.int .i64 n,.slice base es.length ec]) (λv=>r.length-v.1)
  ?_ (0,kz es) aX ⟨bS _,au _,rfl,hs,cM,jz⟩
 rintro⟨v,s1⟩ H1 aQ ⟨hv,cH,jP,bt,br,fU⟩;simp only at hv jP bt ⊢;have ql:=cD.1;unfold X8
 repeat' (first|refine aE ?_|(refine bJ ?_ ?_<;>intro h<;>(try simp only[aL]at h))|fail)
 ·have mG:v<r.length:=V;have m9:r.getD v []=r[v]:=by rw[aY,aM mG];rfl
  obtain⟨rb,ro,Wa,ib,ic,rfl,uh,rX,vd,ie⟩:=hr.at mG;rw[<-m9]at vd ie;have FT:=br.rd uh rX
  repeat' (first|refine aE ?_|fail)
  refine WC.sub aX (rmI (sb:=sb) he ie (cD.row v) dx (by have:=cD.1;omega) bt jP QQ V br fU qj (λσ H2 nx2 yS hσ bN fg=>?_) (λσ H2 nx2 s2 hσ kH bN eK mh fg=>?_))
  ·exact bkR (bkR (stR (jf _ _ _ (FO mG (au _) yS) hσ bN V)))
  ·refine kW (Md (lO (WC.sub hσ ?_)))
   repeat' (first|refine aE ?_|fail)
   refine⟨(v+1,s2),by show r.length-(v+1)<r.length-v;omega,.cons rfl (.cons rfl (.cons ?_ (.cons rfl (.cons rfl (.cons rfl (.nil _)))))),by show v+1<=_;omega,V,by show gF es (fh r (v+1))=_;rw[dF];exact kH,bN,eK,mh⟩;show some _=some _;rw[dF]
 ·have:v=r.length:=V;subst this;exact bq _ _ _ s1 aX jP br cH
theorem gG(v:Value)(m:Nat):bj [v] m=List.replicate m v:=by
 induction m with
 | zero=>rfl
 | succ m ih=>rw[nY,ih];rfl
theorem BK{b:Nat}{es:List Ed}(h:ah H (at_ b)=some (.cells (bj [.bool false] (2*es.length)))):cU H b (kz es):=by
 unfold cU kz;rw[h,gG,List.map_replicate]
theorem mH{g:FuncId}(hf:A.funcs g=some tG)(NH:A.funcs 53=some vZ)(hh:zhN A g)(wN:zhN A 53){n:Int}{ev rv:Value}{es:List Ed}{r:List (List Int)}(he:bL H nx 2 aW ev es)(hr:er H nx 1 aZ rv r)(cD:cR r) :
  WF A g [.agg #[.int .i64 n,ev],rv] H nx λv H' nx'=>v=.int .i64 (aH n es r)/\aq H H' nx/\nx<=nx':=by
 obtain⟨base,ec,rfl⟩:=he.form;obtain⟨cN,rc,rfl⟩:=hr.form;refine WF.enter (hh _ _ _) hf ?_
 repeat' (first|refine aE ?_|fail)
 refine WO.cn rfl ?_;have bF:aq H (aC H nx [.int .i64 n,.slice base es.length ec]) nx:=aq.refl.set (au _);refine(qC NH wN ((he.same bF).up (cE _))).of ?_;rintro _ H1 aQ ⟨rfl,bt,cH⟩;have dS:Rd H1 nx [.int .i64 n,.slice base es.length ec]:=bt.rd V Rd.self;have bu:=bF.trans bt V;have ql:=cD.1;by_cases hm:kK n es
 ·rw[fB hm];obtain⟨wZ,BL,Uw,hm3⟩:=hm
  repeat' (first|refine aE ?_|(refine bJ ?_ ?_<;>intro h<;>(try simp only[aL]at h))|fail)
  ·refine aD (vs:=[_]) rfl ⟨?_,bu,V⟩;unfold aH;rw[aJ ⟨wZ,BL,Uw,hm3⟩,aw V];rfl
  have hlen:(r.length:Int)=n:=V;have AJ:aH n es r=match gF es (fh r r.length)with
    | none=>4
    | some _=>if (fh r r.length).length=2*es.length then 0 else 4:=by
   unfold aH;rw[aJ ⟨wZ,BL,Uw,hm3⟩,aJ hlen]
   all_goals rfl
  refine WC.sub aX (rmO (nb:=nx) (sb:=aQ) he hr cD V (BK aj) V V (bu.set V) (Rd.skip V dS) (by rw[bU];omega) (λσ H2 nx2 yS hσ bN fg=>?_) (λσ H2 nx2 s2 hσ kH bN fg=>?_))
  ·refine bkR (stR ?_);exact tu hσ (vs:=[_]) rfl ⟨by rw[AJ,yS];rfl,bN,V⟩
  ·refine kW (lO (WC.sub hσ ?_));have hle:=xo kH
   repeat' (first|refine aE ?_|(refine bJ ?_ ?_<;>intro h<;>(try simp only[aL]at h))|fail)
   all_goals refine aD (vs:=[_]) rfl ⟨?_,bN,V⟩
   ·rw[AJ,kH];show Value.int .i64 4=.int .i64 (if _ then _ else _);rw[aw V]
   ·rw[AJ,kH];show Value.int .i64 0=.int .i64 (if _ then _ else _);rw[aJ V]
 ·rw[im hm]
  repeat' (first|refine aE ?_|fail)
  refine aD (vs:=[_]) rfl ⟨?_,bu,V⟩;unfold aH;rw[aw hm];rfl
end
section
variable {A:aN}{H H':Heap}{nx nx':Nat}{σ:aR}{Q:cw}
def aU(h:Nat):Nat:=if h%2=0 then h+1 else h-1
theorem iH(h:Nat):aU h=2*(h / 2)+(1-h%2):=by unfold aU;split<;>omega
theorem bM{h m:Nat}(hl:h<2*m):aU h<2*m:=by unfold aU;split<;>omega
theorem cI(h:Nat):aU (aU h)=h:=by
 unfold aU;by_cases e:h%2=0
 ·rw[aJ e,aw V];omega
 ·rw[aw e,aJ V];omega
theorem vg{g:FuncId}(hf:A.funcs g=some pP)(hh:zhN A g){n:Int}{ev:Value}{es:List Ed}(he:bL H nx 2 aW ev es){h:Nat}(hl:h<2*es.length)(dx:es.length<=4000) :
  WF A g [.agg #[.int .i64 n,ev],.int .i64 (h:Int)] H nx λv H' nx'=>v=.int .i64 (bZ es h)/\aq H H' nx/\nx<=nx':=by
 obtain⟨base,ec,rfl⟩:=he.form;have ID:h / 2<es.length:=V;obtain⟨eb,eo,YI,rfl,FR,_,_,Uv,FQ⟩:=he.at (by intro e;rw[e]at ID;simp at ID);have q3:=tM ID FQ (q:=h%2) (Nat.mod_lt _ V);rw[show 2*(h / 2)+h%2=h by omega]at q3;refine WF.enter (hh _ _ _) hf ?_
 repeat' (first|refine aE ?_|fail)
 exact aD (vs:=[_]) rfl ⟨rfl,aq.refl.set (au _),V⟩
theorem KC{g:FuncId}(hf:A.funcs g=some NF)(hh:zhN A g){n:Int}{ev:Value}{es:List Ed}(he:bL H nx 2 aW ev es){h:Nat}(hl:h<2*es.length)(dx:es.length<=4000) :
  WF A g [.agg #[.int .i64 n,ev],.int .i64 (h:Int)] H nx λv H' nx'=>v=.int .i64 (bZ es (aU h))/\aq H H' nx/\nx<=nx':=by
 obtain⟨base,ec,rfl⟩:=he.form;have ID:h / 2<es.length:=V;obtain⟨eb,eo,YI,rfl,FR,_,_,Uv,FQ⟩:=he.at (by intro e;rw[e]at ID;simp at ID);have q3:=tM ID FQ (q:=1-h%2) V;rw[<-iH]at q3;refine WF.enter (hh _ _ _) hf ?_
 repeat' (first|refine aE ?_|fail)
 exact aD (vs:=[_]) rfl ⟨rfl,aq.refl.set (au _),V⟩
theorem BM{g:FuncId}(hf:A.funcs g=some wb)(hh:zhN A g){h:Nat}(hl:h<=1048576) :
  WF A g [.int .i64 (h:Int)] H nx λv H' nx'=>v=.int .i64 ((aU h:Nat):Int)/\H'=H/\nx'=nx:=by
 refine WF.enter (hh _ _ _) hf ?_
 repeat' (first|refine aE ?_|(refine bJ ?_ ?_<;>intro h<;>(try simp only[aL]at h))|fail)
 all_goals
  refine aD (vs:=[_]) rfl ⟨?_,rfl,rfl⟩;show Value.int .i64 _=.int .i64 _
  congr 1
  unfold aU;split<;>omega
end
section
variable {A:aN}{H H':Heap}{nx nx':Nat}{σ:aR}{Q:cw}
theorem qmI(De:A.funcs 87=some pP)(ou:zhN A 87){n:Int}{es:List Ed}{r:List (List Int)}{nb sb v:Nat}{base cN:Option Addr}{ec rc sc:Nat}{H0:Heap}{s:List Bool}(he:bL H0 nb 2 aW (.slice base es.length ec) es)(hr:er H0 nb 1 aZ (.slice cN r.length rc) r)(hv:v<r.length)(pB:(r.getD v []).length<=1048576)(dx:es.length<=4000)(Fv:v<=1048576)(hs:cU H sb s)(Ef:gF es (fh r v)=some s)(QQ:nb<sb)(o9:sb<nx)(cM:aq H0 H nb)(jz:Rd H nb [.int .i64 n,.slice base es.length ec])(qj:2*es.length<=aF sc)(jf:∀σ H' nx',gF es (fh r v++rowP r v (r.getD v []).length)=none->bD [(S4,.int .i64 4)] σ->aq H0 H' nb->nx<=nx'->Q .ret σ H' nx')(bq:∀σ H' nx' s',bD [(S1,.slice cN r.length rc),(S2,.pointer (some ⟨nb,0,none⟩)),(S5,.slice (some ⟨sb,0,some 1⟩) (2*es.length) sc),(S6,.int .i64 (((fh r v++rowP r v (r.getD v []).length).length:Nat):Int)),(S7,.int .i64 ((v:Nat):Int))] σ->
   gF es (fh r v++rowP r v (r.getD v []).length)=some s'->cU H' sb s'->aq H0 H' nb->Rd H' nb [.int .i64 n,.slice base es.length ec]->nx<=nx'->Q (.exit 2) σ H' nx') :
  WC A (.loop XX) [(S1,.slice cN r.length rc),(S2,.pointer (some ⟨nb,0,none⟩)),(S5,.slice (some ⟨sb,0,some 1⟩) (2*es.length) sc),(S6,.int .i64 (((fh r v).length:Nat):Int)),(S7,.int .i64 ((v:Nat):Int)),(S8,.int .i64 0)] H nx Q:=by
 refine WC.loop (α:=Nat×List Bool) (λk=>[(S1,.slice cN r.length rc),(S2,.pointer (some ⟨nb,0,none⟩)),(S5,.slice (some ⟨sb,0,some 1⟩) (2*es.length) sc),(S6,.int .i64 (((fh r v++rowP r v k.1).length:Nat):Int)),(S7,.int .i64 ((v:Nat):Int)),(S8,.int .i64 ((k.1:Nat):Int))])
  (λk H' nx'=>k.1<=(r.getD v []).length/\nx<=nx'/\gF es (fh r v++rowP r v k.1)=some k.2/\cU H' sb k.2/\aq H0 H' nb/\Rd H' nb [.int .i64 n,.slice base es.length ec]) (λk=>(r.getD v []).length-k.1)
  ?_ (0,s) (.cons rfl (.cons rfl (.cons rfl (.cons ?_ (.cons rfl (.cons rfl (.nil _))))))) ⟨bS _,au _,by rw[qD,gN];exact Ef,hs,cM,jz⟩
 ·rintro⟨k,s1⟩ H1 aQ ⟨hk,cH,jP,bt,br,fU⟩;simp only at hk jP bt ⊢;obtain⟨jB,lZ⟩:=ot jP;have hle:=xo jP;have IC:ah H1 (at_ sb)=some (.cells (s1.map .bool)):=bt;have kE:r.getD v []=r[v]:=by rw[aY,aM hv];rfl
  obtain⟨rb,ro,Wa,ib,ic,rfl,uh,rX,vd,hi⟩:=hr.at hv;rw[<-kE]at vd hi;have FT:=br.rd uh rX;unfold XX
  repeat' (first|refine aE ?_|(refine bJ ?_ ?_<;>intro h<;>(try simp only[aL]at h))|fail)
  ·have bQ:k<(r.getD v []).length:=V;obtain⟨bb,bo,tN,rfl,iy,_,_,G2,jC⟩:=hi.at (by intro e;rw[e]at bQ;simp at bQ);have q1:=cX (v:=.int .i64 (r.getD v [])[k]) (jC k _ (aM bQ));have QR:=br.rd iy G2;generalize hx:(r.getD v [])[k]=x at q1;have dv:rowP r v (k+1)=rowP r v k++[(v,x)]:=by rw[BI bQ,hx]
   have kZ:bad es s1 (v,x)=true->gF es (fh r v++rowP r v (r.getD v []).length)=none:=by
    intro hb;obtain⟨ys,hy⟩:=yR r v (k:=k+1) bQ;rw[hy,dv,<-jj,<-jj];refine yQ ?_;rw[tL,jP];show (if bad es s1 (v,x)then none else _)=_;rw[hb];rfl
   repeat' (first|refine aE ?_|(refine bJ ?_ ?_<;>intro h<;>(try simp only[aL]at h))|fail)
   ·exact jf _ _ _ (kZ (pR (.inl (by show x<0;omega)))) aX br cH
   ·exact jf _ _ _ (kZ (pR (.inr (.inl (by show (s1.length:Int)<=x;omega))))) aX br cH
   ·obtain⟨w,rfl⟩:∃w:Nat,x=(w:Int):=⟨x.toNat,V⟩;have vf:w<s1.length:=V;have hg:=aM vf;generalize MA:s1[w]=bw at hg;have q2:=QP hg;have m9:s1.getD w false=bw:=by rw[aY,hg];rfl
    cases bw with
    | true=>
     repeat' (first|refine aE ?_|fail)
     exact jf _ _ _ (kZ (pR (.inr (.inr (.inl m9))))) aX br cH
    | false=>
     repeat' (first|refine aE ?_|fail)
     refine WO.cn rfl ?_;refine(vg De ou ((he.same br).up (show nb<=aQ by omega)) (h:=w) V dx).of ?_;rintro _ H2 nx2 ⟨rfl,bN,fg⟩;have eK:=br.trans bN V;have Ux:ah H2 (at_ sb)=some (.cells (s1.map .bool)):=(bN sb V).trans IC;have mh:=bN.rd V fU
     repeat' (first|refine aE ?_|(refine bJ ?_ ?_<;>intro h<;>(try simp only[aL]at h))|fail)
     ·exact jf _ _ _ (kZ (pR (.inr (.inr (.inr (λe=>h (by first|exact e|exact e.symm))))))) aX eK V
     ·have hev:bZ es w=v:=by first|omega|exact SR.1 h
      have hbf:bad es s1 (v,(w:Int))=false:=Dc (by show (0:Int)<=(w:Int);omega) (by show (w:Int)<_;omega) m9 hev;have kH:gF es (fh r v++rowP r v (k+1))=some (s1.set w true):=by
       rw[dv,<-jj,tL,jP];show (if bad es s1 (v,(w:Int))then none else some (s1.set w true))=_;rw[hbf];rfl
      have hlen:(fh r v++rowP r v (k+1)).length=(fh r v++rowP r v k).length+1:=by rw[dv,<-jj,cm];rfl
      refine⟨(k+1,s1.set w true),by show (r.getD v []).length-(k+1)<(r.getD v []).length-k;omega,.cons rfl (.cons rfl (.cons rfl (.cons ?_ (.cons rfl (.cons rfl (.nil _)))))),by show k+1<=_;omega,V,kH,?_,eK.set V,Rd.skip V mh⟩
      ·show some _=some _
       congr 2
       show _=(((fh r v++rowP r v (k+1)).length:Nat):Int);rw[hlen]
       first|done|rfl|omega
      ·show cU (aC H2 sb _) sb _;unfold cU;rw[aj,List.map_set]
       congr 3
       first|done|omega
  ·have:k=(r.getD v []).length:=V;subst this;exact bq _ _ _ s1 aX jP bt br fU cH
 ·show some _=some _;rw[qD,gN]
theorem qmO(De:A.funcs 87=some pP)(ou:zhN A 87){n:Int}{es:List Ed}{r:List (List Int)}{nb sb:Nat}{base cN:Option Addr}{ec rc sc:Nat}{H0:Heap}(he:bL H0 nb 2 aW (.slice base es.length ec) es)(hr:er H0 nb 1 aZ (.slice cN r.length rc) r)(cD:cR r)(dx:es.length<=4000)(hlen:(r.length:Int)=n)(hs:cU H sb (kz es))(QQ:nb<sb)(o9:sb<nx)(cM:aq H0 H nb)(jz:Rd H nb [.int .i64 n,.slice base es.length ec])(qj:2*es.length<=aF sc)(jf:∀σ H' nx',gF es (fh r r.length)=none->bD [(S4,.int .i64 4)] σ->aq H0 H' nb->nx<=nx'->Q .ret σ H' nx')(bq:∀σ H' nx' s',bD [(S5,.slice (some ⟨sb,0,some 1⟩) (2*es.length) sc),(S6,.int .i64 (((fh r r.length).length:Nat):Int))] σ->
   gF es (fh r r.length)=some s'->aq H0 H' nb->nx<=nx'->Q (.exit 0) σ H' nx') :
  WC A (.loop XY) [(S1,.slice cN r.length rc),(S2,.pointer (some ⟨nb,0,none⟩)),(S5,.slice (some ⟨sb,0,some 1⟩) (2*es.length) sc),(S6,.int .i64 0),(S7,.int .i64 0)] H nx Q:=by
 refine WC.loop (α:=Nat×List Bool) (λv=>[(S1,.slice cN r.length rc),(S2,.pointer (some ⟨nb,0,none⟩)),(S5,.slice (some ⟨sb,0,some 1⟩) (2*es.length) sc),(S6,.int .i64 (((fh r v.1).length:Nat):Int)),(S7,.int .i64 ((v.1:Nat):Int))])
  (λv H' nx'=>v.1<=r.length/\nx<=nx'/\gF es (fh r v.1)=some v.2/\cU H' sb v.2/\aq H0 H' nb/\Rd H' nb [.int .i64 n,.slice base es.length ec]) (λv=>r.length-v.1)
  ?_ (0,kz es) aX ⟨bS _,au _,rfl,hs,cM,jz⟩
 rintro⟨v,s1⟩ H1 aQ ⟨hv,cH,jP,bt,br,fU⟩;simp only at hv jP bt ⊢;have ql:=cD.1;unfold XY
 repeat' (first|refine aE ?_|(refine bJ ?_ ?_<;>intro h<;>(try simp only[aL]at h))|fail)
 ·have mG:v<r.length:=V;refine WC.sub aX (qmI De ou (sb:=sb) he hr mG (cD.row v) dx V bt jP QQ V br fU qj (λσ H2 nx2 yS hσ bN fg=>?_) (λσ H2 nx2 s2 hσ kH bN eK mh fg=>?_))
  ·exact bkR (bkR (stR (jf _ _ _ (FO mG (au _) yS) hσ bN V)))
  ·refine kW (Md (lO (WC.sub hσ ?_)))
   repeat' (first|refine aE ?_|fail)
   refine⟨(v+1,s2),by show r.length-(v+1)<r.length-v;omega,.cons rfl (.cons rfl (.cons rfl (.cons ?_ (.cons rfl (.nil _))))),by show v+1<=_;omega,V,by show gF es (fh r (v+1))=_;rw[dF];exact kH,bN,eK,mh⟩;show some _=some _;rw[dF]
 ·have:v=r.length:=V;subst this;exact bq _ _ _ s1 aX jP br cH
theorem MB{g:FuncId}(hf:A.funcs g=some Qe)(h22:A.funcs 26=some T4)(De:A.funcs 87=some pP)(hh:zhN A g)(YJ:zhN A 26)(ou:zhN A 87){n:Int}{ev rv:Value}{es:List Ed}{r:List (List Int)}(he:bL H nx 2 aW ev es)(hr:er H nx 1 aZ rv r)(cD:cR r) :
  WF A g [.agg #[.int .i64 n,ev],rv] H nx λv H' nx'=>v=.int .i64 (aH n es r)/\aq H H' nx/\nx<=nx':=by
 obtain⟨base,ec,rfl⟩:=he.form;obtain⟨cN,rc,rfl⟩:=hr.form;refine WF.enter (hh _ _ _) hf ?_
 repeat' (first|refine aE ?_|fail)
 refine WO.cn rfl ?_;have bF:aq H (aC H nx [.int .i64 n,.slice base es.length ec]) nx:=aq.refl.set (au _);refine(tK h22 YJ ((he.same bF).up (cE _))).of ?_;rintro _ H1 aQ ⟨rfl,bt,cH⟩;have dS:Rd H1 nx [.int .i64 n,.slice base es.length ec]:=bt.rd V Rd.self;have bu:=bF.trans bt V;have ql:=cD.1;by_cases hm:kK n es
 ·rw[fB hm];obtain⟨wZ,BL,Uw,hm3⟩:=hm
  repeat' (first|refine aE ?_|(refine bJ ?_ ?_<;>intro h<;>(try simp only[aL]at h))|fail)
  ·refine aD (vs:=[_]) rfl ⟨?_,bu,V⟩;unfold aH;rw[aJ ⟨wZ,BL,Uw,hm3⟩,aw V];rfl
  have hlen:(r.length:Int)=n:=V;have AJ:aH n es r=match gF es (fh r r.length)with
    | none=>4
    | some _=>if (fh r r.length).length=2*es.length then 0 else 4:=by
   unfold aH;rw[aJ ⟨wZ,BL,Uw,hm3⟩,aJ hlen]
   all_goals rfl
  refine WC.sub aX (qmO De ou (nb:=nx) (sb:=aQ) he hr cD V hlen (BK aj) V V (bu.set V) (Rd.skip V dS) (by rw[bU];omega) (λσ H2 nx2 yS hσ bN fg=>?_) (λσ H2 nx2 s2 hσ kH bN fg=>?_))
  ·refine bkR (stR ?_);exact tu hσ (vs:=[_]) rfl ⟨by rw[AJ,yS];rfl,bN,V⟩
  ·refine kW (lO (WC.sub hσ ?_));have hle:=xo kH
   repeat' (first|refine aE ?_|(refine bJ ?_ ?_<;>intro h<;>(try simp only[aL]at h))|fail)
   all_goals refine aD (vs:=[_]) rfl ⟨?_,bN,V⟩
   ·rw[AJ,kH];show Value.int .i64 4=.int .i64 (if _ then _ else _);rw[aw V]
   ·rw[AJ,kH];show Value.int .i64 0=.int .i64 (if _ then _ else _);rw[aJ V]
 ·rw[im hm]
  repeat' (first|refine aE ?_|fail)
  refine aD (vs:=[_]) rfl ⟨?_,bu,V⟩;unfold aH;rw[aw hm];rfl
end
section
theorem yT{es:List Ed}:∀{xs:List (Nat×Int)} {s0 s:List Bool},xs.foldl (iw es) (some s0)=some s->
  (∀x∈xs,0<=x.2/\x.2<(s0.length:Int)/\bZ es x.2.toNat=x.1/\s0[x.2.toNat]?=some false)/\xs.Pairwise (λx y=>x.2≠y.2)/\∀h:Nat,s[h]?=some true->s0[h]?=some true\/∃x∈xs,x.2=(h:Int):=by
 intro xs
 induction xs with
 | nil=>intro s0 s h;cases h;exact⟨λx hx=>by simp at hx,.nil,λh hs=>.inl hs⟩
 | cons x xs ih=>
  intro s0 s h;rw[List.foldl_cons]at h;cases h1:iw es (some s0) x with
  | none=>rw[h1,yP]at h;cases h
  | some s1=>
   rw[h1]at h;obtain⟨hb,rfl⟩:=FP h1;obtain⟨b1,b2,b3,b4⟩:=BJ hb;obtain⟨g1,g2,g3⟩:=ih h;have cg:x.2.toNat<s0.length:=V;have key:∀y∈xs,y.2≠x.2/\s0[y.2.toNat]?=some false:=by
    intro y hy;obtain⟨q1,q2,q3,q4⟩:=g1 y hy;rw[fZ]at q4;by_cases e:x.2.toNat=y.2.toNat
    ·rw[aJ e,aJ V]at q4;cases q4
    ·rw[aw e]at q4;exact⟨λe'=>e (by rw[e']),q4⟩
   refine⟨λy hy=>?_,.cons (λy hy=>(key y hy).1.symm) g2,λq hq=>?_⟩
   ·rcases dT.1 hy with rfl|hy
    ·exact⟨b1,b2,b4,b3⟩
    ·obtain⟨q1,q2,q3,_⟩:=g1 y hy;exact⟨q1,by simpa using q2,q3,(key y hy).2⟩
   ·rcases g3 q hq with hq|⟨y,hy,e⟩
    ·rw[fZ]at hq;by_cases e:x.2.toNat=q
     ·exact .inr ⟨x,hJ,V⟩
     ·rw[aw e]at hq;exact .inl hq
    ·exact .inr ⟨y,fY _ hy,e⟩
def jh(r:List (List Int))(v k:Nat):Int:=(r.getD v []).getD k 0
def eZ(r:List (List Int))(v:Nat):Nat:=(r.getD v []).length
structure dk(n:Int)(es:List Ed)(r:List (List Int)):Prop where
 may:kK n es
 len:(r.length:Int)=n
 ok:∀v k,v<r.length->k<eZ r v->0<=jh r v k/\jh r v k<((2*es.length:Nat):Int)/\bZ es (jh r v k).toNat=v
 inj:∀v k v' k',v<r.length->k<eZ r v->v'<r.length->k'<eZ r v'->jh r v k=jh r v' k'->v=v'/\k=k'
 all:∀h:Nat,h<2*es.length->∃v k,v<r.length/\k<eZ r v/\jh r v k=(h:Int)
theorem Uy{r:List (List Int)}{w:Nat}{x:Nat×Int}(hx:x∈fh r w):∃v k,v<w/\k<eZ r v/\x=(v,jh r v k):=by
 unfold fh at hx;obtain⟨v,hv,hm⟩:=List.mem_flatMap.1 hx;obtain⟨h,hh,rfl⟩:=pg.1 hm;obtain⟨k,hk,rfl⟩:=kG hh;refine⟨v,k,by simpa using hv,hk,?_⟩;unfold jh;rw[aY (l:=r.getD v []),aM hk];rfl
theorem Df{r:List (List Int)}{w v k:Nat}(hv:v<w)(hk:k<eZ r v):(v,jh r v k)∈fh r w:=by
 unfold fh;refine List.mem_flatMap.2 ⟨v,by simpa using hv,pg.2 ⟨jh r v k,?_,rfl⟩⟩;unfold jh;have iS:k<(r.getD v []).length:=hk;rw[aY (l:=r.getD v []),aM iS];exact jE iS
theorem YK{r:List (List Int)}(P:Nat×Int->Nat×Int->Prop)(hs:∀x y,P x y->P y x):∀{w:Nat},(fh r w).Pairwise P->∀v k v' k',v<w->k<eZ r v->v'<w->k'<eZ r v'->(v≠v'\/k≠k')->P (v,jh r v k) (v',jh r v' k'):=by
 intro w
 induction w with
 | zero=>intro _ v k v' k' hv;omega
 | succ w ih=>
  intro hp v k v' k' hv hk lY iS cG;rw[dF,List.pairwise_append]at hp;obtain⟨h1,h2,h3⟩:=hp;have ie:∀k,k<eZ r w->(w,jh r w k)∈rowP r w (r.getD w []).length:=by
   intro k hk;unfold rowP;rw[iJ];refine pg.2 ⟨jh r w k,?_,rfl⟩;have iS:k<(r.getD w []).length:=hk;unfold jh;rw[aY (l:=r.getD w []),aM iS];exact jE iS
  have dv:∀i j,i<j->j<eZ r w->P (w,jh r w i) (w,jh r w j):=by
   intro i j Bh hj;have Ho:j<(r.getD w []).length:=hj;have hl:(rowP r w (r.getD w []).length).length=(r.getD w []).length:=by unfold rowP;simp
   have:=List.pairwise_iff_getElem.1 h2 i j V V Bh;have e:∀q (hq:q<(r.getD w []).length),(rowP r w (r.getD w []).length)[q]'V=(w,jh r w q):=by
    intro q hq;have h5:(rowP r w (r.getD w []).length)[q]?=some (w,jh r w q):=by
     unfold rowP jh;rw[iJ,eD,aM hq,aY (l:=r.getD w []),aM hq];rfl
    rw[aM V]at h5;exact jk h5
   rw[e i V,e j Ho]at this;exact this
  by_cases c1:v=w
  ·subst c1;by_cases c2:v'=v
   ·subst c2;rcases cG with h|h
    ·exact absurd rfl h
    ·rcases rD k k' with h4|h4
     ·exact dv k k' h4 iS
     ·exact hs _ _ (dv k' k V hk)
   ·exact hs _ _ (h3 _ (Df (show v'<v by omega) iS) _ (ie k hk))
  ·by_cases c2:v'=w
   ·subst c2;exact h3 _ (Df (show v<v' by omega) hk) _ (ie k' iS)
   ·exact ih h1 v k v' k' V hk V iS cG
theorem dy{n:Int}{es:List Ed}{r:List (List Int)}(h:aH n es r=0):dk n es r:=by
 unfold aH at h;split at h
 case isFalse=>omega
 rename_i hm;split at h
 case isFalse=>omega
 rename_i hl;split at h
 ·omega
 ·rename_i s hf;split at h
  case isFalse=>omega
  rename_i hc;obtain⟨c1,c2⟩:=ot hf;obtain⟨f1,f2,f3⟩:=yT hf;have h0:(kz es).length=2*es.length:=by simp[kz]
  refine⟨hm,hl,λv k hv hk=>?_,λv k v' k' hv hk lY iS he=>?_,λq hq=>?_⟩
  ·obtain⟨g1,g2,g3,_⟩:=f1 _ (Df hv hk);exact⟨g1,by rw[h0]at g2;exact g2,g3⟩
  ·apply Classical.byContradiction;intro cG;exact YK _ (λ_ _ h=>h.symm) f2 v k v' k' hv hk lY iS V he
  ·have kk:s.count true=s.length:=V;have ht:∀b∈s,true=b:=List.count_eq_length.1 kk;have hs:s[q]?=some true:=by
    rw[aM V];exact congrArg some (ht _ (jE _)).symm
   rcases f3 q hs with h5|⟨x,hx,e⟩
   ·simp[kz,mN]at h5
   ·obtain⟨v,k,hv,hk,rfl⟩:=Uy hx;exact⟨v,k,hv,hk,e⟩
def gi(es:List Ed)(r:List (List Int))(l:List Int):Prop:=l.length=2*es.length/\∀v k,v<r.length->k<eZ r v->l[aU (jh r v k).toNat]?=some (jh r v ((k+1)%eZ r v))
theorem gi.uniq{n:Int}{es:List Ed}{r:List (List Int)}{l l':List Int}(g:dk n es r)(h:gi es r l)(h':gi es r l'):l=l':=by
 apply mb;intro i;by_cases hi:i<2*es.length
 ·obtain⟨v,k,hv,hk,e⟩:=g.all (aU i) (bM hi);have e1:=h.2 v k hv hk;have e2:=h'.2 v k hv hk;rw[e,show ((aU i:Nat):Int).toNat=aU i from eE _,cI]at e1 e2;rw[e1,e2]
 ·rw[gx (by have:=h.1;omega),gx (by have:=h'.1;omega)]
theorem gi.lt{n:Int}{es:List Ed}{r:List (List Int)}{l:List Int}(g:dk n es r)(h:gi es r l){i:Nat}(hi:i<2*es.length):∃q:Nat,l[i]?=some (q:Int)/\q<2*es.length:=by
 obtain⟨v,k,hv,hk,e⟩:=g.all (aU i) (bM hi);have e1:=h.2 v k hv hk;rw[e,show ((aU i:Nat):Int).toNat=aU i from eE _,cI]at e1;obtain⟨g1,g2,_⟩:=g.ok v ((k+1)%eZ r v) hv (Nat.mod_lt _ V);exact⟨(jh r v ((k+1)%eZ r v)).toNat,by rw[e1];congr 1;omega,V⟩
def mX(f:Nat->Nat)(es:List Ed)(r:List (List Int))(v k:Nat)(l:List Int):Prop:=l.length=2*es.length/\∀v' k',v'<r.length->k'<eZ r v'->(v'<v\/v'=v/\k'<k)->l[f (jh r v' k').toNat]?=some (jh r v' ((k'+1)%eZ r v'))
theorem mX.step{f:Nat->Nat}{n:Int}{es:List Ed}{r:List (List Int)}{v k:Nat}{l:List Int}(g:dk n es r)(hf:∀a b,f a=f b->a=b)(hl:∀a,a<2*es.length->f a<2*es.length)(h:mX f es r v k l)(hv:v<r.length)(hk:k<eZ r v):mX f es r v (k+1) (l.set (f (jh r v k).toNat) (jh r v ((k+1)%eZ r v))):=by
 refine⟨by rw[iq];exact h.1,λv' k' lY iS hb=>?_⟩;obtain⟨g1,g2,_⟩:=g.ok v k hv hk;obtain⟨g3,g4,_⟩:=g.ok v' k' lY iS;rw[fZ];by_cases e:f (jh r v k).toNat=f (jh r v' k').toNat
 ·have e1:=hf _ _ e;obtain⟨rfl,rfl⟩:=g.inj v k v' k' hv hk lY iS V;rw[aJ rfl,aJ (by rw[h.1];exact hl _ V)]
 ·rw[aw e];refine h.2 v' k' lY iS ?_;rcases hb with hb|⟨rfl,hb⟩
  ·exact .inl hb
  ·rcases rD k' k with h5|h5
   ·exact .inr ⟨rfl,h5⟩
   ·exact absurd (by rw[show k'=k by omega]) e
theorem mX.row{f:Nat->Nat}{es:List Ed}{r:List (List Int)}{v:Nat}{l:List Int}(h:mX f es r v (eZ r v) l):mX f es r (v+1) 0 l:=by
 refine⟨h.1,λv' k' lY iS hb=>h.2 v' k' lY iS ?_⟩;rcases hb with hb|⟨_,hb⟩
 ·by_cases e:v'=v
  ·subst e;exact .inr ⟨rfl,iS⟩
  ·exact .inl V
 ·omega
theorem mX.zero{f:Nat->Nat}{es:List Ed}{r:List (List Int)}{l:List Int}(h:l.length=2*es.length):mX f es r 0 0 l:=⟨h,λ_ _ _ _ hb=>by omega⟩
theorem mX.all{es:List Ed}{r:List (List Int)}{l:List Int}(h:mX aU es r r.length 0 l):gi es r l:=⟨h.1,λv k hv hk=>h.2 v k hv hk (.inl hv)⟩
theorem FU(a b:Nat)(h:aU a=aU b):a=b:=by
 rw[<-cI a,h,cI]
def aB(H:Heap)(b:Nat)(l:List Int):Prop:=ah H (at_ b)=some (.cells (l.map (.int .i64)))
theorem fW{H:Heap}{b k:Nat}(h:ah H (at_ b)=some (.cells (bj [.int .i64 0] k))):aB H b (List.replicate k 0):=by
 unfold aB;rw[h,gG,List.map_replicate]
theorem aB.cell{l:List Int}{i:Nat}{x:Int}(h:l[i]?=some x):(l.map (Value.int .i64))[0+i*1]?=some (.int .i64 x):=by
 rw[Nat.zero_add,Nat.mul_one,eD,h];rfl
theorem aiT(h:Nat):h ^^^ 1=aU h:=by
 unfold aU;have h1:(h ^^^ 1) / 2=h / 2:=by rw[Nat.xor_div_two];simp
 have h2:=Nat.xor_mod_two_eq_one (a:=h) (b:=1);split<;>omega
section
variable {A:aN}{H:Heap}{nx:Nat}{σ:aR}{L:List Value}{t:TypeId}{x y:Od}
theorem aiS{h:Nat}(hs:h<=4611686018427387904):Op.intBits .xor .i64 (h:Int) (1:Int)=(pure (.int .i64 ((aU h:Nat):Int)):Sem Value):=by
 unfold Op.intBits;show (pure (Value.int .i64 (IntKind.i64.wrap ((BitVec.ofInt 64 (h:Int) ^^^ BitVec.ofInt 64 1).toNat:Int))):Sem Value)=_;have e1:(BitVec.ofInt 64 (h:Int) ^^^ BitVec.ofInt 64 1).toNat=aU h:=by
  rw[BitVec.toNat_xor,BitVec.toNat_ofInt,BitVec.toNat_ofInt];rw[show ((h:Int)%((2 ^ 64:Nat):Int)).toNat=h by omega,show ((1:Int)%((2 ^ 64:Nat):Int)).toNat=1 by decide];exact aiT h
 have ht:aU h<=h+1:=by unfold aU;split<;>omega
 rw[e1]
 congr 2
 exact xe (by unfold Fs;omega)
theorem Act.ai4{h:Nat}(hx:ev σ L x=some (.int .i64 (h:Int)))(hy:ev σ L y=some (.int .i64 ((1:Nat):Int)))(hs:h<=4611686018427387904):Act A (.bin .xor t x y) σ L H nx (.int .i64 ((aU h:Nat):Int)) H nx:=
 .jl hx hy (kV rfl rfl gS (by simp only[binOp];exact aiS hs) rfl)
end
end
section
variable {A:aN}{H H':Heap}{nx nx':Nat}{σ:aR}{Q:cw}
theorem xp{r:List (List Int)}{v k:Nat}(hk:k<(r.getD v []).length):(r.getD v [])[k]?=some (jh r v k):=by
 unfold jh;rw[aY (l:=r.getD v []),aM hk];rfl
theorem nxI{n:Int}{es:List Ed}{r:List (List Int)}{nb lb v:Nat}{ib:Option Addr}{ic lc:Nat}{rv:Value}{H0:Heap}{l:List Int}(g:dk n es r)(hi:bL H0 nb 1 aZ (.slice ib (r.getD v []).length ic) (r.getD v []))(hv:v<r.length)(pB:(r.getD v []).length<=1048576)(dx:es.length<=4000)(Fv:v<=1048576)(hl:aB H lb l)(yq:mX aU es r v 0 l)(QQ:nb<=lb)(o9:lb<nx)(cM:aq H0 H nb)(bq:∀σ H' nx' l',bD [(S5,.slice (some ⟨lb,0,some 1⟩) (2*es.length) lc),(kX,rv),(kD,.int .i64 ((r.length:Nat):Int)),(jA,.int .i64 ((v:Nat):Int))] σ->
   mX aU es r v (eZ r v) l'->aB H' lb l'->aq H0 H' nb->nx<=nx'->Q (.exit 2) σ H' nx') :
  WC A (.loop Yh) [(S5,.slice (some ⟨lb,0,some 1⟩) (2*es.length) lc),(kX,rv),(kD,.int .i64 ((r.length:Nat):Int)),(jA,.int .i64 ((v:Nat):Int)),(S7,.slice ib (r.getD v []).length ic),(ky,.slice ib (r.getD v []).length ic),(qZ,.int .i64 (((r.getD v []).length:Nat):Int)),(oM,.int .i64 0)] H nx Q:=by
 refine WC.loop (α:=Nat×List Int) (λk=>[(S5,.slice (some ⟨lb,0,some 1⟩) (2*es.length) lc),(kX,rv),(kD,.int .i64 ((r.length:Nat):Int)),(jA,.int .i64 ((v:Nat):Int)),(S7,.slice ib (r.getD v []).length ic),(ky,.slice ib (r.getD v []).length ic),(qZ,.int .i64 (((r.getD v []).length:Nat):Int)),(oM,.int .i64 ((k.1:Nat):Int))])
  (λk H' nx'=>k.1<=(r.getD v []).length/\nx<=nx'/\mX aU es r v k.1 k.2/\aB H' lb k.2/\aq H0 H' nb) (λk=>(r.getD v []).length-k.1)
  ?_ (0,l) aX ⟨bS _,au _,yq,hl,cM⟩
 rintro⟨k,l1⟩ H1 aQ ⟨hk,cH,sF,jB,br⟩;simp only at hk sF jB ⊢;have uo:=sF.1;have MC:ah H1 (at_ lb)=some (.cells (l1.map (.int .i64))):=jB;unfold Yh
 repeat' (first|refine aE ?_|(refine bJ ?_ ?_<;>intro h<;>(try simp only[aL]at h))|fail)
 ·have bQ:k<(r.getD v []).length:=V;have MD:k<eZ r v:=bQ;obtain⟨bb,bo,tN,rfl,iy,_,_,G2,jC⟩:=hi.at (by intro e;rw[e]at bQ;simp at bQ);have q1:=cX (v:=.int .i64 (jh r v k)) (jC k _ (xp bQ));have yC:(k+1)%(r.getD v []).length<(r.getD v []).length:=Nat.mod_lt _ V;have q2:=cX (v:=.int .i64 (jh r v ((k+1)%(r.getD v []).length))) (jC _ _ (xp yC));have QR:=br.rd iy G2;have bO:=sF.step g FU (λa ha=>bM ha) hv MD;obtain⟨p1,p2,_⟩:=g.ok v k hv MD;generalize hx:jh r v k=x at q1 bO p1 p2;obtain⟨w,rfl⟩:∃w:Nat,x=(w:Int):=⟨x.toNat,V⟩;rw[eE]at bO;have vf:w<2*es.length:=V;have Dg:=bM vf
  repeat' (first|refine aE ?_|fail)
  refine⟨(k+1,l1.set (aU w) (jh r v ((k+1)%eZ r v))),by show (r.getD v []).length-(k+1)<(r.getD v []).length-k;omega,.cons rfl aX,by show k+1<=_;omega,V,bO,?_,br.set V⟩;show aB (aC H1 lb _) lb _;unfold aB;rw[aj,List.map_set]
  congr 3
  first|done|rfl|omega
 ·have:k=(r.getD v []).length:=V;subst this;exact bq _ _ _ l1 aX sF jB br cH
theorem nxO{n:Int}{es:List Ed}{r:List (List Int)}{nb lb:Nat}{cN:Option Addr}{rc lc:Nat}{H0:Heap}{l:List Int}(g:dk n es r)(hr:er H0 nb 1 aZ (.slice cN r.length rc) r)(cD:cR r)(dx:es.length<=4000)(hl:aB H lb l)(yq:mX aU es r 0 0 l)(QQ:nb<=lb)(o9:lb<nx)(cM:aq H0 H nb)(bq:∀σ H' nx' l',bD [(S5,.slice (some ⟨lb,0,some 1⟩) (2*es.length) lc)] σ->
   gi es r l'->aB H' lb l'->aq H0 H' nb->nx<=nx'->Q (.exit 0) σ H' nx') :
  WC A (.loop Yi) [(S5,.slice (some ⟨lb,0,some 1⟩) (2*es.length) lc),(kX,.slice cN r.length rc),(kD,.int .i64 ((r.length:Nat):Int)),(jA,.int .i64 0)] H nx Q:=by
 refine WC.loop (α:=Nat×List Int) (λv=>[(S5,.slice (some ⟨lb,0,some 1⟩) (2*es.length) lc),(kX,.slice cN r.length rc),(kD,.int .i64 ((r.length:Nat):Int)),(jA,.int .i64 ((v.1:Nat):Int))])
  (λv H' nx'=>v.1<=r.length/\nx<=nx'/\mX aU es r v.1 0 v.2/\aB H' lb v.2/\aq H0 H' nb) (λv=>r.length-v.1)
  ?_ (0,l) aX ⟨bS _,au _,yq,hl,cM⟩
 rintro⟨v,l1⟩ H1 aQ ⟨hv,cH,sF,jB,br⟩;simp only at hv sF jB ⊢;have ql:=cD.1;unfold Yi
 repeat' (first|refine aE ?_|(refine bJ ?_ ?_<;>intro h<;>(try simp only[aL]at h))|fail)
 ·have mG:v<r.length:=V;have kE:r.getD v []=r[v]:=by rw[aY,aM mG];rfl
  obtain⟨rb,ro,Wa,ib,ic,rfl,uh,rX,vd,hi⟩:=hr.at mG;rw[<-kE]at vd hi;have FT:=br.rd uh rX
  repeat' (first|refine aE ?_|fail)
  refine WC.sub aX (nxI g hi mG (cD.row v) dx V jB sF QQ V br (λσ H2 nx2 l2 hσ Wb nc eK fg=>?_));refine kW (Md (lO (WC.sub hσ ?_)))
  repeat' (first|refine aE ?_|fail)
  exact⟨(v+1,l2),by show r.length-(v+1)<r.length-v;omega,.cons rfl aX,by show v+1<=_;omega,V,Wb.row,nc,eK⟩
 ·have:v=r.length:=V;subst this;exact bq _ _ _ l1 aX sF.all jB br cH
theorem IE{f:FuncId}(hf:A.funcs f=some u7)(hh:zhN A f){n:Int}{ev rv:Value}{es:List Ed}{r:List (List Int)}(g:dk n es r)(he:bL H nx 2 aW ev es)(hr:er H nx 1 aZ rv r)(cD:cR r)(dx:es.length<=4000) :
  WF A f [.agg #[.int .i64 n,ev],rv] H nx λv H' nx'=>∃b c l,v=.slice (some ⟨b,0,some 1⟩) (2*es.length) c/\2*es.length<=aF c/\nx<=b/\b<nx'/\gi es r l/\aB H' b l/\aq H H' nx:=by
 obtain⟨base,ec,rfl⟩:=he.form;obtain⟨cN,rc,rfl⟩:=hr.form;refine WF.enter (hh _ _ _) hf ?_
 repeat' (first|refine aE ?_|fail)
 have bF:aq H (aC H nx [.int .i64 n,.slice base es.length ec]) nx:=aq.refl.set (au _);refine WC.sub aX (nxO (nb:=nx) (lb:=nx+1) g hr cD dx (fW aj) (.zero (by simp)) V V (bF.set V) (λσ H2 nx2 l2 hσ nc KD bN fg=>?_));refine kW (lO (WC.sub hσ ?_))
 repeat' (first|refine aE ?_|fail)
 exact aD (vs:=[_]) rfl ⟨_,_,l2,rfl,by rw[bU];omega,V,V,nc,KD,bN⟩
theorem ntI{n:Int}{es:List Ed}{r:List (List Int)}{nb lb v:Nat}{cN:Option Addr}{rc lc:Nat}{H0:Heap}{l:List Int}(g:dk n es r)(hr:er H0 nb 1 aZ (.slice cN r.length rc) r)(hv:v<r.length)(pB:(r.getD v []).length<=1048576)(dx:es.length<=4000)(Fv:v<=1048576)(hl:aB H lb l)(yq:mX id es r v 0 l)(QQ:nb<=lb)(o9:lb<nx)(cM:aq H0 H nb)(bq:∀σ H' nx' l',bD [(S1,.slice cN r.length rc),(S5,.slice (some ⟨lb,0,some 1⟩) (2*es.length) lc),(S6,.int .i64 ((v:Nat):Int))] σ->
   mX id es r v (eZ r v) l'->aB H' lb l'->aq H0 H' nb->nx<=nx'->Q (.exit 2) σ H' nx') :
  WC A (.loop X9) [(S1,.slice cN r.length rc),(S5,.slice (some ⟨lb,0,some 1⟩) (2*es.length) lc),(S6,.int .i64 ((v:Nat):Int)),(S7,.int .i64 0)] H nx Q:=by
 refine WC.loop (α:=Nat×List Int) (λk=>[(S1,.slice cN r.length rc),(S5,.slice (some ⟨lb,0,some 1⟩) (2*es.length) lc),(S6,.int .i64 ((v:Nat):Int)),(S7,.int .i64 ((k.1:Nat):Int))])
  (λk H' nx'=>k.1<=(r.getD v []).length/\nx<=nx'/\mX id es r v k.1 k.2/\aB H' lb k.2/\aq H0 H' nb) (λk=>(r.getD v []).length-k.1)
  ?_ (0,l) aX ⟨bS _,au _,yq,hl,cM⟩
 rintro⟨k,l1⟩ H1 aQ ⟨hk,cH,sF,jB,br⟩;simp only at hk sF jB ⊢;have uo:=sF.1;have MC:ah H1 (at_ lb)=some (.cells (l1.map (.int .i64))):=jB;have kE:r.getD v []=r[v]:=by rw[aY,aM hv];rfl
 obtain⟨rb,ro,Wa,ib,ic,rfl,uh,rX,vd,hi⟩:=hr.at hv;rw[<-kE]at vd hi;have FT:=br.rd uh rX;unfold X9
 repeat' (first|refine aE ?_|(refine bJ ?_ ?_<;>intro h<;>(try simp only[aL]at h))|fail)
 ·have bQ:k<(r.getD v []).length:=V;have MD:k<eZ r v:=bQ;obtain⟨bb,bo,tN,rfl,iy,_,_,G2,jC⟩:=hi.at (by intro e;rw[e]at bQ;simp at bQ);have q1:=cX (v:=.int .i64 (jh r v k)) (jC k _ (xp bQ));have yC:(k+1)%(r.getD v []).length<(r.getD v []).length:=Nat.mod_lt _ V;have q2:=cX (v:=.int .i64 (jh r v ((k+1)%(r.getD v []).length))) (jC _ _ (xp yC));have QR:=br.rd iy G2;have bO:=sF.step g (λ_ _ h=>h) (λa ha=>ha) hv MD;obtain⟨p1,p2,_⟩:=g.ok v k hv MD;generalize hx:jh r v k=x at q1 bO p1 p2;obtain⟨w,rfl⟩:∃w:Nat,x=(w:Int):=⟨x.toNat,V⟩;rw[eE]at bO;have vf:w<2*es.length:=V
  repeat' (first|refine aE ?_|fail)
  refine⟨(k+1,l1.set w (jh r v ((k+1)%eZ r v))),by show (r.getD v []).length-(k+1)<(r.getD v []).length-k;omega,.cons rfl aX,by show k+1<=_;omega,V,bO,?_,br.set V⟩;show aB (aC H1 lb _) lb _;unfold aB;rw[aj,List.map_set]
  congr 3
  first|done|rfl|omega
 ·have:k=(r.getD v []).length:=V;subst this;exact bq _ _ _ l1 aX sF jB br cH
theorem ntO{n:Int}{es:List Ed}{r:List (List Int)}{nb lb:Nat}{cN:Option Addr}{rc lc:Nat}{H0:Heap}{l:List Int}(g:dk n es r)(hr:er H0 nb 1 aZ (.slice cN r.length rc) r)(cD:cR r)(dx:es.length<=4000)(hl:aB H lb l)(yq:mX id es r 0 0 l)(QQ:nb<=lb)(o9:lb<nx)(cM:aq H0 H nb)(bq:∀σ H' nx' l',bD [(S5,.slice (some ⟨lb,0,some 1⟩) (2*es.length) lc)] σ->
   mX id es r r.length 0 l'->aB H' lb l'->aq H0 H' nb->nx<=nx'->Q (.exit 0) σ H' nx') :
  WC A (.loop Ya) [(S1,.slice cN r.length rc),(S5,.slice (some ⟨lb,0,some 1⟩) (2*es.length) lc),(S6,.int .i64 0)] H nx Q:=by
 refine WC.loop (α:=Nat×List Int) (λv=>[(S1,.slice cN r.length rc),(S5,.slice (some ⟨lb,0,some 1⟩) (2*es.length) lc),(S6,.int .i64 ((v.1:Nat):Int))])
  (λv H' nx'=>v.1<=r.length/\nx<=nx'/\mX id es r v.1 0 v.2/\aB H' lb v.2/\aq H0 H' nb) (λv=>r.length-v.1)
  ?_ (0,l) aX ⟨bS _,au _,yq,hl,cM⟩
 rintro⟨v,l1⟩ H1 aQ ⟨hv,cH,sF,jB,br⟩;simp only at hv sF jB ⊢;have ql:=cD.1;unfold Ya
 repeat' (first|refine aE ?_|(refine bJ ?_ ?_<;>intro h<;>(try simp only[aL]at h))|fail)
 ·have mG:v<r.length:=V;refine WC.sub aX (ntI g hr mG (cD.row v) dx V jB sF QQ V br (λσ H2 nx2 l2 hσ Wb nc eK fg=>?_));refine kW (Md (lO (WC.sub hσ ?_)))
  repeat' (first|refine aE ?_|fail)
  exact⟨(v+1,l2),by show r.length-(v+1)<r.length-v;omega,.cons rfl aX,by show v+1<=_;omega,V,Wb.row,nc,eK⟩
 ·have:v=r.length:=V;subst this;exact bq _ _ _ l1 aX sF jB br cH
def YL(m:Nat)(lb l:List Int)(k:Nat):Prop:=l.length=m/\∀i,i<k->l[i]?=lb[aU i]?
theorem ntL{m nb bb lb:Nat}{lc bc:Nat}{H0:Heap}{l0 l:List Int}(QS:A.funcs 74=some wb)(yU:zhN A 74)(hm:m<=4000)(hb:aB H bb l0)(hl0:l0.length=2*m)(hl:aB H lb l)(yq:YL (2*m) l0 l 0)(cG:bb<lb)(sQ:nb<=bb)(o9:lb<nx)(cM:aq H0 H nb)(bq:∀σ H' nx' l',bD [(S8,.slice (some ⟨lb,0,some 1⟩) (2*m) lc)] σ->
   YL (2*m) l0 l' (2*m)->aB H' lb l'->aq H0 H' nb->nx<=nx'->Q (.exit 4) σ H' nx') :
  WC A (.loop Yb) [(S5,.slice (some ⟨bb,0,some 1⟩) (2*m) bc),(S8,.slice (some ⟨lb,0,some 1⟩) (2*m) lc),(S9,.int .i64 0)] H nx Q:=by
 refine WC.loop (α:=Nat×List Int) (λv=>[(S5,.slice (some ⟨bb,0,some 1⟩) (2*m) bc),(S8,.slice (some ⟨lb,0,some 1⟩) (2*m) lc),(S9,.int .i64 ((v.1:Nat):Int))])
  (λv H' nx'=>v.1<=2*m/\nx<=nx'/\YL (2*m) l0 v.2 v.1/\aB H' lb v.2/\aB H' bb l0/\aq H0 H' nb) (λv=>2*m-v.1)
  ?_ (0,l) aX ⟨bS _,au _,yq,hl,hb,cM⟩
 rintro⟨v,l1⟩ H1 aQ ⟨hv,cH,sF,jB,dS,br⟩;simp only at hv sF jB ⊢;have uo:=sF.1;have MC:ah H1 (at_ lb)=some (.cells (l1.map (.int .i64))):=jB;have afN:ah H1 (at_ bb)=some (.cells (l0.map (.int .i64))):=dS;unfold Yb
 repeat' (first|refine aE ?_|(refine bJ ?_ ?_<;>intro h<;>(try simp only[aL]at h))|fail)
 ·have mG:v<2*m:=V;have Dg:=bM mG;have q1:=aB.cell (l:=l0) (aM (show aU v<l0.length by omega));refine WO.cn rfl ?_;refine(BM QS yU (h:=v) V).of ?_;rintro _ H2 nx2 ⟨rfl,rfl,rfl⟩
  repeat' (first|refine aE ?_|fail)
  refine⟨(v+1,l1.set v (l0[aU v]'V)),by show 2*m-(v+1)<2*m-v;omega,.cons rfl aX,by show v+1<=_;omega,V,⟨by simpa using uo,λi hi=>?_⟩,?_,?_,br.set V⟩
  ·show (l1.set v _)[i]?=_;rw[fZ];by_cases e:v=i
   ·subst e;rw[aJ rfl,aJ V,aM (show aU v<l0.length by omega)]
   ·rw[aw e];exact sF.2 i (by simp only at hi;omega)
  ·show aB (aC H2 lb _) lb _;unfold aB;rw[aj,List.map_set]
   congr 3
   first|done|rfl|omega
  ·show aB (aC H2 lb _) bb _;exact ay V afN
 ·have:v=2*m:=V;subst this;exact bq _ _ _ l1 aX sF jB br cH
theorem ME{f:FuncId}(hf:A.funcs f=some BB)(hh:zhN A f)(QS:A.funcs 74=some wb)(yU:zhN A 74){n:Int}{ev rv:Value}{es:List Ed}{r:List (List Int)}(g:dk n es r)(he:bL H nx 2 aW ev es)(hr:er H nx 1 aZ rv r)(cD:cR r)(dx:es.length<=4000) :
  WF A f [.agg #[.int .i64 n,ev],rv] H nx λv H' nx'=>∃b c l,v=.slice (some ⟨b,0,some 1⟩) (2*es.length) c/\2*es.length<=aF c/\nx<=b/\b<nx'/\gi es r l/\aB H' b l/\aq H H' nx:=by
 obtain⟨base,ec,rfl⟩:=he.form;obtain⟨cN,rc,rfl⟩:=hr.form;refine WF.enter (hh _ _ _) hf ?_
 repeat' (first|refine aE ?_|fail)
 have bF:aq H (aC H nx [.int .i64 n,.slice base es.length ec]) nx:=aq.refl.set (au _);refine WC.sub aX (ntO (nb:=nx) (lb:=nx+1) g hr cD dx (fW aj) (.zero (by simp)) V V (bF.set V) (λσ H2 nx2 l2 hσ nc KD bN fg=>?_));refine kW (lO (WC.sub hσ ?_))
 repeat' (first|refine aE ?_|fail)
 have uo:=nc.1;refine WC.sub aX (ntL (nb:=nx) (bb:=nx+1) (lb:=nx2) (l0:=l2) QS yU dx (ay V KD) uo (fW aj) ⟨by simp,λi hi=>by omega⟩ V V V (bN.set V) (λσ H3 bW l3 hσ YM hi3 de j8=>?_));refine kW (lO (WC.sub hσ ?_))
 repeat' (first|refine aE ?_|fail)
 refine aD (vs:=[_]) rfl ⟨_,_,l3,rfl,by rw[bU];omega,V,V,⟨YM.1,λv k hv hk=>?_⟩,hi3,de⟩;obtain⟨g1,g2,_⟩:=g.ok v k hv hk;rw[YM.2 _ (bM V),cI];exact nc.2 v k hv hk (.inl hv)
end
section
def qE(nxt:List Int):Nat->List Bool->Nat->List Int->List Bool×List Int
 | 0,s,_,f=>(s,f)
 | m+1,s,k,f=>if s.getD k true then(s,f)else qE nxt m (s.set k true) (nxt.getD k 0).toNat (f++[(k:Int)])
theorem pS{nxt:List Int}{m k:Nat}{s:List Bool}{f:List Int}(h:s.getD k true=true):qE nxt m s k f=(s,f):=by
 cases m with
 | zero=>rfl
 | succ m=>show (if s.getD k true then(s,f)else _)=_;rw[h];rfl
theorem pT{nxt:List Int}{m k:Nat}{s:List Bool}{f:List Int}(h:s.getD k true=false):qE nxt (m+1) s k f=qE nxt m (s.set k true) (nxt.getD k 0).toNat (f++[(k:Int)]):=by
 show (if s.getD k true then(s,f)else _)=_;rw[h];rfl
theorem count_set{s:List Bool}{k:Nat}(hk:k<s.length)(h:s[k]=false):(s.set k true).count false+1=s.count false:=by
 induction s generalizing k with
 | nil=>simp at hk
 | cons b s ih=>
  cases k with
  | zero=>
   have hb:b=false:=h;subst hb;rw[List.set_cons_zero,List.count_cons_of_ne (by decide),List.count_cons_self]
  | succ k=>
   have:=ih (k:=k) (by simpa using hk) (by simpa using h);rw[List.set_cons_succ,List.count_cons,List.count_cons];omega
def pU(nxt:List Int)(st:List Bool×List (List Int))(h:Nat):List Bool×List (List Int):=
 ((qE nxt nxt.length st.1 h []).1,if (qE nxt nxt.length st.1 h []).2=[]then st.2 else st.2++[(qE nxt nxt.length st.1 h []).2])
def aV(nxt:List Int)(k:Nat):List Bool×List (List Int):=(List.range k).foldl (pU nxt) (List.replicate nxt.length false,[])
theorem gH{nxt:List Int}{k:Nat}:aV nxt (k+1)=pU nxt (aV nxt k) k:=by
 unfold aV;rw[K8,Hc];rfl
def qF(r:List (List Int))(k:Nat):List (List Int):=(r.take k).filter λl=>l.length=0
theorem FV{r:List (List Int)}{k:Nat}(hk:k<r.length):qF r (k+1)=if (r.getD k []).length=0 then qF r k++[[]]else qF r k:=by
 unfold qF;have hg:r.getD k []=r[k]:=by rw[aY,aM hk];rfl
 rw[List.take_add_one,aM hk,List.filter_append,hg];show _++List.filter _ [r[k]]=_;by_cases e:r[k].length=0
 ·have e2:r[k]=[]:=mM e;rw[aJ e,e2];rfl
 ·rw[aw e,List.filter_cons_of_neg (by simpa using e),List.filter_nil,gN]
theorem IF{r:List (List Int)}{k:Nat}:(qF r k).length<=k:=by
 unfold qF;refine hX (Ac _ _) ?_;rw[iZ];omega
def ow(r:List (List Int))(nxt:List Int):List (List Int):=(aV nxt nxt.length).2++qF r r.length
noncomputable def dR(es:List Ed)(r:List (List Int)):List Int:=open Classical in if h:∃l,gi es r l then Classical.choose h else[]
theorem iW{n:Int}{es:List Ed}{r:List (List Int)}{l:List Int}(g:dk n es r)(h:gi es r l):dR es r=l:=by
 have he:∃l,gi es r l:=⟨l,h⟩;unfold dR;rw[dif_pos he];exact gi.uniq g (Classical.choose_spec he) h
noncomputable def aP(es:List Ed)(r:List (List Int)):List (List Int):=ow r (dR es r)
def LL(H:Heap)(nx0 nx:Nat)(v:Value)(fs:List (List Int)):Prop:=
 ∃us:List Value,us.length=fs.length/\bP H nx0 nx 1 v us.length us/\(∀(i:Nat) (u:Value) (f:List Int),us[i]?=some u->fs[i]?=some f->bL H nx 1 aZ u f)/\∀u∈us,∀b,bk u=some b->nx0<=b/\b<nx/\bk v≠some b
section
variable {A:aN}{H H':Heap}{nx nx':Nat}{σ:aR}{L:List Value}
theorem LL.nil{nx0:Nat}:LL H nx0 nx (.slice none 0 0) []:=⟨[],rfl,.nil,λi u f h=>by simp at h,λu h=>by simp at h⟩
theorem LL.vX{nx0:Nat}{v:Value}{fs:List (List Int)}(h:LL H nx0 nx v fs)(hs:∀b,nx0<=b->b<nx->ah H' (at_ b)=ah H (at_ b))(hn:nx<=nx'):LL H' nx0 nx' v fs:=by
 obtain⟨us,h1,h2,h3,h4⟩:=h;refine⟨us,h1,h2.vX hs hn,λi u f hu hf=>(h3 i u f hu hf).blk (λb hb hl=>hs b ?_ hl) hn,λu hu b hb=>?_⟩
 ·exact(h4 u (dM hu) b hb).1
 ·obtain⟨g1,g2,g3⟩:=h4 u hu b hb;exact⟨g1,V,g3⟩
theorem ln(us:List Value):us.flatMap Ft=us:=by
 induction us with
 | nil=>rfl
 | cons u us ih=>rw[List.flatMap_cons,ih];rfl
theorem LL.FW{nx0:Nat}{v:Value}{fs:List (List Int)}(h:LL H nx0 nx v fs):er H nx 1 aZ v fs:=by
 obtain⟨us,h1,h2,h3,h4⟩:=h;exact⟨us,h1,bP.sle (enc:=Ft) (by rw[ln];exact h2) (λ_=>rfl),h3⟩
theorem LL.blk{nx0 b:Nat}{v:Value}{fs:List (List Int)}(h:LL H nx0 nx v fs)(hb:bk v=some b):nx0<=b/\b<nx:=by
 obtain⟨us,h1,⟨_,⟨rfl,_⟩|⟨c,rfl,g1,g2,_⟩⟩,_⟩:=h
 ·cases hb
 ·cases hb;exact⟨g1,g2⟩
theorem LL.form{nx0:Nat}{v:Value}{fs:List (List Int)}(h:LL H nx0 nx v fs):∃b c,v=.slice b fs.length c:=by
 obtain⟨us,h1,⟨_,⟨rfl,g⟩|⟨c,rfl,g1,g2,_⟩⟩,_⟩:=h
 ·exact⟨_,_,by rw[<-h1,g]⟩
 ·exact⟨_,_,by rw[<-h1]⟩
theorem LL.at{nx0 n c:Nat}{base:Option Addr}{fs:List (List Int)}(h:LL H nx0 nx (.slice base n c) fs){i:Nat}(hi:i<fs.length) :
  ∃b o cs ib ic,base=some ⟨b,o,some 1⟩/\nx0<=b/\b<nx/\Rd H b cs/\cs[o+i*1]?=some (.slice ib (fs[i]).length ic)/\bL H nx 1 aZ (.slice ib (fs[i]).length ic) fs[i]/\∀q,bk (.slice ib (fs[i]).length ic)=some q->nx0<=q:=by
 obtain⟨us,h1,⟨h2a,h2⟩,h3,h4⟩:=h;have hu:us[i]?=some us[i]:=aM V;have hs:=h3 i _ _ hu (aM hi);have hq:=h4 us[i] (jE V);rcases h2 with⟨_,h0⟩|⟨b,hv,g1,g2,g3⟩
 ·omega
 ·cases hv;obtain⟨ib,ic,he⟩:=hs.form;rw[he]at hu hs hq;exact⟨b,0,us,ib,ic,rfl,g1,g2,.inl g3,by rw[Nat.zero_add,Nat.mul_one];exact hu,hs,λq hb=>(hq q hb).1⟩
def eL(H H':Heap)(lo hi:Nat):Prop:=∀b,lo<=b->b<hi->ah H' (at_ b)=ah H (at_ b)
theorem eL.refl{lo hi:Nat}:eL H H lo hi:=λ_ _ _=>rfl
theorem eL.rd{lo hi b:Nat}{cs:List Value}(h:eL H H' lo hi)(h1:lo<=b)(h2:b<hi)(hr:Rd H b cs):Rd H' b cs:=by
 unfold Rd;rw[h b h1 h2];exact hr
theorem eL.set{lo hi b:Nat}{cs:List Value}(h:eL H H' lo hi)(hb:b<lo\/hi<=b):eL H (aC H' b cs) lo hi:=λc h1 h2=>by rw[ak,aw V];exact h c h1 h2
theorem bG.KE{by_ nx0 q c:Nat}{zero:List Value}{s x:Od}{v u:Value}{fs:List (List Int)}{f:List Int}{K:Value->Heap->Nat->Prop}(hs:ev σ L s=some v)(hx:ev σ L x=some (.slice (some ⟨q,0,some 1⟩) 1 c))(hq:Rd H q [u])(hg:LL H nx0 nx v fs)(hu:bL H nx 1 aZ u f)(hb:∀b,bk u=some b->nx0<=b/\b<nx/\bk v≠some b)(h0:nx0<=nx)(h2:(fs.length+1)*by_<=small)(h3:fs.length+1<=small)(h:∀v' H',LL H' nx0 (nx+1) v' (fs++[f])->(∀b,b<nx->bk v≠some b->ah H' (at_ b)=ah H (at_ b))->K v' H' (nx+1)):bG A (.app 1 by_ zero s x false) σ L H nx K:=by
 obtain⟨us,e1,e2,e3,e4⟩:=hg;have Ic:cq [u]=true:=by
  obtain⟨b',c',rfl⟩:=hu.form;rfl
 refine bG.tz hs hx e2 (dL hq rfl) V V Ic (by rw[e1];exact h2) (by rw[e1];exact h3) ?_;intro H1 k1 k2;have Uz:∀b,b<nx->bk v≠some b->ah H1 (at_ b)=ah H (at_ b):=by
  intro b hb cG;refine k2 b hb λc' z' k' hv=>?_
  obtain⟨_,⟨rfl,_⟩|⟨d,rfl,_⟩⟩:=e2
  ·cases hv
  ·cases hv;exact cG rfl
 refine h _ H1 ⟨us++[u],by simp[e1],⟨by simp,.inr ⟨nx,by simp,h0,V,k1⟩⟩,λi w g hw hg=>?_,λw hw b MA=>?_⟩ Uz
 ·rcases rD i us.length with hi|hi
  ·rw[eC hi]at hw;rw[eC V]at hg;exact(e3 i w g hw hg).blk (λb hb hl=>Uz b hl (e4 w (dM hw) b hb).2.2) (cE _)
  ·rw[aiQ hi]at hw;rw[aiQ V]at hg;have BA:i-us.length=0:=by
    cases h9:i-us.length with
    | zero=>rfl
    | succ m=>rw[h9]at hw;simp at hw
   rw[BA]at hw;rw[show i-fs.length=0 by omega]at hg;cases hw;cases hg
   exact hu.blk (λb iy hl=>Uz b hl (hb b iy).2.2) (cE _)
 ·have:nx0<=b/\b<nx:=by
   rcases ee.1 hw with hw|hw
   ·exact⟨(e4 w hw b MA).1,(e4 w hw b MA).2.1⟩
   ·rw[fe.1 hw]at MA;exact⟨(hb b MA).1,(hb b MA).2.1⟩
  refine⟨this.1,V,λe=>?_⟩;cases e;omega
end
end
end Go.Eng
