import Derived.Test.YthbaplapbfbnoaaGreatWf
/- Walks over the program: part 7. -/

set_option maxRecDepth 100000
set_option maxHeartbeats 1000000
namespace Go.Eng
section
variable {A:aN}{H H':Heap}{nx nx':Nat}{σ:aR}{L:List Value}{Q:cw}
theorem GH(E:eA A){n:Int}{ev rv:Value}{es:List Ed}{r:List (List Int)}{u v:Int}(he:bL H nx 2 aW ev es)(hr:er H nx 1 aZ rv r)(cD:cR r) :
  WF A 6 [.agg #[.int .i64 n,ev],rv,.int .i64 u,.int .i64 v] H nx λx H' nx'=>aq H H' nx/\nx<=nx'/\x=.int .i64 (da n es r u v):=by
 obtain⟨base,ec,rfl⟩:=he.form;obtain⟨rb,rc,rfl⟩:=hr.form;refine WF.enter (E.h rfl _ _ _) E.VW ?_;have bF:aq H (aC H nx [.int .i64 n,.slice base es.length ec]) nx:=aq.refl.set (au _)
 repeat' (first|refine aE ?_|fail)
 refine WO.cn rfl ?_;refine(E.Zc (n:=n) ((he.same bF).up V) ((hr.same bF).up V) cD).of ?_;rintro _ H1 aQ ⟨rfl,bt,cH⟩;have bu:=bF.trans bt V;have a4:ah H1 (at_ nx)=some (.cells [.int .i64 n,.slice base es.length ec]):=(bt nx V).trans aj;by_cases hp:dm n es r=0
 ·rw[hp];have h0:aH n es r=0:=by
   unfold dm at hp;by_cases h:aH n es r=0
   ·exact h
   ·rw[aw h]at hp;exact hp
  have hm:=(bR h0).1;obtain⟨m0,m1,m2,_⟩:=id hm
  repeat' (first|refine aE ?_|(refine bJ ?_ ?_<;>intro h<;>(try simp only[aL]at h))|fail)
  all_goals first
   | (exfalso;omega)
   | exact aD (vs:=[_]) rfl ⟨bu,V,by rw[Gq hp V];rfl⟩
   | exact aD (vs:=[_]) rfl ⟨bu,V,by rw[Gr hp V V];rfl⟩
   | skip
  obtain⟨u',rfl⟩:=Int.eq_ofNat_of_zero_le (show 0<=u by omega);obtain⟨v',rfl⟩:=Int.eq_ofNat_of_zero_le (show 0<=v by omega);obtain⟨m,rfl⟩:=Int.eq_ofNat_of_zero_le m0;refine WO.cn rfl ?_;refine(E.Rq (n:=(m:Int)) hm rfl ((he.same bu).up V)).of ?_;rintro _ H5 fy ⟨pb,pc,c,rfl,XF,GY,G0,kI,AP,jD,wj⟩;have j6:=bu.trans jD V;have iF:u'<m:=V;have mG:v'<m:=V;obtain⟨x,hx⟩:=p9 AP.len iF;obtain⟨y,hy⟩:=p9 AP.len mG;have DQ:=aB.cell hx;have hcy:=aB.cell hy;have Wk:ah H5 (at_ pb)=some (.cells (c.map (.int .i64))):=kI;by_cases tR:Reach es u' v'
  ·have oT:x=y:=by
    have:=AP.DB iF mG tR;rw[hx,hy]at this;exact jk this
   subst oT
   repeat' (first|refine aE ?_|(refine bJ ?_ ?_<;>intro h<;>(try simp only[aL]at h))|fail)
   ·exact absurd rfl (by assumption)
   ·exact aD (vs:=[_]) rfl ⟨j6,V,by rw[Gs (u:=(u':Int)) (v:=(v':Int)) hp V V (by simpa using tR)];rfl⟩
  ·have oT:x≠y:=AP.apart hx hy tR
   repeat' (first|refine aE ?_|(refine bJ ?_ ?_<;>intro h<;>(try simp only[aL]at h))|fail)
   ·exact aD (vs:=[_]) rfl ⟨j6,V,by rw[Gt (u:=(u':Int)) (v:=(v':Int)) hp V V (by simpa using tR)];rfl⟩
   ·exact absurd V oT
 ·repeat' (first|refine aE ?_|(refine bJ ?_ ?_<;>intro h<;>(try simp only[aL]at h))|fail)
  ·exact aD (vs:=[_]) rfl ⟨bu,V,by rw[zz hp];rfl⟩
  all_goals exfalso;omega
theorem B5(E:eA A){n:Int}{v:Nat}{ev rv:Value}{es:List Ed}{r:List (List Int)}(h0:aH n es r=0)(he:bL H nx 2 aW ev es)(hr:er H nx 1 aZ rv r)(hv:v<r.length) :
  WF A 40 [.agg #[.int .i64 n,ev],rv,.int .i64 (v:Int)] H nx λx H' nx'=>aq H H' nx/\nx<=nx'/\GN H' nx nx' x (aT (df (aG es r) (r.getD v []))):=by
 obtain⟨base,ec,rfl⟩:=he.form;obtain⟨rb,rc,rfl⟩:=hr.form;have cD:=cC h0;obtain⟨ho,qo⟩:=gZ h0;have wP:=jw h0 v;have Uw:=(bR h0).1.2.2.1;have oY:=cD.1;have kE:r.getD v []=r[v]:=by rw[aY,aM hv];rfl
 have dv:=λx hx=>dw h0 hv (x:=x) hx
 obtain⟨bb,bo,tN,ib,ic,rfl,iy,jz,bH,hi⟩:=hr.at hv;rw[<-kE]at bH hi;refine WF.enter (E.h rfl _ _ _) E.VY ?_;have bF:aq H (aC H nx [.int .i64 n,.slice base es.length ec]) nx:=aq.refl.set (au _)
 repeat' (first|refine aE ?_|fail)
 refine WO.cn rfl ?_;refine(E.rof (n:=n) h0 ((he.same bF).up V) ((hr.same bF).up V) cD).of ?_;rintro _ H1 aQ ⟨ob,oc,rfl,uj,F6,G5,mK,bt,cH⟩;have bu:=bF.trans bt V;generalize r.getD v []=l at *
 repeat' (first|refine aE ?_|fail)
 refine WC.loop (α:=Nat×Value) (λk=>[(S1,.slice (some ⟨bb,bo,some 1⟩) r.length rc),(S2,.int .i64 (v:Int)),(S7,.slice (some ⟨ob,0,some 1⟩) (2*es.length) oc),(S8,k.2),(S9,.int .i64 ((k.1:Nat):Int))])
  (λk H' nx'=>k.1<=l.length/\aq H1 H' aQ/\aQ<=nx'/\GN H' aQ nx' k.2 (aT (df (aG es r) (l.take k.1)))) (λk=>l.length-k.1)
  ?_ (0,.slice none 0 0) aX ⟨bS _,.refl,au _,.nil⟩
 rintro⟨k,wv⟩ H2 nx2 ⟨hk,bN,fg,hg⟩;simp only at hk hg ⊢;have bV:=bu.trans bN V;have mh:=bV.rd iy jz;have U7:ah H2 (at_ ob)=some (.cells ((aG es r).map (.int .i64))):=(bN ob G5).trans mK
 repeat' (first|refine aE ?_|(refine bJ ?_ ?_<;>intro h<;>(try simp only[aL]at h))|fail)
 ·have bQ:k<l.length:=V;obtain⟨lb,lo,lcs,rfl,tY,_,_,sr,jC⟩:=hi.at (by intro e;rw[e]at bQ;simp at bQ);have kF:=aM bQ;obtain⟨a,ha,qi,_⟩:=dv _ (dM kF);rw[ha]at kF;have q1:=cX (v:=.int .i64 (a:Int)) (jC k _ kF);have Nb:=bV.rd tY sr;have q2:=aB.cell (ho.get (show a<(aG es r).length by omega));obtain⟨wa,wc,rfl⟩:=hg.form;have oJ:(aT (df (aG es r) (l.take k))).length=k:=by rw[bK];unfold df;rw[ja,iZ];omega
  repeat' (first|refine aE ?_|fail)
  refine WO.n rfl ?_;refine bG.more (nx0:=aQ) (m:=[((fa (aG es r) a:Nat):Int)]) rfl rfl (hg.frame (H':=aC H2 nx2 [.int .i64 ((fa (aG es r) a:Nat):Int)]) (nx':=nx2+1) (λd _ h2=>by rw[ak,aw V]) V) (.pre (xs:=[((fa (aG es r) a:Nat):Int)]) (b:=nx2) (c:=2*1+1) (rest:=[]) (.inl aj) V (by show 1<=1;omega) (λ_=>rfl)) V (by simp only[hO,gp];omega) (λv3 H3 bW j8 g3 de _=>?_);obtain⟨v3a,v3c,rfl⟩:=g3.form
  repeat' (first|refine aE ?_|fail)
  refine⟨(k+1,_),by show l.length-(k+1)<l.length-k;omega,aX,by show k+1<=_;omega,(bN.set fg).trans de (au _),V,?_⟩;show GN _ _ _ _ (aT (df (aG es r) (l.take (k+1))));rw[vq (aG es r) l kF,ek];exact g3
 ·obtain rfl:k=l.length:=V;rw[iJ]at hg;exact aD (vs:=[_]) rfl ⟨bV,V,hg.low V⟩
theorem Nd(E:eA A){av bv:Value}{a b:List Nat}(ha:bL H nx 1 aZ av (aT a))(hb:bL H nx 1 aZ bv (aT b))(hl:a.length=b.length)(hm:a.length<=1048576) :
  WF A 42 [av,bv] H nx λx H' nx'=>H'=H/\nx'=nx/\x=.bool (lexB a b):=by
 obtain⟨aa,ac,rfl⟩:=ha.form;obtain⟨ba,bc,rfl⟩:=hb.form;have qi:=bK a;have pI:=bK b;refine WF.enter (E.h rfl _ _ _) E.VZ ?_
 repeat' (first|refine aE ?_|fail)
 refine WC.loop (α:=Nat) (λk=>[([],.slice aa (aT a).length ac),(S1,.slice ba (aT b).length bc),(S5,.int .i64 ((k:Nat):Int))])
  (λk H' nx'=>k<=a.length/\H'=H/\nx'=nx/\a.take k=b.take k) (λk=>a.length-k)
  ?_ 0 aX ⟨bS _,rfl,rfl,rfl⟩
 rintro k _ _ ⟨hk,rfl,rfl,ht⟩
 repeat' (first|refine aE ?_|(refine bJ ?_ ?_<;>intro h<;>(try simp only[aL]at h))|fail)
 ·have bQ:k<a.length:=V;obtain⟨ab,ao,acs,rfl,uD,_,_,har,had⟩:=ha.at (by intro e;rw[e]at qi;simp at qi;omega);obtain⟨bb,bo,bcs,rfl,iy,_,_,zO,Bu⟩:=hb.at (by intro e;rw[e]at pI;simp at pI;omega);have ga:=aM bQ;have gb:=aM (show k<b.length by omega);have PJ:a.drop k=a[k]::a.drop (k+1):=NW bQ;have Jd:b.drop k=b[k]::b.drop (k+1):=NW V;have q1:=cX (v:=.int .i64 ((a[k]:Nat):Int)) (had k _ (by unfold aT;rw[eD,ga];rfl));have q2:=cX (v:=.int .i64 ((b[k]:Nat):Int)) (Bu k _ (by unfold aT;rw[eD,gb];rfl));have Wr:=B4 ht hl;rw[PJ,Jd]at Wr;have ada:lexB a b=if a[k]=b[k]then lexB (a.drop (k+1)) (b.drop (k+1))else decide (a[k]<b[k]):=Wr
  have hta:a.take (k+1)=a.take k++[a[k]]:=by rw[List.take_add_one,ga];rfl
  have htb:b.take (k+1)=b.take k++[b[k]]:=by rw[List.take_add_one,gb];rfl
  generalize a[k]=x at *
  generalize b[k]=y at *
  repeat' (first|refine aE ?_|(refine bJ ?_ ?_<;>intro h<;>(try simp only[aL]at h))|fail)
  ·exact aD (vs:=[_]) rfl ⟨rfl,rfl,by rw[ada,aw V,fB (show x<y by omega)];rfl⟩
  ·exact aD (vs:=[_]) rfl ⟨rfl,rfl,by rw[ada,aw V,im (show ¬x<y by omega)];rfl⟩
  ·refine⟨k+1,V,aX,V,rfl,rfl,?_⟩;rw[hta,htb,ht,show x=y by omega]
 ·have bQ:k=a.length:=V;subst bQ;have Wr:=B4 ht hl;rw[List.drop_length]at Wr;exact aD (vs:=[_]) rfl ⟨rfl,rfl,by rw[Wr];rfl⟩
end
section
variable {A:aN}{H H':Heap}{nx nx':Nat}{σ:aR}{L:List Value}{Q:cw}
theorem eA.aU(E:eA A){h:Nat}(hl:h<=1048576):WF A 74 [.int .i64 (h:Int)] H nx λv H' nx'=>v=.int .i64 ((aU h:Nat):Int)/\H'=H/\nx'=nx:=BM E.FJ (E.h rfl) hl
theorem Nf(E:eA A){n:Int}{ev rv tv:Value}{es:List Ed}{r:List (List Int)}{to:List Nat}(h0:aH n es r=0)(he:bL H nx 2 aW ev es)(hr:er H nx 1 aZ rv r)(ht:bL H nx 1 aZ tv (aT to))(Dg:to.length<=1048576)(htF:∀f∈to,f<(aP es r).length) :
  WF A 39 [.agg #[.int .i64 n,ev],rv,tv] H nx λx H' nx'=>aq H H' nx/\nx<=nx'/\∃b far,x=.slice (some ⟨b,0,some 1⟩) (aP es r).length (2*(aP es r).length+1)/\nx<=b/\b<nx'/\aB H' b far/\m4 (aG es r) (aP es r).length (λf=>f∈to) far:=by
 obtain⟨base,ec,rfl⟩:=he.form;obtain⟨rb,rc,rfl⟩:=hr.form;obtain⟨ta,tc,rfl⟩:=ht.form;have htn:=bK to;have cD:=cC h0;obtain⟨ho,qo⟩:=gZ h0;have Di:=nK h0;obtain⟨hm,oY,_⟩:=bR h0;obtain⟨m0,m1,m2,_⟩:=id hm;have g:=dy h0;refine WF.enter (E.h rfl _ _ _) E.V3 ?_;have bF:aq H (aC H nx [.int .i64 n,.slice base es.length ec]) nx:=aq.refl.set (au _)
 repeat' (first|refine aE ?_|fail)
 refine WO.cn rfl ?_;refine(E.rof (n:=n) h0 ((he.same bF).up V) ((hr.same bF).up V) cD).of ?_;rintro _ H1 aQ ⟨ob,oc,rfl,uj,F6,G5,mK,bt,cH⟩;have bu:=bF.trans bt V;have a4:ah H1 (at_ nx)=some (.cells [.int .i64 n,.slice base es.length ec]):=(bt nx V).trans aj
 repeat' (first|refine aE ?_|fail)
 refine WO.cn rfl ?_;refine(E.Rs (n:=n) g ((he.same bu).up (show nx<=aQ by omega)) ((hr.same bu).up V) cD V).of ?_;rintro fv H2 nx2 ⟨nf,jP,kH,hL,bN⟩;obtain⟨fb,fc,rfl⟩:=hL.form;have bV:=bu.trans bN V;have U7:aB H2 ob (aG es r):=(bN ob G5).trans mK;generalize hF:(aP es r).length=F at *
 repeat' (first|refine aE ?_|fail)
 generalize SL:aC H2 nx2 _=H3;have adb:aB H3 nx2 (List.replicate F 0):=by rw[<-SL];exact fW aj
 have zB:aq H2 H3 nx2:=by rw[<-SL];exact aq.refl.set (au _)
 clear SL;have dZ:=bV.trans zB V;have ZR:aB H3 ob (aG es r):=(zB ob V).trans U7;have si:ob<nx2:=V;have ade:nx<=nx2:=V;refine WC.loop (α:=Nat×List Int) (λk=>[(S2,.slice ta (aT to).length tc),(S7,.slice (some ⟨ob,0,some 1⟩) (2*es.length) oc),(S8,.int .i64 ((F:Nat):Int)),(S9,.slice (some ⟨nx2,0,some 1⟩) F (2*F+1)),(dQ,.int .i64 ((k.1:Nat):Int))])
  (λk H' nx'=>k.1<=F/\k.2.length=F/\(∀i,i<k.1->k.2[i]?=some (-1))/\aq H3 H' nx2/\aB H' nx2 k.2/\nx'=nx2+1) (λk=>F-k.1)
  ?_ (0,List.replicate F 0) aX ⟨bS _,by simp,λi hi=>by omega,.refl,adb,rfl⟩
 rintro⟨k,fl⟩ H4 dA ⟨hk,oJ,Cp,fA,lg,rfl⟩;simp only at hk oJ Cp lg ⊢;have wS:ah H4 (at_ nx2)=some (.cells (fl.map (.int .i64))):=lg
 repeat' (first|refine aE ?_|(refine bJ ?_ ?_<;>intro h<;>(try simp only[aL]at h))|fail)
 ·have hkF:k<F:=V;refine⟨(k+1,fl.set k (-1)),by show F-(k+1)<F-k;omega,aX,by show k+1<=F;omega,by show (fl.set k (-1)).length=F;rw[iq];exact oJ,λi hi=>?_,fA.set (au _),?_,rfl⟩
  ·show (fl.set k (-1))[i]?=_;rw[fZ];by_cases c:k=i
   ·rw[aJ c,aJ V]
   ·rw[aw c];exact Cp i (by show i<k;have:i<k+1:=hi;omega)
  ·show ah (aC H4 nx2 ((fl.map (Value.int .i64)).set (0+k*1) (.int .i64 (-1)))) (at_ nx2)=_;rw[ints_set];exact aj
 ·have hkF:k=F:=V;have Zq:fl=List.replicate F (-1):=by
   apply mb;intro i;rw[mN];by_cases c:i<F
   ·rw[aJ c];exact Cp i V
   ·rw[aw c,gx V]
  skip
  subst Zq;clear hk Cp hkF wS oJ;refine WC.loop (α:=Nat×List Int×List Nat×Value) (λs=>[(S2,.slice ta (aT to).length tc),(S7,.slice (some ⟨ob,0,some 1⟩) (2*es.length) oc),(S9,.slice (some ⟨nx2,0,some 1⟩) F (2*F+1)),(eN,s.2.2.2),(jg,.int .i64 ((s.1:Nat):Int))])
   (λs H' nx'=>s.1<=to.length/\aq H3 H' nx2/\aB H' nx2 s.2.1/\nx2+1<=nx'/\GN H' (nx2+1) nx' s.2.2.2 (aT s.2.2.1)/\B0 F (λf=>f∈to.take s.1) s.2.1 s.2.2.1) (λs=>to.length-s.1)
   ?_ (0,List.replicate F (-1),[],.slice none 0 0) aX ⟨bS _,fA,lg,au _,.nil,B0.start.nI (λf=>⟨λh=>h.elim,λh=>by simp at h⟩)⟩
  clear fA lg;rintro⟨k,fl,q,qv⟩ H4 dA ⟨hk,fA,lg,oO,ma,I⟩;simp only at hk lg ma I ⊢;have MG:=I.I7;have gg:=bK q;have oJ:=I.len;have wS:ah H4 (at_ nx2)=some (.cells (fl.map (.int .i64))):=lg;have M6:ah H4 (at_ ob)=some (.cells ((aG es r).map (.int .i64))):=(fA ob si).trans ZR
  repeat' (first|refine aE ?_|(refine bJ ?_ ?_<;>intro h<;>(try simp only[aL]at h))|fail)
  ·have bQ:k<to.length:=V;obtain⟨lb,lo,lcs,rfl,tY,_,_,sr,jC⟩:=ht.at (by intro e;rw[e]at htn;simp at htn;omega);have gY:=aM bQ;have rO:=jE bQ;generalize to[k]=a at gY rO;have haF:=htF a rO;have q1:=cX (v:=.int .i64 (a:Int)) (jC k _ (by unfold aT;rw[eD,gY];rfl));have agU:=(dZ.trans fA ade).rd tY sr;have q3:=aB.cell (gK (far:=fl) (f:=a) V);have US:to.take (k+1)=to.take k++[a]:=by rw[List.take_add_one,gY];rfl
   have NO:∀f,(f∈to.take k\/f=a)↔f∈to.take (k+1):=λf=>by rw[US,ee,fe]
   obtain⟨qa,qc,rfl⟩:=ma.form
   repeat' (first|refine aE ?_|(refine bJ ?_ ?_<;>intro h<;>(try simp only[aL]at h))|fail)
   ·have aiq:Rd (aC H4 nx2 ((fl.map (Value.int .i64)).set (0+a*1) (.int .i64 0))) lb lcs:=Rd.skip V agU
    repeat' (first|refine aE ?_|fail)
    refine WO.n rfl ?_;refine bG.more (m:=[((a:Nat):Int)]) rfl rfl (ma.frame (λd h1 h2=>by rw[ak,aw V,ak,aw V]) V) (.pre (xs:=[((a:Nat):Int)]) (b:=dA) (c:=2*1+1) (rest:=[]) (.inl aj) V (by show 1<=1;omega) (λ_=>rfl)) V (by simp only[hO,gp];omega) (λv8 H8 RP hn8 g8 DA _=>?_);have Zs:aB H8 nx2 (fl.set a 0):=by
     refine(DA nx2 V).trans (ay V ?_);show ah (aC H4 nx2 ((fl.map (Value.int .i64)).set (0+a*1) (.int .i64 0))) (at_ nx2)=_;rw[ints_set];exact aj
    have agV:aq H3 H8 nx2:=λd hd=>(DA d V).trans (by rw[ak,aw V,ak,aw V];exact fA d hd)
    obtain⟨v8a,v8c,rfl⟩:=g8.form
    repeat' (first|refine aE ?_|fail)
    refine⟨(k+1,fl.set a 0,q++[a],_),by show to.length-(k+1)<to.length-k;omega,aX,by show k+1<=_;omega,agV,Zs,V,by show GN _ _ _ _ (aT (q++[_]));rw[ek];exact g8,(I.put haF V).nI NO⟩
   ·exact⟨(k+1,fl,q,_),by show to.length-(k+1)<to.length-k;omega,aX,by show k+1<=_;omega,fA,lg,oO,ma,(I.skip haF V).nI NO⟩
  ·have bQ:k=to.length:=V;subst bQ;rw[iJ]at I;have J:=BQ.start (of:=aG es r) I
   skip
   clear hk I oJ MG gg wS M6;refine WC.loop (α:=Nat×List Int×List Nat×Value) (λs=>[(S7,.slice (some ⟨ob,0,some 1⟩) (2*es.length) oc),(S9,.slice (some ⟨nx2,0,some 1⟩) F (2*F+1)),(eN,s.2.2.2),(ik,.int .i64 ((s.1:Nat):Int))])
    (λs H' nx'=>s.1<=s.2.2.1.length/\aq H3 H' nx2/\aB H' nx2 s.2.1/\nx2+1<=nx'/\GN H' (nx2+1) nx' s.2.2.2 (aT s.2.2.1)/\BQ (aG es r) F (λf=>f∈to) s.2.1 s.2.2.1 s.1 (λy=>fa (aG es r) y∈s.2.2.1.take s.1)) (λs=>F-s.1)
    ?_ (0,fl,q,qv) aX ⟨bS _,fA,lg,oO,ma,J.weaken (λx _ h=>by simp at h)⟩
   clear fA lg ma J oO;rintro⟨i,fl,q,qv⟩ H4 dA ⟨hk,fA,lg,oO,ma,J⟩;simp only at hk lg ma J ⊢;have MG:=J.I7;have gg:=bK q;obtain⟨qa,qc,rfl⟩:=ma.form
   repeat' (first|refine aE ?_|(refine bJ ?_ ?_<;>intro h<;>(try simp only[aL]at h))|fail)
   ·have jT:i<q.length:=V;have gY:=aM jT;generalize q[i]=p at gY;have UU:=J.lt p (dM gY);have hiF:i<F:=V;refine WC.loop (α:=Nat×List Int×List Nat×Value) (λs=>[(S7,.slice (some ⟨ob,0,some 1⟩) (2*es.length) oc),(S9,.slice (some ⟨nx2,0,some 1⟩) F (2*F+1)),(eN,s.2.2.2),(ik,.int .i64 ((i:Nat):Int)),(iV,.int .i64 ((s.1:Nat):Int))])
     (λs H' nx'=>s.1<=2*es.length/\aq H3 H' nx2/\aB H' nx2 s.2.1/\nx2+1<=nx'/\GN H' (nx2+1) nx' s.2.2.2 (aT s.2.2.1)/\s.2.2.1[i]?=some p/\s.2.2.1.take i=q.take i/\BQ (aG es r) F (λf=>f∈to) s.2.1 s.2.2.1 i (λy=>fa (aG es r) y∈q.take i\/(y<s.1/\fa (aG es r) y=p))) (λs=>2*es.length-s.1)
     ?_ (0,fl,q,_) aX ⟨bS _,fA,lg,oO,ma,gY,rfl,J.weaken (λx _ h=>by rcases h with h|⟨hj,_⟩;exact h;exact absurd hj (SS _))⟩
    clear fA lg ma J oO hk MG gg jT;rintro⟨k,fl,q',qv⟩ H4 dA ⟨hk,fA,lg,oO,ma,m5,zy,J⟩;simp only at hk lg ma m5 zy J ⊢;have MG:=J.I7;have gg:=bK q';have oJ:=J.len;have wS:ah H4 (at_ nx2)=some (.cells (fl.map (.int .i64))):=lg;have M6:ah H4 (at_ ob)=some (.cells ((aG es r).map (.int .i64))):=(fA ob si).trans ZR;have Zx:i<q'.length:=(cS.1 m5).1;obtain⟨qa,qc,rfl⟩:=ma.form
    repeat' (first|refine aE ?_|(refine bJ ?_ ?_<;>intro h<;>(try simp only[aL]at h))|fail)
    ·have bQ:k<2*es.length:=V;refine WO.cn rfl ?_;refine(E.aU (h:=k) V).of ?_;rintro _ H5 fy ⟨rfl,e1,e2⟩;rw[e1,e2];clear e1 e2;have Dg:aU k<(aG es r).length:=by have:=bM bQ;omega
     have q2:=aB.cell (ho.get Dg);have q5:=aB.cell (ho.get (show k<(aG es r).length by omega));have NN:=ho.lt Dg;have q3:=aB.cell (gK (far:=fl) (f:=fa (aG es r) (aU k)) V);have q4:=aB.cell (gK (far:=fl) (f:=p) V);obtain⟨lb,lo,lcs,rfl,tY,_,_,sr,jC⟩:=ma.sle.at (by intro e;rw[e]at gg;simp at gg;omega);have q1:=cX (v:=.int .i64 (p:Int)) (jC i _ (by unfold aT;rw[eD,m5];rfl));have Bu:=J.bound ho qo UU;have hlw:=J.low p;have hcv:∀x,x<(aG es r).length->(fa (aG es r) x∈q.take i\/(x<k+1/\fa (aG es r) x=p))->((fa (aG es r) x∈q.take i\/(x<k/\fa (aG es r) x=p))\/x=k):=λx _ h=>by
      rcases h with h|⟨hj,e⟩
      ·exact .inl (.inl h)
      ·rcases(show x<k\/x=k by omega)with c|rfl
       ·exact .inl (.inr ⟨c,e⟩)
       ·exact .inr rfl
     have hcw:fa (aG es r) k≠p->∀x,x<(aG es r).length->(fa (aG es r) x∈q.take i\/(x<k+1/\fa (aG es r) x=p))->(fa (aG es r) x∈q.take i\/(x<k/\fa (aG es r) x=p)):=λcG x _ h=>by
      rcases h with h|⟨hj,e⟩
      ·exact .inl h
      ·rcases(show x<k\/x=k by omega)with c|rfl
       ·exact .inr ⟨c,e⟩
       ·exact absurd e cG
     have hbk:=ma.blk (d:=lb)
     repeat' (first|refine aE ?_|(refine bJ ?_ ?_<;>intro h<;>(try simp only[aL]at h))|fail)
     ·refine WO.n rfl ?_;refine bG.more (m:=[((fa (aG es r) (aU k):Nat):Int)]) rfl rfl (ma.frame (λd h1 h2=>by rw[ak,aw V,ak,aw V]) V) (.pre (xs:=[((fa (aG es r) (aU k):Nat):Int)]) (b:=dA) (c:=2*1+1) (rest:=[]) (.inl aj) V (by show 1<=1;omega) (λ_=>rfl)) V (by simp only[hO,gp];omega) (λv9 H9 uq hn9 g9 Gp _=>?_);have Zv:aB H9 nx2 (fl.set (fa (aG es r) (aU k)) (fr fl p+1)):=by
       refine(Gp nx2 V).trans (ay V ?_);show ah (aC H4 nx2 ((fl.map (Value.int .i64)).set (0+(fa (aG es r) (aU k))*1) (.int .i64 (fr fl p+1)))) (at_ nx2)=_;rw[ints_set];exact aj
      have agW:aq H3 H9 nx2:=λd hd=>(Gp d V).trans (by rw[ak,aw V,ak,aw V];exact fA d hd)
      obtain⟨v9a,v9c,rfl⟩:=g9.form
      repeat' (first|refine aE ?_|fail)
      exact⟨(k+1,fl.set (fa (aG es r) (aU k)) (fr fl p+1),q'++[fa (aG es r) (aU k)],_),by show 2*es.length-(k+1)<2*es.length-k;omega,aX,by show k+1<=_;omega,agW,Zv,V,by show GN _ _ _ _ (aT (q'++[_]));rw[ek];exact g9,by show (q'++[_])[i]?=_;rw[eC Zx];exact m5,by show (q'++[_]).take i=_;rw[List.take_append_of_le_length V];exact zy,(J.put ho qo m5 V V V).weaken hcv⟩
     ·exact⟨(k+1,fl,q',_),by show 2*es.length-(k+1)<2*es.length-k;omega,aX,by show k+1<=_;omega,fA,lg,oO,ma,m5,zy,(J.skip ho qo m5 V V V).weaken hcv⟩
     ·exact⟨(k+1,fl,q',_),by show 2*es.length-(k+1)<2*es.length-k;omega,aX,by show k+1<=_;omega,fA,lg,oO,ma,m5,zy,J.weaken (hcw V)⟩
    ·have bQ:k=2*es.length:=V;subst bQ
     skip
     refine⟨(i+1,fl,q',_),by show F-(i+1)<F-i;omega,aX,by show i+1<=q'.length;omega,fA,lg,oO,ma,(J.next m5).weaken λx hx h=>?_⟩;have h:fa (aG es r) x∈q'.take (i+1):=h;rw[List.take_add_one,m5,zy]at h;rcases ee.1 h with h|h
     ·exact .inl h
     ·exact .inr ⟨V,by simpa using h⟩
   ·have Zx:i=q.length:=V;subst Zx;rw[iJ]at J;have Dd:=J.done ho (λ_ _ h=>h);exact aD (vs:=[_]) rfl ⟨dZ.trans fA ade,V,nx2,fl,rfl,V,V,lg,Dd⟩
end
section
variable {A:aN}{H H':Heap}{nx nx':Nat}{σ:aR}{L:List Value}{Q:cw}
theorem bG.Ws{nx0 q c by_:Nat}{zero:List Value}{s x:Od}{v:Value}{l:List Int}{y:Int}{K:Value->Heap->Nat->Prop}(WZ:by_<=8)(hs:ev σ L s=some v)(hx:ev σ L x=some (.slice (some ⟨q,0,some 1⟩) 1 c))(hq:Rd H q [.int .i64 y])(hg:GN H nx0 nx v l)(yz:nx0<=nx)(hb:l.length+1<=4194304)(h:∀H',GN H' nx0 (nx+1) (.slice (some ⟨nx,0,some 1⟩) (l.length+1) (2*(l.length+1))) (l++[y])->(∀d,d<nx->bk v≠some d->ah H' (at_ d)=ah H (at_ d))->K (.slice (some ⟨nx,0,some 1⟩) (l.length+1) (2*(l.length+1))) H' (nx+1)):bG A (.app 1 by_ zero s x false) σ L H nx K:=by
 have h8:(l.length+1)*by_<=(l.length+1)*8:=SO _ WZ;refine bG.tz hs hx hg.Wg (dL hq rfl) V V rfl (by unfold small;omega) (by unfold small;omega) ?_;intro H1 k1 k2;refine h H1 (.inr ⟨nx,by simp,by simp,yz,V,?_⟩) (λd hd cG=>k2 d hd λc' z' k' hv=>?_)
 ·rw[k1];unfold mi;rw[jG];rfl
 ·rcases hg with⟨rfl,_⟩|⟨e,rfl,_⟩
  ·cases hv
  ·cases hv;exact cG rfl
theorem fV.snoc{of far:List Int}{f h g:Nat}{p:List Nat}(hp:∀t,fV of far g t->fV of far f (p++t))(h0:0<fr far g)(hx:zq of far g h):∀t,fV of far (fa of (aU h)) t->fV of far f (p++[h]++t):=λt ht=>by
 rw[jj];exact hp _ (.cons h0 hx ht)
theorem Sf(of:List Int)(f:Nat)(p:List Nat)(h:Nat):oP of f (p++[h])=oP of f p++[fa of (aU h)]:=by unfold oP;simp
theorem B6(E:eA A){n:Int}{f fb fc:Nat}{ev rv:Value}{es:List Ed}{r:List (List Int)}{far:List Int}{T:Nat->Prop}(h0:aH n es r=0)(he:bL H nx 2 aW ev es)(hr:er H nx 1 aZ rv r)(D:m4 (aG es r) (aP es r).length T far)(hf:f<(aP es r).length)(NM:fb<nx)(lg:aB H fb far) :
  WF A 41 [.agg #[.int .i64 n,ev],rv,.int .i64 (f:Int),.slice (some ⟨fb,0,some 1⟩) (aP es r).length fc] H nx λx H' nx'=>aq H H' nx/\nx<=nx'/\∃lv fv l,x=oneOf [lv,fv]/\fV (aG es r) far f l/\bL H' nx' 1 aZ lv (aT (l.map (· / 2)))/\bL H' nx' 1 aZ fv (aT (oP (aG es r) f l)):=by
 obtain⟨base,ec,rfl⟩:=he.form;obtain⟨rb,rc,rfl⟩:=hr.form;have cD:=cC h0;obtain⟨ho,qo⟩:=gZ h0;have Di:=nK h0;obtain⟨hm,oY,_⟩:=bR h0;obtain⟨m0,m1,m2,_⟩:=id hm;have hDl:=D.len;have adf:=λg (hg:g<(aP es r).length)=>D.bound ho qo hg
 refine WF.enter (E.h rfl _ _ _) E.acb ?_;have bF:aq H (aC H nx [.int .i64 n,.slice base es.length ec]) nx:=aq.refl.set (au _)
 repeat' (first|refine aE ?_|fail)
 refine WO.cn rfl ?_;refine(E.rof (n:=n) h0 ((he.same bF).up V) ((hr.same bF).up V) cD).of ?_;rintro _ H1 aQ ⟨ob,oc,rfl,uj,F6,G5,mK,bt,cH⟩;have bu:=bF.trans bt V;have agX:aB H1 fb far:=(bu fb NM).trans lg;generalize hF:(aP es r).length=F at *
 repeat' (first|refine aE ?_|fail)
 have IC:aq H1 (aC H1 aQ [.int .i64 (f:Int)]) aQ:=aq.refl.set (au _);refine WC.loop (α:=Nat×List Nat×Value×Value) (λs=>[(S3,.slice (some ⟨fb,0,some 1⟩) F fc),(dQ,.slice (some ⟨ob,0,some 1⟩) (2*es.length) oc),(eN,s.2.2.1),(jg,s.2.2.2),(ik,.int .i64 ((s.1:Nat):Int))])
  (λs H' nx'=>s.1<F/\aq H1 H' aQ/\aQ<=nx'/\GN H' aQ nx' s.2.2.1 (aT (s.2.1.map (· / 2)))/\lS H' aQ nx' s.2.2.2 (aT (oP (aG es r) f s.2.1))/\(∀d,bk s.2.2.1=some d->bk s.2.2.2≠some d)/\((s.2.1.length:Int)+fr far s.1<=1048576/\s.2.1.length<=1048576)/\∀t,fV (aG es r) far s.1 t->fV (aG es r) far f (s.2.1++t)) (λs=>(fr far s.1).toNat)
  ?_ (f,[],.slice none 0 0,.slice (some ⟨aQ,0,some 1⟩) 1 (2*1+1)) aX ⟨hf,IC,V,.nil,lS.one (au _),λd hd=>(by cases hd),⟨by have:=adf f hf;simp only[gp];omega,by simp⟩,λt ht=>ht⟩
 rintro⟨g,p,lv,fv⟩ H2 nx2 ⟨hg,bN,fg,NG,UW,hdj,qk,Z5⟩;simp only at hg NG UW hdj qk Z5 ⊢;have q1:=aB.cell (gK (far:=far) (f:=g) V);have wS:ah H2 (at_ fb)=some (.cells (far.map (.int .i64))):=(bN fb V).trans agX;have hlg:=D.low g;have hbg:=adf g hg
 repeat' (first|refine aE ?_|(refine bJ ?_ ?_<;>intro h<;>(try simp only[aL]at h))|fail)
 ·have CN:0<fr far g:=V;have hex:=Zk D hg CN;refine WC.loop (α:=Nat) (λk=>[(S3,.slice (some ⟨fb,0,some 1⟩) F fc),(dQ,.slice (some ⟨ob,0,some 1⟩) (2*es.length) oc),(eN,lv),(jg,fv),(ik,.int .i64 ((g:Nat):Int)),(iV,.int .i64 ((k:Nat):Int))])
   (λk H' nx'=>k<=2*es.length/\H'=H2/\nx'=nx2/\∀j,j<k->fa (aG es r) j=g->fr far (fa (aG es r) (aU j))≠fr far g-1) (λk=>2*es.length-k)
   ?_ 0 aX ⟨bS _,rfl,rfl,λj hj=>by omega⟩
  rintro k H3 bW ⟨hk,e1,e2,gu⟩;rw[e1,e2];clear e1 e2
  repeat' (first|refine aE ?_|(refine bJ ?_ ?_<;>intro h<;>(try simp only[aL]at h))|fail)
  ·have bQ:k<2*es.length:=V;refine WO.cn rfl ?_;refine(E.aU (h:=k) V).of ?_;rintro _ H5 fy ⟨rfl,e1,e2⟩;rw[e1,e2];clear e1 e2;have M6:ah H2 (at_ ob)=some (.cells ((aG es r).map (.int .i64))):=(bN ob V).trans mK;have Dg:aU k<(aG es r).length:=by have:=bM bQ;omega
   have q2:=aB.cell (ho.get Dg);have q5:=aB.cell (ho.get (show k<(aG es r).length by omega));have NN:=ho.lt Dg;have q3:=aB.cell (gK (far:=far) (f:=fa (aG es r) (aU k)) V);have hlw:=D.low (fa (aG es r) (aU k))
   repeat' (first|refine aE ?_|(refine bJ ?_ ?_<;>intro h<;>(try simp only[aL]at h))|fail)
   ·
    have Ep:zq (aG es r) far g k:=⟨V,V,V,gu⟩;have uo:(aT (p.map (· / 2))).length=p.length:=by rw[bK,ja]
    have oJ:(aT (oP (aG es r) f p)).length=p.length+1:=by rw[bK,KY]
    refine WO.n rfl ?_;refine bG.Ws V rfl rfl Rd.self (NG.frame (H':=aC H2 nx2 [.int .i64 (((k / 2:Nat):Nat):Int)]) (nx':=nx2+1) (λd _ h2=>ay V rfl) V) V V (λH6 g6 Z4=>?_);have adg:=UW.own (H':=H6) (nx':=nx2+1+1) (λb hb=>(Z4 b (by have:=(UW.blk hb).2;omega) (λe=>hdj b e hb)).trans (ay (by have:=(UW.blk hb).2;omega) rfl)) V
    repeat' (first|refine aE ?_|fail)
    refine WO.n rfl ?_;have agY:=adg.own (H':=aC H6 (nx2+1+1) [.int .i64 ((fa (aG es r) (aU k):Nat):Int)]) (nx':=nx2+1+1+1) (λb hb=>ay (by have:=(adg.blk hb).2;omega) rfl) V;refine bG.KL rfl rfl Rd.self agY V (by unfold small;omega) (by unfold small;omega) (λv8 H8 RP hn8 adh hf8 hb8=>?_);have sQ:bk fv≠some (nx2+1):=λe=>by have:=(UW.blk e).2;omega
    have hg8:GN H8 aQ RP (.slice (some ⟨nx2+1,0,some 1⟩) ((aT (p.map (· / 2))).length+1) (2*((aT (p.map (· / 2))).length+1))) (aT (p.map (· / 2))++[(((k / 2:Nat):Nat):Int)]):=by
     rcases g6 with⟨e,_⟩|⟨d,e,g1,g2,g3,g4⟩
     ·cases e
     ·have hd:d=nx2+1:=by
       have:=congrArg bk e
       simpa[bk]using this.symm
      subst hd;exact .inr ⟨nx2+1,e,g1,g2,V,(hf8 (nx2+1) V sQ).trans (ay V g4)⟩
    have agZ:aq H1 H8 aQ:=λd hd=>by
     rw[hf8 d V (λe=>by have:=(UW.blk e).1;omega),ay V rfl,Z4 d V (λe=>by have:=(NG.blk e).1;omega),ay V rfl];exact bN d hd
    have ag0:∀d,bk v8=some d->d≠nx2+1:=λd hd e=>by
     subst e;rcases hb8 with h|h
     ·rw[h]at hd;exact sQ hd
     ·rw[h]at hd;have:=jk hd;omega
    obtain⟨v8a,v8c,rfl⟩:=adh.form
    repeat' (first|refine aE ?_|fail)
    refine⟨(fa (aG es r) (aU k),p++[k],.slice (some ⟨nx2+1,0,some 1⟩) ((aT (p.map (· / 2))).length+1) (2*((aT (p.map (· / 2))).length+1)),_),?_,aX,by show fa (aG es r) (aU k)<F;exact NN,agZ,V,?_,?_,?_,⟨?_,?_⟩,fV.snoc Z5 CN Ep⟩
    ·show (fr far (fa (aG es r) (aU k))).toNat<(fr far g).toNat;omega
    ·show GN _ _ _ _ (aT ((p++[k]).map (· / 2)));rw[jG];show GN _ _ _ _ (aT (p.map (· / 2)++[k / 2]));rw[ek];exact hg8
    ·show lS _ _ _ _ (aT (oP (aG es r) f (p++[k])));rw[Sf,ek];exact adh
    ·intro d h1 h2;cases h1;exact ag0 _ h2 rfl
    ·show (((p++[k]).length:Nat):Int)+fr far (fa (aG es r) (aU k))<=_;rw[cm];simp only[hO,gp];omega
    ·show (p++[k]).length<=_;rw[cm];simp only[hO,gp];omega
   ·refine⟨k+1,V,aX,V,rfl,rfl,λj hj ej=>?_⟩;rcases(show j<k\/j=k by omega)with c|rfl
    ·exact gu j c ej
    ·omega
   ·refine⟨k+1,V,aX,V,rfl,rfl,λj hj ej=>?_⟩;rcases(show j<k\/j=k by omega)with c|rfl
    ·exact gu j c ej
    ·omega
  ·exfalso;obtain⟨x,hx⟩:=hex;exact gu x (by have:=hx.lt;omega) hx.at_ hx.nr
 ·have hw:=Z5 [] (.nil V);rw[gN]at hw;exact aD (vs:=[_,_]) rfl ⟨bu.trans bN V,V,lv,fv,p,rfl,hw,NG.sle,UW.sle⟩
end
section
variable {A:aN}{H H':Heap}{nx nx':Nat}{σ:aR}{L:List Value}{Q:cw}
def adi(of far:List Int)(fs:List Nat)(i:Nat)(fm:Int)(l:List Nat)(H:Heap)(nx:Nat)(bv fv:Value):Prop:=
 (i=0/\fm=-1/\bv=.slice none 0 0/\fv=.slice none 0 0)\/∃g:Nat,fm=(g:Int)/\il of far (λx=>x∈fs.take i) g l/\bL H nx 1 aZ bv (aT (l.map (· / 2)))/\bL H nx 1 aZ fv (aT (oP of g l))
theorem wo(E:eA A){m u v:Nat}{ev rv:Value}{es:List Ed}{r:List (List Int)}(h0:aH (m:Int) es r=0)(he:bL H nx 2 aW ev es)(hr:er H nx 1 aZ rv r)(hu:u<m)(hv:v<m)(pY:u≠v)(tR:Reach es u v) :
  WF A 16 [.agg #[.int .i64 (m:Int),ev],rv,.int .i64 (u:Int),.int .i64 (v:Int)] H nx λx H' nx'=>aq H H' nx/\nx<=nx'/\∃bv fv f l,x=oneOf [bv,fv]/\BX es r u v f l/\bL H' nx' 1 aZ bv (aT (l.map (· / 2)))/\bL H' nx' 1 aZ fv (aT (oP (aG es r) f l)):=by
 obtain⟨base,ec,rfl⟩:=he.form;obtain⟨rb,rc,rfl⟩:=hr.form;have cD:=cC h0;obtain⟨ho,qo⟩:=gZ h0;have Di:=nK h0;obtain⟨hm,oY,_⟩:=bR h0;obtain⟨m0,m1,m2,_⟩:=id hm;have iF:u<r.length:=V;have mG:v<r.length:=V;have NN:∀w,w<r.length->∀g∈df (aG es r) (r.getD w []),g<(aP es r).length:=λw hw g hg=>by
  obtain⟨x,hx,e⟩:=qO hg;obtain⟨a,rfl,qi,_⟩:=dw h0 hw hx;rw[eE]at e;rw[<-e];exact ho.lt V
 have oJ:∀w,(df (aG es r) (r.getD w [])).length<=6144:=λw=>by
  have:=jw h0 w;unfold df;rw[ja];omega
 refine WF.enter (E.h rfl _ _ _) E.Ka ?_;have bF:aq H (aC H nx [.int .i64 (m:Int),.slice base es.length ec]) nx:=aq.refl.set (au _)
 repeat' (first|refine aE ?_|fail)
 refine WO.ca rfl ?_;refine(B5 E (n:=(m:Int)) h0 ((he.same bF).up V) ((hr.same bF).up V) mG).of ?_;rintro tv H1 aQ ⟨bt,cH,hgt⟩;have bu:=bF.trans bt V;have a4:ah H1 (at_ nx)=some (.cells [.int .i64 (m:Int),.slice base es.length ec]):=(bt nx V).trans aj;refine⟨bB.look rfl (Rd.own a4) rfl rfl ue .nil,?_⟩;refine WO.cn rfl ?_;refine(Nf E (n:=(m:Int)) h0 ((he.same bu).up (show nx<=aQ by omega)) ((hr.same bu).up V) hgt.sle (by have:=oJ v;omega) (NN v mG)).of ?_;rintro _ H2 nx2 ⟨bN,fg,fb,far,rfl,acu,adk,lg,D⟩;have bV:=bu.trans bN V;have b4:=(bN nx V).trans a4;obtain⟨vn,Rf⟩:=BW h0 D pY tR mG
 repeat' (first|refine aE ?_|fail)
 refine WO.cn rfl ?_;refine(B5 E (n:=(m:Int)) h0 ((he.same bV).up (show nx<=nx2 by omega)) ((hr.same bV).up V) iF).of ?_;rintro uv H3 bW ⟨de,j8,mI⟩;have dZ:=bV.trans de V;have c4:=(de nx V).trans b4;have ag1:aB H3 fb far:=(de fb adk).trans lg;have sB:=NN u iF;have ag2:=oJ u;have ag3:df (aG es r) (r.getD u [])≠[]:=λe=>vn (List.map_eq_nil_iff.1 e)
 have hDl:=D.len;have ny:∀g l,il (aG es r) far (λx=>x∈(df (aG es r) (r.getD u [])).take (df (aG es r) (r.getD u [])).length) g l->BX es r u v g l:=λg l h=>by
  rw[iJ]at h;exact⟨far,D,h,Rf g h.u⟩
 generalize df (aG es r) (r.getD u [])=fs at *
 have hfn:=bK fs;obtain⟨ua,uc,rfl⟩:=mI.form
 repeat' (first|refine aE ?_|fail)
 refine WC.loop (α:=Nat×Int×List Nat×Value×Value) (λs=>[(S1,.slice rb r.length rc),(S4,.pointer (some ⟨nx,0,none⟩)),(dQ,.slice (some ⟨fb,0,some 1⟩) (aP es r).length (2*(aP es r).length+1)),(eN,.slice ua (aT fs).length uc),(jg,s.2.2.2.1),(ik,s.2.2.2.2),(iV,.int .i64 s.2.1),(kX,.int .i64 ((s.1:Nat):Int))])
  (λs H' nx'=>s.1<=fs.length/\aq H3 H' bW/\bW<=nx'/\adi (aG es r) far fs s.1 s.2.1 s.2.2.1 H' nx' s.2.2.2.1 s.2.2.2.2) (λs=>fs.length-s.1)
  ?_ (0,-1,[],.slice none 0 0,.slice none 0 0) aX ⟨bS _,.refl,au _,.inl ⟨rfl,rfl,rfl,rfl⟩⟩
 rintro⟨i,fm,bl,bv,fv⟩ H4 dA ⟨hi,fA,oO,B⟩;simp only at hi B ⊢;have eW:=dZ.trans fA V;have d4:=(fA nx V).trans c4;have Z6:aB H4 fb far:=(fA fb V).trans ag1;have wS:ah H4 (at_ fb)=some (.cells (far.map (.int .i64))):=Z6;have ag4:=mI.frame (H':=H4) (nx':=dA) (λd _ hd=>fA d hd) V;by_cases hif:i<fs.length
 rotate_left
 ·have ag5:i=fs.length:=V;subst ag5;rcases B with⟨h1,_⟩|⟨g,rfl,hR,hb,hf⟩
  ·exact absurd (mM h1) ag3
  repeat' (first|refine aE ?_|(refine bJ ?_ ?_<;>intro h<;>(try simp only[aL]at h))|fail)
  ·exfalso;omega
  exact aD (vs:=[_,_]) rfl ⟨eW,V,bv,fv,g,bl,rfl,ny g bl hR,hb,hf⟩
 have gY:=aM hif;have rO:=jE hif;have US:fs.take (i+1)=fs.take i++[fs[i]]:=by rw[List.take_add_one,gY];rfl
 generalize fs[i]=f at gY rO US;have Z7:=sB f rO;obtain⟨lb,lo,lcs,rfl,tY,_,_,sr,jC⟩:=ag4.sle.at (by intro e;rw[e]at hfn;simp at hfn;omega);have q1:=cX (v:=.int .i64 (f:Int)) (jC i _ (by unfold aT;rw[eD,gY];rfl));have q2:=aB.cell (gK (far:=far) (f:=f) V);have NO:∀x,(x∈fs.take i\/x=f)↔x∈fs.take (i+1):=λx=>by rw[US,ee,fe]
 rcases B with⟨rfl,rfl,rfl,rfl⟩|⟨g,rfl,hR,hb,hf⟩
 ·
  repeat' (first|refine aE ?_|(refine bJ ?_ ?_<;>intro h<;>(try simp only[aL]at h))|fail)
  all_goals try (exfalso;omega)
  refine WO.cn rfl ?_;refine(B6 E (n:=(m:Int)) (f:=f) h0 ((he.same eW).up (show nx<=dA by omega)) ((hr.same eW).up V) D Z7 V Z6).of ?_;rintro _ H5 fy ⟨jD,wj,lv,Zo,lf,rfl,hw,Sg,Sh⟩
  repeat' (first|refine aE ?_|(refine bJ ?_ ?_<;>intro h<;>(try simp only[aL]at h))|fail)
  all_goals try (exfalso;omega)
  refine⟨(0+1,(f:Int),lf,lv,Zo),by show fs.length-(0+1)<fs.length-0;omega,aX,by show 0+1<=_;omega,fA.trans jD oO,V,.inr ⟨f,rfl,(il.single hw).nI λx=>?_,Sg,Sh⟩⟩;rw[US];simp
 ·have hgF:=sB g (List.mem_of_mem_take hR.u);have q3:=aB.cell (gK (far:=far) (f:=g) V)
  repeat' (first|refine aE ?_|(refine bJ ?_ ?_<;>intro h<;>(try simp only[aL]at h))|fail)
  all_goals try (exfalso;omega)
  ·refine⟨(i+1,(g:Int),bl,bv,fv),by show fs.length-(i+1)<fs.length-i;omega,aX,by show i+1<=_;omega,fA,oO,.inr ⟨g,rfl,(hR.far V).nI NO,hb,hf⟩⟩
  refine WO.cn rfl ?_;refine(B6 E (n:=(m:Int)) (f:=f) h0 ((he.same eW).up (show nx<=dA by omega)) ((hr.same eW).up V) D Z7 V Z6).of ?_;rintro _ H5 fy ⟨jD,wj,lv,Zo,lf,rfl,hw,Sg,Sh⟩;have ahH:ah H5 (at_ fb)=some (.cells (far.map (.int .i64))):=(jD fb V).trans wS;have hb5:=(hb.same jD).up wj;have vt:=(hf.same jD).up wj;have hf0:=Rf f rO;have vf:=hw.len hf0;have NG:=hR.I8.len (Rf g (List.mem_of_mem_take hR.u));have hbf:=D.bound ho qo Z7;have hbg:=D.bound ho qo hgF;have zy:fr far f<fr far g->il (aG es r) far (λx=>x∈fs.take (i+1)) f lf:=λh=>(hR.agS h hw).nI NO
  repeat' (first|refine aE ?_|(refine bJ ?_ ?_<;>intro h<;>(try simp only[aL]at h))|fail)
  ·exfalso;omega
  ·exact⟨(i+1,(f:Int),lf,lv,Zo),by show fs.length-(i+1)<fs.length-i;omega,aX,by show i+1<=_;omega,fA.trans jD oO,V,.inr ⟨f,rfl,zy V,Sg,Sh⟩⟩
  have hfe:fr far f=fr far g:=V;obtain⟨t1,t2⟩:=hR.tie hfe hw;have uo:(lf.map (· / 2)).length=(bl.map (· / 2)).length:=by rw[ja,ja];omega
  refine WO.cn rfl ?_;refine(Nd E Sg hb5 uo (by rw[ja];omega)).of ?_;rintro _ H6 DF ⟨e1,e2,rfl⟩;rw[e1,e2];have WU:=bK (lf.map (· / 2));rw[ja]at WU;obtain⟨la,lc,rfl⟩:=Sg.form;cases Wr:lexB (lf.map (· / 2)) (bl.map (· / 2))with
  | true=>
   repeat' (first|refine aE ?_|fail)
   exact⟨(i+1,(f:Int),lf,_,Zo),by show fs.length-(i+1)<fs.length-i;omega,aX,by show i+1<=_;omega,fA.trans jD oO,V,.inr ⟨f,rfl,(t1 (.inl Wr)).nI NO,Sg,Sh⟩⟩
  | false=>
   rw[Wr]at t1 t2
   repeat' (first|refine aE ?_|(refine bJ ?_ ?_<;>intro h<;>(try simp only[aL]at h))|fail)
   ·have hlz:lf=[]:=mM V;exact⟨(i+1,(f:Int),lf,_,Zo),by show fs.length-(i+1)<fs.length-i;omega,aX,by show i+1<=_;omega,fA.trans jD oO,V,.inr ⟨f,rfl,(t1 (.inr ⟨hlz,V⟩)).nI NO,Sg,Sh⟩⟩
   ·exact⟨(i+1,(g:Int),bl,bv,fv),by show fs.length-(i+1)<fs.length-i;omega,aX,by show i+1<=_;omega,fA.trans jD oO,V,.inr ⟨g,rfl,(t2 (λh=>by rcases h with h|⟨_,h⟩;cases h;omega)).nI NO,hb5,vt⟩⟩
   ·exact⟨(i+1,(g:Int),bl,bv,fv),by show fs.length-(i+1)<fs.length-i;omega,aX,by show i+1<=_;omega,fA.trans jD oO,V,.inr ⟨g,rfl,(t2 (λh=>by rcases h with h|⟨h,_⟩;cases h;have:=congrArg List.length h;simp only[gp]at this;omega)).nI NO,hb5,vt⟩⟩
end
section
variable {A:aN}{H H':Heap}{nx nx':Nat}{σ:aR}{L:List Value}{Q:cw}
theorem ke(E:eA A){n:Int}{v f ob oc:Nat}{ev rv:Value}{es:List Ed}{r:List (List Int)}(h0:aH n es r=0)(hr:er H nx 1 aZ rv r)(si:ob<nx)(mK:aB H ob (aG es r))(hv:v<r.length) :
  WF A 47 [.agg #[.int .i64 n,ev],rv,.int .i64 (v:Int),.slice (some ⟨ob,0,some 1⟩) (2*es.length) oc,.int .i64 (f:Int)] H nx λx H' nx'=>aq H H' nx/\nx<=nx'/\∃z:Int,x=.agg #[.int .i64 (v:Int),.int .i64 z]/\((∃k,k<(r.getD v []).length/\hC (aG es r) (r.getD v []) f k=true)->z=rB (aG es r) (r.getD v []) f):=by
 obtain⟨rb,rc,rfl⟩:=hr.form;have cD:=cC h0;obtain⟨ho,qo⟩:=gZ h0;have Uw:=(bR h0).1.2.2.1;have kE:r.getD v []=r[v]:=by rw[aY,aM hv];rfl
 have wP:=jw h0 v;have oY:=cD.1;have dv:=λx hx=>dw h0 hv (x:=x) hx
 obtain⟨bb,bo,tN,ib,ic,rfl,iy,jz,bH,hi⟩:=hr.at hv;rw[<-kE]at bH hi;generalize r.getD v []=l at *
 refine WF.enter (E.h rfl _ _ _) E.FG ?_;have bF:aq H (aC (aC H nx [.int .i64 n,ev]) (nx+1) [.int .i64 0,.int .i64 0]) nx:=(aq.refl.set (au _)).set V;have ZB:=bF.rd iy jz;have agp:ah (aC (aC H nx [.int .i64 n,ev]) (nx+1) [.int .i64 0,.int .i64 0]) (at_ ob)=some (.cells ((aG es r).map (.int .i64))):=(bF ob si).trans mK;have SI:ah (aC (aC H nx [.int .i64 n,ev]) (nx+1) [.int .i64 0,.int .i64 0]) (at_ (nx+1))=some (.cells [.int .i64 0,.int .i64 0]):=aj
 repeat' (first|refine aE ?_|fail)
 refine WC.loop (α:=Nat) (λk=>[(S1,.slice (some ⟨bb,bo,some 1⟩) r.length rc),(S2,.int .i64 (v:Int)),(S3,.slice (some ⟨ob,0,some 1⟩) (2*es.length) oc),(S4,.int .i64 (f:Int)),(dQ,.pointer (some ⟨nx+1,0,none⟩)),(eN,.int .i64 ((k:Nat):Int))])
  (λk H' nx'=>k<=l.length/\H'=aC (aC H nx [.int .i64 n,ev]) (nx+1) [.int .i64 0,.int .i64 0]/\nx'=nx+1+1/\∀j,j<k->hC (aG es r) l f j=false) (λk=>l.length-k)
  ?_ 0 aX ⟨bS _,rfl,rfl,λj hj=>by omega⟩
 rintro k H1 aQ ⟨hk,e1,e2,gu⟩;rw[e1,e2];clear e1 e2
 repeat' (first|refine aE ?_|(refine bJ ?_ ?_<;>intro h<;>(try simp only[aL]at h))|fail)
 ·have bQ:k<l.length:=V;obtain⟨lb,lo,lcs,rfl,tY,_,_,sr,jC⟩:=hi.at (by intro e;rw[e]at bQ;simp at bQ);have kF:=aM bQ;obtain⟨x,ex,V6,_⟩:=dv _ (dM kF);rw[ex]at kF;have yC:=Nat.mod_lt (k+1) (show 0<l.length by omega);have Ht:=aM yC;obtain⟨b,eb,pI,_⟩:=dv _ (dM Ht);rw[eb]at Ht;have q1:=cX (v:=.int .i64 (x:Int)) (jC k _ kF);have q2:=cX (v:=.int .i64 (b:Int)) (jC _ _ Ht);have Nb:=bF.rd tY sr;have q3:=aB.cell (ho.get (show b<(aG es r).length by omega));have hcP:hC (aG es r) l f k=decide (fa (aG es r) b=f):=by
   unfold hC;rw[aY,Ht];simp
  repeat' (first|refine aE ?_|(refine bJ ?_ ?_<;>intro h<;>(try simp only[aL]at h))|fail)
  ·refine kA rfl aj rfl ⟨bF.set V,V,(x:Int),rfl,λ_=>?_⟩;have:=Gk bQ (by rw[hcP,fB (show fa (aG es r) b=f by omega)]) gu;unfold rB;rw[this,aY,kF];rfl
  ·refine⟨k+1,V,aX,V,rfl,rfl,λj hj=>?_⟩;rcases(show j<k\/j=k by omega)with c|rfl
   ·exact gu j c
   ·rw[hcP,im (show ¬fa (aG es r) b=f by omega)]
 ·refine kA rfl aj rfl ⟨bF.set V,V,-1,rfl,?_⟩;rintro⟨j,h1,h2⟩;rw[gu j V]at h2;cases h2
theorem GI(E:eA A){n:Int}{v a k:Nat}{ev rv:Value}{es:List Ed}{r:List (List Int)}(h0:aH n es r=0)(hr:er H nx 1 aZ rv r)(hv:v<r.length)(hk:(r.getD v [])[k]?=some (a:Int)) :
  WF A 97 [.agg #[.int .i64 n,ev],rv,.agg #[.int .i64 (v:Int),.int .i64 (a:Int)]] H nx λx H' nx'=>aq H H' nx/\nx<=nx'/\x=.int .i64 (k:Int):=by
 obtain⟨rb,rc,rfl⟩:=hr.form;have cD:=cC h0;have hl:=(bR h0).2.1;have oY:=cD.1;have kE:r.getD v []=r[v]:=by rw[aY,aM hv];rfl
 have wP:=cD.row v;have Fb:=iY h0 hv;refine WF.enter (E.h rfl _ _ _) E.QD ?_;obtain⟨bb,bo,tN,ib,ic,rfl,iy,jz,bH,hi⟩:=hr.at hv;rw[<-kE]at bH hi;have bF:aq H (aC (aC H nx [.int .i64 n,ev]) (nx+1) [.int .i64 (v:Int),.int .i64 (a:Int)]) nx:=(aq.refl.set (au _)).set V;have ZB:=bF.rd iy jz;have BA:=(hi.same bF).up (show nx<=nx+1+1 by omega);have bQ:k<(r.getD v []).length:=(cS.1 hk).1;generalize hg:r.getD v []=l at *
 repeat' (first|refine aE ?_|(refine bJ ?_ ?_<;>intro h<;>(try simp only[aL]at h))|fail)
 all_goals try (exfalso;omega)
 refine WC.loop (α:=Nat) (λj=>[(S1,.slice (some ⟨bb,bo,some 1⟩) r.length rc),(S5,.pointer (some ⟨nx+1,0,none⟩)),(S7,.int .i64 ((j:Nat):Int))]) (λj H' nx'=>j<=k/\H'=aC (aC H nx [.int .i64 n,ev]) (nx+1) [.int .i64 (v:Int),.int .i64 (a:Int)]/\nx'=nx+1+1) (λj=>l.length-j) ?_ 0 aX ⟨bS _,rfl,rfl⟩;rintro j H1 aQ ⟨hj,e1,e2⟩;rw[e1,e2];clear e1 e2;obtain⟨lb,lo,lcs,rfl,tY,_,_,sr,VF⟩:=BA.at (λe=>by rw[e]at bQ;simp at bQ);have hgj:=aM (show j<l.length by omega);generalize l[j]=y at hgj;have q1:=cX (v:=.int .i64 y) (VF j _ hgj);have dS:Rd (aC (aC H nx [.int .i64 n,ev]) (nx+1) [.int .i64 (v:Int),.int .i64 (a:Int)]) (nx+1) [.int .i64 (v:Int),.int .i64 (a:Int)]:=Rd.self
 repeat' (first|refine aE ?_|(refine bJ ?_ ?_<;>intro h<;>(try simp only[aL]at h))|fail)
 ·have:j=k:=qf Fb (by rw[hgj];congr 1) hk;subst this;exact aD (vs:=[_]) rfl ⟨bF,V,rfl⟩
 ·have hjk:j≠k:=by
   intro c;subst c;rw[hk]at hgj;cases hgj;exact absurd rfl (by assumption)
  exact⟨j+1,V,aX,V,rfl,rfl⟩
 ·exfalso;omega
def GJ(l:List Int)(i:Nat)(a:Int)(k:Nat):List Int:=if k<=i then l.take k else l.take (i+1)++a::(l.take k).drop (i+1)
theorem zM(E:eA A){lv hv:Value}{l:List Int}{a x:Int}(hl:bL H nx 1 aZ lv l)(hm:l.length<=1048576)(Fb:l.Nodup)(hx:x∈l)(hh:bL H nx 1 aZ hv [a]) :
  WF A 80 [lv,.int .i64 x,hv] H nx λv H' nx'=>aq H H' nx/\nx<=nx'/\GN H' nx nx' v (putAt l x a):=by
 obtain⟨lb,lc,rfl⟩:=hl.form;obtain⟨i,hi,ei⟩:=kG hx;have gY:l[i]?=some x:=by rw[aM hi,ei]
 have ZD:l.idxOf x=i:=RU gY (λj hj e=>by have:=qf Fb e gY;omega);have OQ:putAt l x a=l.take (i+1)++a::l.drop (i+1):=by unfold putAt;rw[ZD]
 refine WF.enter (E.h rfl _ _ _) E.V4 ?_
 repeat' (first|refine aE ?_|(refine bJ ?_ ?_<;>intro h<;>(try simp only[aL]at h))|fail)
 ·exfalso;omega
 refine WC.loop (α:=Nat×Value) (λk=>[([],.slice lb l.length lc),(S1,.int .i64 x),(S2,hv),(S7,k.2),(S8,.int .i64 ((k.1:Nat):Int))])
  (λk H' nx'=>k.1<=l.length/\nx<=nx'/\aq H H' nx/\GN H' nx nx' k.2 (GJ l i a k.1)) (λk=>l.length-k.1)
  ?_ (0,.slice none 0 0) aX ⟨bS _,au _,.refl,by show GN _ _ _ _ (GJ l i a 0);unfold GJ;rw[aJ (bS _)];exact .nil⟩
 rintro⟨k,vk⟩ H1 aQ ⟨hk,cH,bt,g1⟩;simp only at hk g1 ⊢
 repeat' (first|refine aE ?_|(refine bJ ?_ ?_<;>intro h<;>(try simp only[aL]at h))|fail)
 ·have bQ:k<l.length:=V;obtain⟨bb,bo,tN,rfl,iy,_,_,adl,jC⟩:=hl.at (λe=>by rw[e]at bQ;simp at bQ);have G2:=bt.rd iy adl;have kF:=aM bQ;have q1:=cX (v:=.int .i64 l[k]) (jC k _ kF);generalize l[k]=y at kF q1;have zy:l.take (k+1)=l.take k++[y]:=by rw[List.take_add_one,kF];rfl
  have iF:(GJ l i a k).length<=1048580:=by
   unfold GJ;split
   ·rw[iZ];omega
   ·rw[cm,hO,pf,iZ,iZ];omega
  obtain⟨va,vc,rfl⟩:=g1.form
  repeat' (first|refine aE ?_|fail)
  refine WO.n rfl ?_;refine bG.more (m:=[y]) rfl rfl (g1.frame (H':=aC H1 aQ [.int .i64 y]) (nx':=aQ+1) (λd _ h2=>by rw[ak,aw V]) (cE _)) (.pre (xs:=[y]) (b:=aQ) (c:=2*1+1) (rest:=[]) (.inl aj) V (by show 1<=1;omega) (λ_=>rfl)) V (by simp only[hO,gp];omega) (λv4 H4 dA oO g4 fA _=>?_);have Ve:aq H H4 nx:=(bt.set cH).trans fA (au _);have air:=Ve.rd iy adl;obtain⟨v4a,v4c,rfl⟩:=g4.form
  repeat' (first|refine aE ?_|(refine bJ ?_ ?_<;>intro h<;>(try simp only[aL]at h))|fail)
  ·have hyx:y=x:=by assumption
   have hki:k=i:=qf Fb (by rw[kF,hyx]) gY;subst hki;have hu:GJ l k a k++[y]++[a]=GJ l k a (k+1):=by
    unfold GJ;rw[aJ (au _),aw V,zy,List.drop_eq_nil_iff.2 (by rw[cm,iZ];simp only[hO,gp];omega)]
   have qk:(GJ l k a k++[y]).length<=1048590:=by rw[cm];simp only[hO,gp];omega
   refine WO.n rfl ?_;refine bG.more rfl rfl g4 ((hh.same Ve).up V) V (by simp only[hO,gp];omega) (λv5 H5 fy wj g5 jD _=>?_);obtain⟨v5a,v5c,rfl⟩:=g5.form
   repeat' (first|refine aE ?_|fail)
   refine⟨(k+1,_),by show l.length-(k+1)<l.length-k;omega,aX,by show k+1<=_;omega,V,Ve.trans jD (au _),by show GN _ _ _ _ (GJ l k a (k+1));rw[<-hu];exact g5⟩
  ·have hyx:¬y=x:=by assumption
   have hki:k≠i:=λc=>by
    subst c;rw[gY]at kF;cases kF;exact hyx rfl
   have hu:GJ l i a k++[y]=GJ l i a (k+1):=by
    unfold GJ;by_cases c:k<=i
    ·rw[aJ c,aJ V,zy]
    ·rw[aw c,aw V,zy,List.drop_append_of_le_length (by rw[iZ];omega)];simp
   refine⟨(k+1,.slice v4a (GJ l i a k++[y]).length v4c),by show l.length-(k+1)<l.length-k;omega,aX,by show k+1<=_;omega,V,Ve,by show GN _ _ _ _ (GJ l i a (k+1));rw[<-hu];exact g4⟩
 ·have bQ:k=l.length:=V;subst bQ;have:GJ l i a l.length=putAt l x a:=by
   unfold GJ;rw[aw V,iJ,OQ]
  rw[this]at g1;exact aD (vs:=[_]) rfl ⟨bt,V,g1⟩
theorem wq(E:eA A){n:Int}{m v a f:Nat}{ev rv:Value}{es:List Ed}{r:List (List Int)}(h0:aH n es r=0)(iL:n=(m:Int))(he:bL H nx 2 aW ev es)(hr:er H nx 1 aZ rv r)(c:Jg es r v a f) :
  WF A 78 [.agg #[.int .i64 n,ev],rv,.agg #[.int .i64 (v:Int),.int .i64 (a:Int)]] H nx λx H' nx'=>aq H H' nx/\nx<=nx'/\x=oneOf [.int .i64 (f:Int),.int .i64 0]:=by
 obtain⟨base,ec,rfl⟩:=he.form;obtain⟨rb,rc,rfl⟩:=hr.form;have cD:=cC h0;obtain⟨hm,hl,_⟩:=bR h0;obtain⟨m0,m1,m2,_⟩:=id hm;obtain⟨ho,qo⟩:=gZ h0;subst iL;have oY:r.length=m:=V;obtain⟨mG,qi,k,b,hk,hb,pI,hf⟩:=c;have kE:r.getD v []=r[v]:=by rw[aY,aM mG];rfl
 have wP:=cD.row v;refine WF.enter (E.h rfl _ _ _) E.QC ?_;obtain⟨bb,bo,tN,ib,ic,rfl,iy,jz,bH,hi⟩:=hr.at mG;rw[<-kE]at bH hi;have bQ:k<(r.getD v []).length:=(cS.1 hk).1;have bF:aq H (aC (aC H nx [.int .i64 (m:Int),.slice base es.length ec]) (nx+1) [.int .i64 (v:Int),.int .i64 (a:Int)]) nx:=(aq.refl.set (au _)).set V;have b3:Rd (aC (aC H nx [.int .i64 (m:Int),.slice base es.length ec]) (nx+1) [.int .i64 (v:Int),.int .i64 (a:Int)]) nx [.int .i64 (m:Int),.slice base es.length ec]:=Rd.skip V Rd.self;have b5:Rd (aC (aC H nx [.int .i64 (m:Int),.slice base es.length ec]) (nx+1) [.int .i64 (v:Int),.int .i64 (a:Int)]) (nx+1) [.int .i64 (v:Int),.int .i64 (a:Int)]:=Rd.self
 repeat' (first|refine aE ?_|fail)
 refine WO.cn rfl ?_;refine(GI E (n:=(m:Int)) (ev:=.slice base es.length ec) h0 ((hr.same bF).up (show nx<=nx+1+1 by omega)) mG hk).of ?_;rintro _ H1 aQ ⟨bt,cH,rfl⟩;have c3:=bt.rd V b3;have c5:=bt.rd V b5;have bu:=bF.trans bt V;have fU:=bu.rd iy jz;obtain⟨lb,lo,lcs,rfl,tY,_,_,sr,VF⟩:=hi.at (λe=>by rw[e]at bQ;simp at bQ);have yC:=Nat.mod_lt (k+1) (show 0<(r.getD v []).length by omega);have q1:=cX (v:=.int .i64 (b:Int)) (VF _ _ hb);have ZW:=bu.rd tY sr
 repeat' (first|refine aE ?_|(refine bJ ?_ ?_<;>intro h<;>(try simp only[aL]at h))|fail)
 all_goals try (exfalso;omega)
 refine WO.ca rfl ?_;refine(E.rof (n:=(m:Int)) h0 ((he.same bu).up V) ((hr.same bu).up V) cD).of ?_;rintro _ H2 nx2 ⟨ob,oc,rfl,uj,F6,G5,mK,bN,fg⟩;have d5:=bN.rd V c5;have mh:=bN.rd V fU;have Nb:=bN.rd V ZW;refine⟨bB.look rfl Nb (gD q1) rfl (by simp[mc,ff]) (bB.look rfl mh (gD bH) rfl eO (bB.look rfl d5 rfl rfl (by simp[mc,ff]) (bB.look rfl mh (gD bH) rfl eO (bB.look rfl d5 rfl rfl (by simp[mc,ff]) .nil)))),?_⟩;have hoz:=aB.cell (ho.get (show b<(aG es r).length by omega));rw[hf]at hoz;have Gl:ah H2 (at_ ob)=some (.cells ((aG es r).map (.int .i64))):=mK
 repeat' (first|refine aE ?_|fail)
 exact aD (vs:=[_,_]) rfl ⟨bu.trans bN V,V,rfl⟩
end
section
variable {A:aN}{H H':Heap}{nx nx':Nat}{σ:aR}{L:List Value}{Q:cw}
structure rh(H:Heap)(nx b:Nat)(us:List Value)(rs:List (List Int)):Prop where
 cells:ah H (at_ b)=some (.cells us)
 len:us.length=rs.length
 row:∀(i:Nat) (u:Value) (l:List Int),us[i]?=some u->rs[i]?=some l->bL H nx 1 aZ u l/\bk u≠some b
theorem rh.start{b n:Nat}(hc:ah H (at_ b)=some (.cells (bj [.slice none 0 0] n))):rh H nx b (List.replicate n (.slice none 0 0)) (List.replicate n []):=by
 rw[gG]at hc;refine⟨hc,by simp,λi u l hu hl=>?_⟩;rw[mN]at hu hl;split at hu
 ·cases hu;rename_i hi;rw[aJ hi]at hl;cases hl;exact⟨.nil,λe=>by cases e⟩
 ·cases hu
theorem rh.put{b v:Nat}{us:List Value}{rs:List (List Int)}{u:Value}{l:List Int}(h:rh H nx b us rs)(hv:v<rs.length)(hs:∀d,d<nx->d≠b->ah H' (at_ d)=ah H (at_ d))(hn:nx<=nx')(hu:bL H' nx' 1 aZ u l)(hb:bk u≠some b)(hc:ah H' (at_ b)=some (.cells (us.set v u))):rh H' nx' b (us.set v u) (rs.set v l):=by
 refine⟨hc,by rw[iq,iq,h.len],λi x y hx hy=>?_⟩;rw[fZ]at hx hy;by_cases e:v=i
 ·subst e;rw[aJ rfl,aJ (by rw[h.len];exact hv)]at hx;rw[aJ rfl,aJ hv]at hy;cases hx;cases hy
  exact⟨hu,hb⟩
 ·rw[aw e]at hx hy;obtain⟨g1,g2⟩:=h.row i x y hx hy;exact⟨g1.blk (λd hd cg=>hs d cg (λe=>g2 (by rw[hd,e]))) hn,g2⟩
theorem rh.at{b v:Nat}{us:List Value}{rs:List (List Int)}(h:rh H nx b us rs)(hv:v<rs.length):∃u,us[0+v*1]?=some u/\bL H nx 1 aZ u (rs.getD v [])/\bk u≠some b:=by
 have hl:v<us.length:=by rw[h.len];exact hv
 have hu:=aM hl;have hr:=aM hv;refine⟨us[v],by rw[show 0+v*1=v by omega];exact hu,?_⟩;rw[aY,hr];exact h.row v _ _ hu hr
theorem rh.FW{b c:Nat}{us:List Value}{rs:List (List Int)}(h:rh H nx b us rs)(hb:b<nx)(hc:rs.length<=aF c):er H nx 1 aZ (.slice (some ⟨b,0,some 1⟩) rs.length c) rs:=by
 refine⟨us,h.len,?_,λi u l hu hl=>(h.row i u l hu hl).1⟩;rw[<-h.len];exact .pre (rest:=[]) (.inl (by rw[ln,gN];exact h.cells)) hb (by rw[h.len];exact hc) (λ_=>rfl)
theorem bP.Wt{nx0 by_:Nat}{zero:List Value}{s x:Od}{v xv:Value}{l m:List Ed}{K:Value->Heap->Nat->Prop}(hs:ev σ L s=some v)(hx:ev σ L x=some xv)(hg:bP H nx0 nx 2 v l.length (l.flatMap aW))(eJ:pN H 2 xv m.length (m.flatMap aW))(yz:nx0<=nx)(WZ:by_<=16)(hb:l.length+m.length<=1048576)(h:∀v' H' nx',nx<=nx'->bP H' nx0 nx' 2 v' (l++m).length ((l++m).flatMap aW)->(∀d,d<nx->bk v≠some d->ah H' (at_ d)=ah H (at_ d))->K v' H' nx'):bG A (.app 2 by_ zero s x false) σ L H nx K:=by
 have h16:(l.length+m.length)*by_<=(l.length+m.length)*16:=SO _ WZ;refine .Ik hs hx hg eJ V (nG _) (iB _) yz (by unfold small;omega) (by unfold small;omega) (λv' H' nx' h1 h2 _ h3=>h v' H' nx' h1 ?_ (λd hd cG=>h3 d hd λc z' k e=>?_))
 ·rw[<-List.flatMap_append]at h2;rw[cm];exact h2
 ·obtain⟨_,⟨rfl,_⟩|⟨b,rfl,_,_,_⟩⟩:=hg
  ·cases e
  ·cases e;exact cG rfl
theorem Si{m:Int}{b:Option Addr}{n c:Nat}:∀l:List Ed,[Value.int .i64 m,.slice b n c]≠l.flatMap aW:=by
 intro l h;cases l with
 | nil=>cases h
 | cons e l=>
  have:=congrArg (λl:List Value=>l[1]?) h;simp[aW]at this
theorem adm{m nb b c:Nat}{gb:List Value}{rv v6 v7 v8 v17 v4 v14:Value}{r:List (List Int)}{H0:Heap}{us:List Value}(hr:er H0 nb 1 aZ rv r)(hl:r.length=m)(bF:aq H0 H nb)(hb:nb<=b)(o9:b<nx)(h4:∃q,v4=.pointer (some ⟨q,0,none⟩)/\q<b/\Rd H q (.int .i64 (m:Int)::gb))(ho:rh H nx b us (List.replicate m []))(hm:m<=1048576)(hc:m<=aF c)(bq:∀σ H' us',bD [(S1,rv),(S4,v4),(S6,v6),(S7,v7),(S8,v8),(iV,v14),(jA,v17),(ry,.slice (some ⟨b,0,some 1⟩) m c)] σ->(∀d,d≠b->ah H' (at_ d)=ah H (at_ d))->rh H' nx b us' r->Q (.exit 0) σ H' nx) :
  WC A (.loop Is) [(S1,rv),(S4,v4),(S6,v6),(S7,v7),(S8,v8),(iV,v14),(jA,v17),(ry,.slice (some ⟨b,0,some 1⟩) m c),(r5,.int .i64 0)] H nx Q:=by
 obtain⟨rb,rc,rfl⟩:=hr.form;obtain⟨q,rfl,hq,hqr⟩:=h4;refine WC.loop (α:=Nat) (λk=>[(S1,.slice rb r.length rc),(S4,.pointer (some ⟨q,0,none⟩)),(S6,v6),(S7,v7),(S8,v8),(iV,v14),(jA,v17),(ry,.slice (some ⟨b,0,some 1⟩) m c),(r5,.int .i64 ((k:Nat):Int))])
  (λk H' nx'=>k<=m/\nx'=nx/\(∀d,d≠b->ah H' (at_ d)=ah H (at_ d))/\∃us,rh H' nx b us (kM (λl=>l) r k)) (λk=>m-k)
  ?_ 0 aX ⟨bS _,rfl,λ_ _=>rfl,us,by rw[oz,hl];exact ho⟩
 rintro k H1 aQ ⟨hk,e1,hf,us1,F6⟩;rw[e1];have iF:=F6.len;rw[iX,hl]at iF;have ais:Rd H1 q (.int .i64 (m:Int)::gb):=by unfold Rd;rw[hf q V];exact hqr
 unfold Is
 repeat' (first|refine aE ?_|(refine bJ ?_ ?_<;>intro h<;>(try simp only[aL]at h))|fail)
 ·have bQ:k<r.length:=V;have kE:r.getD k []=r[k]:=by rw[aY,aM bQ];rfl
  obtain⟨bb,bo,tN,ib,ic,rfl,iy,jz,bH,hi⟩:=hr.at bQ;rw[<-kE]at bH hi;have pB:∀d,d<nb->ah H1 (at_ d)=ah H0 (at_ d):=λd hd=>(hf d V).trans (bF d hd)
  have fU:Rd H1 bb tN:=by unfold Rd;rw[pB bb iy];exact jz
  have LC:=F6.cells
  repeat' (first|refine aE ?_|fail)
  have zQ:=qI (λl=>l) r bQ;refine⟨k+1,V,aX,V,rfl,λd hd=>by rw[ak,aw hd];exact hf d hd,us1.set k (.slice ib (r.getD k []).length ic),?_⟩;rw[<-zQ,show 0+k*1=k by omega];refine F6.put (by rw[iX];exact bQ) (λd _ hd=>by rw[ak,aw hd]) (au _) ?_ (λe=>by have:=nM hi e;omega) aj;exact hi.blk (λd hd cg=>by rw[ak,aw V];exact pB d cg) V
 ·obtain rfl:k=m:=V;have zQ:=qH (λl=>l) r;rw[hl]at zQ;rw[zQ,List.map_id']at F6;exact bq _ _ us1 aX hf F6
theorem Jn(E:eA A){n:Int}{m v w a b f:Nat}{ev rv:Value}{es:List Ed}{r:List (List Int)}(h0:aH n es r=0)(iL:n=(m:Int))(he:bL H nx 2 aW ev es)(hr:er H nx 1 aZ rv r)(ka:Jg es r v a f)(kb:Jg es r w b f)(cG:v≠w)(dx:es.length<3072) :
  WF A 48 [.agg #[.int .i64 n,ev],rv,.agg #[.int .i64 (v:Int),.int .i64 (a:Int)],.agg #[.int .i64 (w:Int),.int .i64 (b:Int)]] H nx λx H' nx'=>aq H H' nx/\nx<=nx'/\∃oA rb c us,x=oneOf [.agg #[.int .i64 n,oA],.slice (some ⟨rb,0,some 1⟩) r.length c,.int .i64 0]/\r.length<=aF c/\bL H' nx' 2 aW oA (es++[((v:Int),(w:Int))])/\(∀d,bk oA=some d->nx<=d)/\dK H' nx nx' rb us (oD es.length r v (a:Int) w (b:Int)):=by
 obtain⟨base,ec,rfl⟩:=he.form;obtain⟨rb,rc,rfl⟩:=hr.form;have cD:=cC h0;obtain⟨hm,hl,_⟩:=bR h0;have g:=dy h0;have BL:=hm.2.1;subst iL;have oY:r.length=m:=V;have hv:v<m:=by have:=ka.vl;omega
 have hw:w<m:=by have:=kb.vl;omega
 have hnv:=iY h0 (v:=v) V;have hnw:=iY h0 (v:=w) V;have hrv:=jw h0 v;have hrw:=jw h0 w;refine WF.enter (E.h rfl _ _ _) E.V0 ?_;have bF:aq H (aC (aC (aC (aC H nx [.int .i64 (m:Int),.slice base es.length ec]) (nx+1) [.int .i64 (v:Int),.int .i64 (a:Int)]) (nx+1+1) [.int .i64 (w:Int),.int .i64 (b:Int)]) (nx+1+1+1) [.int .i64 0,.slice none 0 0]) nx:=(((aq.refl.set (au _)).set V).set V).set V;have bx0:=Bx.of (H:=H) (nx:=nx) (a:=[.int .i64 (m:Int),.slice base es.length ec]) (b:=[.int .i64 (v:Int),.int .i64 (a:Int)]) (c:=[.int .i64 (w:Int),.int .i64 (b:Int)]) (d:=[.int .i64 0,.slice none 0 0])
 repeat' (first|refine aE ?_|fail)
 have zQ:=wq E (n:=(m:Int)) (v:=v) h0 rfl ((he.same bF).up (show nx<=nx+1+1+1+1 by omega)) ((hr.same bF).up V) ka;refine WO.cn rfl ?_;refine zQ.of ?_;rintro _ H1 aQ ⟨bt,cH,rfl⟩;have ZE:=bx0.same bt V;have bu:=bF.trans bt V;clear zQ;obtain⟨r4,r6,r7,r8⟩:=id ZE
 repeat' (first|refine aE ?_|(refine bJ ?_ ?_<;>intro h<;>(try simp only[aL]at h))|fail)
 ·omega
 have zQ:=wq E (n:=(m:Int)) (v:=w) h0 rfl ((he.same bu).up (show nx<=aQ by omega)) ((hr.same bu).up V) kb;refine WO.cn rfl ?_;refine zQ.of ?_;rintro _ H2 nx2 ⟨bN,fg,rfl⟩;have ZF:=ZE.same bN V;have bV:=bu.trans bN V;clear r4 r6 r7 r8 zQ;obtain⟨r4,r6,r7,r8⟩:=id ZF
 repeat' (first|refine aE ?_|(refine bJ ?_ ?_<;>intro h<;>(try simp only[aL]at h))|fail)
 ·omega
 refine WO.cn rfl ?_;refine(zj E (n:=(m:Int)) ((he.same bV).up (show nx<=nx2 by omega)) V).of ?_;rintro _ H3 bW ⟨de,j8,ev3,rfl,MM⟩;have ZG:=ZF.same de V;have dZ:=bV.trans de V;obtain⟨a3,c3,rfl⟩:=(bP.sle MM (λ_=>rfl)).form;have MP:nx+1+1+1+1<=nx2:=V;clear r4 r6 r7 r8 bF bx0 bt ZE bu bN ZF bV de cH fg;obtain⟨r4,r6,r7,r8⟩:=id ZG
 repeat' (first|refine aE ?_|fail)
 have Z8:aq H3 (aC (aC (aC H3 bW [.int .i64 0,.slice none 0 0]) bW [.int .i64 (m:Int),.slice a3 es.length c3]) (bW+1) [.int .i64 (v:Int),.int .i64 (w:Int)]) bW:=((aq.refl.set (au _)).set (au _)).set V;have G6:∀d,bk (.slice a3 es.length c3)=some d->d<bW:=λd hd=>nM (bP.sle MM (λ_=>rfl)) hd
 refine WO.n rfl ?_;refine bP.Wt (l:=es) (m:=[((v:Int),(w:Int))]) rfl rfl (MM.same Z8 (show bW<=bW+1+1 by omega)) (nH Rd.self) V V (by show es.length+1<=_;omega) ?_;intro v4 H4 dA oO ma G9;have Z9:∀d,d<nx2->ah H4 (at_ d)=ah H3 (at_ d):=λd hd=>(G9 d V (λe=>by
  have Jd:=MM;obtain⟨_,⟨e1,_⟩|⟨q,e1,g1,_⟩⟩:=Jd
  ·rw[e1]at e;cases e
  ·rw[e1]at e;cases e;omega)).trans (Z8 d V)
 have t4:ah H4 (at_ bW)=some (.cells [.int .i64 (m:Int),.slice a3 es.length c3]):=(G9 bW V (λe=>by have:=G6 _ e;omega)).trans (by rw[ak,aw V,ak,aJ rfl];rfl);have ZH:=ZG.same (H':=H4) (nx':=nx2) (λd hd=>Z9 d hd) V;have eW:aq H H4 nx:=λd hd=>(Z9 d V).trans (dZ d hd)
 have GK:=bP.sle ma (λ_=>rfl);obtain⟨a4,c4,rfl⟩:=GK.form;have KH:nx2<=bW:=V;clear r4 r6 r7 r8 Z8 G6 G9 Z9 MM dZ ZG;obtain⟨r4,r6,r7,r8⟩:=id ZH;have Jo:=KP (v:=v) (w:=w) hm V V dx;have ahI:(es++[((v:Int),(w:Int))]).length=es.length+1:=by rw[cm];rfl
 repeat' (first|refine aE ?_|fail)
 have DE:aq H4 (aC H4 bW [.int .i64 (m:Int),.slice a4 (es++[((v:Int),(w:Int))]).length c4]) bW:=aq.refl.set (au _);obtain⟨_,⟨_,e0⟩|⟨eb,e1,eb1,eb2,ebc⟩⟩:=ma
 ·omega
 have adn:∀d,bk (.slice a4 (es++[((v:Int),(w:Int))]).length c4)=some d->nx+1+1+1+1<=d:=λd hd=>by rw[e1]at hd;cases hd;omega
 have ado:eb≠bW:=λe=>by
  rw[e,t4]at ebc;exact Si _ (jb.cells.inj (jk ebc))
 have AT:bL (aC H4 bW [.int .i64 (m:Int),.slice a4 (es++[((v:Int),(w:Int))]).length c4]) dA 2 aW (.slice a4 (es++[((v:Int),(w:Int))]).length c4) (es++[((v:Int),(w:Int))]):=GK.blk (λd hd _=>by
  rw[e1]at hd;cases hd;rw[ak,aw ado]) (au _)
 have U0:=ZH.same DE V;have j6:=eW.trans DE V;refine WO.cn rfl ?_;refine(tK E.QE (E.h rfl) (n:=(m:Int)) AT).of ?_;rintro _ H6 DF ⟨rfl,G7,Wn⟩;rw[fB Jo];have ZL:=U0.same G7 V;have wR:=j6.trans G7 V;have t6:ah H6 (at_ bW)=some (.cells [.int .i64 (m:Int),.slice a4 (es++[((v:Int),(w:Int))]).length c4]):=(G7 bW V).trans aj;have Jm:=(AT.same G7).up Wn;clear r4 r6 r7 r8 DE ado U0 ZH j6 eW GK AT t4 e1 ebc eb2 G7;obtain⟨r4,r6,r7,r8⟩:=id ZL
 repeat' (first|refine aE ?_|fail)
 refine WO.cn rfl ?_;refine(E.Rq (n:=(m:Int)) hm rfl ((he.same wR).up (show nx<=DF by omega))).of ?_;rintro _ H7 j9 ⟨pb,pc,c,rfl,XF,GY,G0,kI,AP,k7,Dz⟩;have ZN:=ZL.same k7 V;have Gy:=wR.trans k7 V;have t7:=(k7 bW V).trans t6;have R6:=(Jm.same k7).up Dz;obtain⟨x,hx⟩:=p9 AP.len hv;obtain⟨y,hy⟩:=p9 AP.len hw;have oT:x=y:=by
  have:=AP.DB hv hw (ka.reach h0 kb);rw[hx,hy]at this;exact jk this
 subst oT;have DQ:=aB.cell hx;have hcy:=aB.cell hy;have Wk:ah H7 (at_ pb)=some (.cells (c.map (.int .i64))):=kI;have Wu:∀d,bk (.slice a4 (es++[((v:Int),(w:Int))]).length c4)=some d->d≠j9:=λd hd=>Nat.ne_of_lt (nM R6 hd)
 have hb7:nx+1+1+1+1<=bW/\bW<j9:=V;obtain⟨ait,aiu⟩:=hb7;clear r4 r6 r7 r8 ZL wR t6 Jm k7 Dz Wn MP KH j8 oO GY eb1;obtain⟨r4,r6,r7,r8⟩:=id ZN
 repeat' (first|refine aE ?_|(refine bJ ?_ ?_<;>intro h<;>(try simp only[aL]at h))|fail)
 ·exact absurd rfl (by assumption)
 rotate_left
 ·exact absurd trivial (by assumption)
 have DH:aq H7 (aC H7 j9 (bj [.slice none 0 0] m)) j9:=aq.refl.set (au _);clear hx hy DQ hcy Wk kI AP XF G0;refine WC.sub (σ':=_) aX (adm (m:=m) (nb:=nx) (b:=j9) (c:=2*m+1) (gb:=[.slice base es.length ec]) (v6:=.pointer (some ⟨nx+1,0,none⟩)) (v7:=.pointer (some ⟨nx+1+1,0,none⟩)) (v8:=.pointer (some ⟨nx+1+1+1,0,none⟩)) (v14:=.pointer (some ⟨bW,0,none⟩)) (v17:=.int .i64 (es.length:Int)) (v4:=.pointer (some ⟨nx,0,none⟩)) hr oY (Gy.trans DH V) V (K7 _) ⟨nx,rfl,V,Rd.own ((DH nx V).trans r4)⟩ (rh.start aj) V (by rw[bU];exact au _) (λσ H8 us hσ hf8 ho8=>?_));refine kW (lO (WC.sub hσ ?_));have DA:aq H7 H8 j9:=λd hd=>(hf8 d V).trans (DH d hd)
 have bx8:=ZN.same DA V;have Jh:=Gy.trans DA V;have t8:=(DA bW V).trans t7;have adp:=(R6.same DA).up (show j9<=j9+1 by omega);clear r4 r6 r7 r8 DH hf8 DA ZN Gy t7 R6 hσ;obtain⟨r4,r6,r7,r8⟩:=id bx8;obtain⟨uv,guv,pY,si⟩:=ho8.at (v:=v) V;obtain⟨ua,uc,rfl⟩:=pY.form;have qo:=ho8.len;have uj:=ho8.cells
 repeat' (first|refine aE ?_|fail)
 refine WO.k rfl ?_;refine bG.of (Act.XC E.q57 rfl rfl) ?_;rw[im (λe=>cG (by
  have:=congrArg Prod.fst e;simp only at this;omega))]
 repeat' (first|refine aE ?_|fail)
 have aaa:aq H8 (aC H8 (j9+1) [.int .i64 ((2*es.length:Nat):Int)]) (j9+1):=aq.refl.set (au _);have HO:=zM E (x:=(a:Int)) (a:=((2*es.length:Nat):Int)) ((pY.same aaa).up (show j9+1<=j9+1+1 by omega)) V hnv ka.mem (.pre (xs:=[((2*es.length:Nat):Int)]) (b:=j9+1) (c:=2*1+1) (rest:=[]) (.inl aj) V (by show 1<=1;omega) (λ_=>rfl));refine WO.ca rfl ?_;refine HO.of ?_;rintro v9 H9 uq ⟨Gp,hn9,g9⟩;have GL:aq H8 H9 (j9+1):=aaa.trans Gp V;have bx9:=bx8.same GL V;have U3:=Jh.trans GL V;have t9:=(GL bW V).trans t8;have adq:=(adp.same GL).up (show j9+1<=uq by omega);have aab:=(GL j9 V).trans uj;obtain⟨va,vc,rfl⟩:=g9.form;clear HO r4 r6 r7 r8 aaa Gp;obtain⟨r4,r6,r7,r8⟩:=id bx9;have q6:=Rd.own r6;refine⟨bB.look rfl q6 rfl rfl (by simp[mc,ff]) .nil,?_⟩
 repeat' (first|refine aE ?_|fail)
 have RZ:(ji r v (a:Int) ((2*es.length:Nat):Int)).getD w []=r.getD w []:=by rw[gV V,aw (λe=>cG e.symm)]
 have qk:=dn r v (a:Int) ((2*es.length:Nat):Int);have ho9:rh (aC H9 j9 (us.set (0+v*1) (.slice va (putAt (r.getD v []) (a:Int) ((2*es.length:Nat):Int)).length vc))) uq j9 (us.set v (.slice va (putAt (r.getD v []) (a:Int) ((2*es.length:Nat):Int)).length vc)) (ji r v (a:Int) ((2*es.length:Nat):Int)):=by
  rw[show 0+v*1=v by omega];refine ho8.put V (λd hd Jd=>by rw[ak,aw Jd];exact GL d hd) V ?_ (λe=>by have:=(g9.blk e).1;omega) aj;exact g9.sle.blk (λd hd _=>by rw[ak,aw (by have:=(g9.blk hd).1;omega)]) (au _)
 have Vf:aq H8 (aC H9 j9 (us.set (0+v*1) (.slice va (putAt (r.getD v []) (a:Int) ((2*es.length:Nat):Int)).length vc))) j9:=(GL.low V).set (au _);have aac:=bx8.same Vf V;have adr:=Jh.trans Vf V;have t9b:=(Vf bW V).trans t8;have ads:bL (aC H9 j9 (us.set (0+v*1) (.slice va (putAt (r.getD v []) (a:Int) ((2*es.length:Nat):Int)).length vc))) uq 2 aW (.slice a4 (es++[((v:Int),(w:Int))]).length c4) (es++[((v:Int),(w:Int))]):=adq.blk (λd hd _=>by rw[ak,aw (Wu d hd)]) (au _);generalize hH9:aC H9 j9 (us.set (0+v*1) (.slice va (putAt (r.getD v []) (a:Int) ((2*es.length:Nat):Int)).length vc))=H9b at *
 clear bx9 bx8 U3 Jh t9 t8 adq adp GL Vf aab uj ho8 pY guv g9 r4 r6 r7 r8 q6 si;obtain⟨r4,r6,r7,r8⟩:=id aac;obtain⟨uw,guw,huw,aiv⟩:=ho9.at (v:=w) V;rw[RZ]at huw;obtain⟨wa,wc,rfl⟩:=huw.form;have aab:=ho9.cells;have aiw:=ho9.len
 repeat' (first|refine aE ?_|fail)
 have aad:aq H9b (aC H9b uq [.int .i64 ((2*es.length+1:Nat):Int)]) uq:=aq.refl.set (au _);have HO:=zM E (x:=(b:Int)) (a:=((2*es.length+1:Nat):Int)) ((huw.same aad).up (show uq<=uq+1 by omega)) V hnw kb.mem (.pre (xs:=[((2*es.length+1:Nat):Int)]) (b:=uq) (c:=2*1+1) (rest:=[]) (.inl aj) V (by show 1<=1;omega) (λ_=>rfl));refine WO.ca rfl ?_;refine HO.of ?_;rintro v10 DS Na ⟨Gw,agx,g10⟩;have oQ:aq H9b DS uq:=aad.trans Gw V;have RY:=aac.same oQ V;have t10:=(oQ bW V).trans t9b;have ahJ:=(oQ j9 V).trans aab;obtain⟨xa,xc,rfl⟩:=g10.form;clear HO r4 r6 r7 r8 aad Gw;obtain⟨r4,r6,r7,r8⟩:=id RY;have q7:=Rd.own r7;refine⟨bB.look rfl q7 rfl rfl (by simp[mc,ff]) .nil,?_⟩
 repeat' (first|refine aE ?_|fail)
 have Sj:aq H9b (aC DS j9 ((us.set v (.slice va (putAt (r.getD v []) (a:Int) ((2*es.length:Nat):Int)).length vc)).set (0+w*1) (.slice xa (putAt (r.getD w []) (b:Int) ((2*es.length+1:Nat):Int)).length xc))) j9:=(oQ.low V).set (au _);have ag6:rh (aC DS j9 ((us.set v (.slice va (putAt (r.getD v []) (a:Int) ((2*es.length:Nat):Int)).length vc)).set (0+w*1) (.slice xa (putAt (r.getD w []) (b:Int) ((2*es.length+1:Nat):Int)).length xc))) Na j9 ((us.set v (.slice va (putAt (r.getD v []) (a:Int) ((2*es.length:Nat):Int)).length vc)).set w (.slice xa (putAt (r.getD w []) (b:Int) ((2*es.length+1:Nat):Int)).length xc)) (ji (ji r v (a:Int) ((2*es.length:Nat):Int)) w (b:Int) ((2*es.length+1:Nat):Int)):=by
  rw[show 0+w*1=w by omega];show rh _ _ _ _ ((ji r v (a:Int) ((2*es.length:Nat):Int)).set w (putAt ((ji r v (a:Int) ((2*es.length:Nat):Int)).getD w []) (b:Int) ((2*es.length+1:Nat):Int)));rw[RZ];refine ho9.put V (λd hd Jd=>by rw[ak,aw Jd];exact oQ d hd) V ?_ (λe=>by have:=(g10.blk e).1;omega) aj;exact g10.sle.blk (λd hd _=>by rw[ak,aw (by have:=(g10.blk hd).1;omega)]) (au _)
 have U6:=aac.same Sj V;have R3:=adr.trans Sj V;have t11:=(Sj bW V).trans t9b;have adt:=(ads.blk (λd hd cg=>by rw[ak,aw (Wu d hd)];exact oQ d cg) V:bL (aC DS j9 ((us.set v (.slice va (putAt (r.getD v []) (a:Int) ((2*es.length:Nat):Int)).length vc)).set (0+w*1) (.slice xa (putAt (r.getD w []) (b:Int) ((2*es.length+1:Nat):Int)).length xc))) Na 2 aW (.slice a4 (es++[((v:Int),(w:Int))]).length c4) (es++[((v:Int),(w:Int))]));have hpr:=tV (v:=v) (w:=w) (a:=(a:Int)) (b:=(b:Int)) h0 V V dx;have vh:=ag6.FW (c:=2*m+1) V (by rw[dn,qk,bU];omega);rw[dn,qk,oY]at vh;have oG:=p8 E vh (cC hpr);rw[dn,qk,oY]at oG;refine WO.ca rfl ?_;refine oG.of ?_;rintro _ H12 R4 ⟨p7,acU,b3,c3,G8,rfl,q8,DJ⟩;have t12:=(p7 bW V).trans t11;have ag7:=Rd.own t12;have ZQ:=U6.same p7 V;clear r4 r6 r7 r8 q7;obtain⟨r4,r6,r7,r8⟩:=id ZQ;refine⟨bB.look rfl ag7 rfl rfl ue .nil,?_⟩
 repeat' (first|refine aE ?_|fail)
 refine qK rfl aj rfl rfl rfl ⟨(R3.trans p7 V).set V,V,_,b3,c3,G8,by rw[oY];rfl,by rw[oY];exact q8,?_,(λd hd=>by have:=adn d hd;omega),(DJ.frame (λd h1 h2=>by rw[ak,aw V]) (au _)).low V⟩;exact((adt.same p7).up acU).blk (λd hd _=>by rw[ak,aw (by have:=adn d hd;omega)]) (au _)
end
section
variable {A:aN}{H H':Heap}{nx nx':Nat}{σ:aR}{L:List Value}{Q:cw}
theorem DL(E:eA A){n:Int}{e:Nat}{ev:Value}{es:List Ed}(hm:kK n es)(he:bL H nx 2 aW ev es)(oX:e<es.length)(hn:n<1024)(dx:es.length<3072) :
  WF A 77 [.agg #[.int .i64 n,ev],.int .i64 (e:Int)] H nx λx H' nx'=>aq H H' nx/\nx<=nx'/\∃oA,x=oneOf [.agg #[.int .i64 (n+1),oA],.int .i64 0]/\Aa H' nx nx' oA (dW n es e):=by
 obtain⟨base,ec,rfl⟩:=he.form;obtain⟨m0,m1,m2,_⟩:=id hm;have SB:=aM oX;generalize hpe:es[e]=pe at SB;obtain⟨a,y⟩:=pe;have m9:es.getD e (0,0)=(a,y):=by rw[aY,SB];rfl
 have AF:es.set e (a,n)++[(n,y)]=dW n es e:=by unfold dW;rw[m9]
 have Jo:=KU hm oX hn dx;have vh:=jx n es e;refine WF.enter (E.h rfl _ _ _) E.Kj ?_;have bF:aq H (aC (aC H nx [.int .i64 n,.slice base es.length ec]) (nx+1) [.int .i64 0,.slice none 0 0]) nx:=(aq.refl.set (au _)).set V
 repeat' (first|refine aE ?_|(refine bJ ?_ ?_<;>intro h<;>(try simp only[aL]at h))|fail)
 all_goals try (exfalso;omega)
 refine WO.cn rfl ?_;refine(zj E (n:=n) ((he.same bF).up (show nx<=nx+1+1 by omega)) V).of ?_;rintro _ H1 aQ ⟨bt,cH,ev1,rfl,sd⟩;have bu:=bF.trans bt V;have a4:ah H1 (at_ nx)=some (.cells [.int .i64 n,.slice base es.length ec]):=(bt nx V).trans (ay V aj);have a5:ah H1 (at_ (nx+1))=some (.cells [.int .i64 0,.slice none 0 0]):=(bt (nx+1) V).trans aj;obtain⟨aix,⟨_,e0⟩|⟨eb,rfl,dS,k9,bH⟩⟩:=sd
 ·omega
 obtain⟨jP,kH⟩:=Gz (rest:=[]) (x:=n) SB;rw[gN]at jP kH;rw[gN]at kH;obtain⟨gb,go,gcs,rfl,G6,_,_,ZT,Xj⟩:=he.at (by intro h;rw[h]at oX;simp at oX);obtain⟨_,q2⟩:=J2 (v:=.int .i64 a) (u:=.int .i64 y) (Xj e _ SB);have q2':gcs[go+e*2+1*1]?=some (.int .i64 y):=q2;have aiy:=bu.rd G6 ZT;have hlen:=iB es;have U8:(es.set e (a,n)).length=es.length:=by simp
 repeat' (first|refine aE ?_|fail)
 rw[kH];generalize zY:aC (aC (aC (aC H1 aQ _) aQ _) eb _) (aQ+1) _=H2;have NT:∀d,d<aQ->d≠eb->ah H2 (at_ d)=ah H1 (at_ d):=λd h1 h2=>by rw[<-zY,ay V (ay h2 (ay V (ay V rfl)))]
 have k1:ah H2 (at_ aQ)=some (.cells [.int .i64 n,.slice (some ⟨eb,0,some 2⟩) es.length (2*es.length)]):=by rw[<-zY];exact ay V (ay V aj)
 have k2:ah H2 (at_ eb)=some (.cells ((es.set e (a,n)).flatMap aW)):=by rw[<-zY];exact ay V aj
 have k3:ah H2 (at_ (aQ+1))=some (.cells [.int .i64 n,.int .i64 y]):=by rw[<-zY];exact aj
 clear zY;have MH:bP H2 (nx+1+1) (aQ+1+1) 2 (.slice (some ⟨eb,0,some 2⟩) es.length (2*es.length)) (es.set e (a,n)).length ((es.set e (a,n)).flatMap aW):=⟨iB _,.inr ⟨eb,by rw[U8],V,V,k2⟩⟩;refine WO.n rfl ?_;refine bP.Wt (l:=es.set e (a,n)) (m:=[(n,y)]) rfl rfl MH (nH (Rd.own k3)) V V (by rw[U8];show es.length+1<=_;omega) ?_;intro v3 H3 bW j8 MM SK;rw[AF]at MM;have B2:∀d,d<aQ+1+1->d≠eb->ah H3 (at_ d)=ah H2 (at_ d):=λd h1 h2=>SK d h1 (λe=>h2 (by cases e;rfl))
 have s13:∀d,d<aQ->d≠eb->ah H3 (at_ d)=ah H1 (at_ d):=λd h1 h2=>(B2 d V h2).trans (NT d h1 h2)
 have p3:=(B2 aQ V V).trans k1;have b5:=(s13 (nx+1) V V).trans a5;have dZ:aq H H3 nx:=λd hd=>(s13 d V V).trans (bu d hd)
 obtain⟨_,⟨_,e0⟩|⟨fb,rfl,g1,g2,g3⟩⟩:=MM
 ·omega
 have hfn:fb≠aQ:=λe=>by
  rw[e,p3]at g3;exact Si _ (jb.cells.inj (jk g3))
 repeat' (first|refine aE ?_|fail)
 generalize re:aC (aC H3 aQ _) aQ _=H4;have sH:∀d,d≠aQ->ah H4 (at_ d)=ah H3 (at_ d):=λd h1=>by rw[<-re,ay h1 (ay h1 rfl)]
 have p4:ah H4 (at_ aQ)=some (.cells [.int .i64 (n+1),.slice (some ⟨fb,0,some 2⟩) (dW n es e).length (2*(dW n es e).length)]):=by rw[<-re];exact aj
 clear re;have GK:Aa H4 (nx+1+1) bW (.slice (some ⟨fb,0,some 2⟩) (dW n es e).length (2*(dW n es e).length)) (dW n es e):=⟨fb,_,rfl,by rw[bT];exact au _,g1,g2,(sH fb hfn).trans g3⟩;have b54:=(sH (nx+1) V).trans b5;have eW:aq H H4 nx:=λd hd=>(sH d V).trans (dZ d hd)
 skip
 refine WO.cn rfl ?_;refine(tK E.QE (E.h rfl) (n:=n+1) GK.sle).of ?_;rintro _ H5 fy ⟨rfl,jD,wj⟩;rw[fB Jo];have p5:=(jD aQ V).trans p4;have b55:=(jD (nx+1) V).trans b54;have AT:=GK.frame (H':=H5) (nx':=fy) (λd _ h2=>jD d h2) wj
 repeat' (first|refine aE ?_|fail)
 refine B1 rfl aj rfl rfl ⟨(eW.trans jD V).set V,V,_,rfl,(AT.frame (λd h1 h2=>ay V rfl) (au _)).low V⟩
end
section
variable {A:aN}{H H':Heap}{nx nx':Nat}{σ:aR}{L:List Value}{Q:cw}
def nN(m e:Nat)(r:List (List Int))(v k:Nat):List (List Int):=(List.range (r.length+1)).map λi=>if i<v then(r.getD i []).map (mZ e m)else if i=v then((r.getD i []).take k).map (mZ e m)else[]
theorem gL(m e:Nat)(r:List (List Int))(v k:Nat):(nN m e r v k).length=r.length+1:=by unfold nN;simp
theorem lX{m e:Nat}{r:List (List Int)}{v k i:Nat}(hi:i<r.length+1):(nN m e r v k)[i]?=some (if i<v then(r.getD i []).map (mZ e m)else if i=v then((r.getD i []).take k).map (mZ e m)else[]):=by
 unfold nN;rw[eD,wz hi];rfl
theorem K3{m e:Nat}{r:List (List Int)}{v k:Nat}(hv:v<r.length):(nN m e r v k).getD v []=((r.getD v []).take k).map (mZ e m):=by
 rw[aY,lX V,aw V,aJ rfl];rfl
theorem Ng(m e:Nat)(r:List (List Int)):nN m e r 0 0=List.replicate (r.length+1) []:=by
 apply mb;intro i;rw[mN];by_cases hi:i<r.length+1
 ·rw[lX hi,aw V,aJ hi];split<;>simp
 ·rw[aw hi,gx (by rw[gL];omega)]
theorem Nh{m e:Nat}{r:List (List Int)}{v k:Nat}{x:Int}(hv:v<r.length)(hx:(r.getD v [])[k]?=some x):(nN m e r v k).set v ((nN m e r v k).getD v []++[mZ e m x])=nN m e r v (k+1):=by
 rw[K3 hv];apply mb;intro i;rw[fZ,gL];by_cases hi:i<r.length+1
 ·rw[lX hi,lX hi];by_cases c:v=i
  ·subst c;rw[aJ rfl,aJ hi,aw V,aJ rfl,List.take_add_one,hx,jG];rfl
  ·rw[aw c];by_cases c2:i<v
   ·rw[aJ c2,aJ c2]
   ·rw[aw c2,aw c2,aw (λh=>c h.symm),aw (λh=>c h.symm)]
 ·rw[gx (by rw[gL];omega),gx (by rw[gL];omega)];split<;>(try rfl)
  rw[aw V]
theorem Sl{m e:Nat}{r:List (List Int)}{v:Nat}:nN m e r v (r.getD v []).length=nN m e r (v+1) 0:=by
 apply mb;intro i;by_cases hi:i<r.length+1
 ·rw[lX hi,lX hi]
  congr 1
  by_cases c:i<v
  ·rw[aJ c,aJ V]
  ·rw[aw c];by_cases c2:i=v
   ·subst c2;rw[aJ rfl,aJ V,iJ]
   ·rw[aw c2,aw V];split<;>simp
 ·rw[gx (by rw[gL];omega),gx (by rw[gL];omega)]
theorem Sm(m e:Nat)(r:List (List Int)):(nN m e r r.length 0).set r.length [((2*e+1:Nat):Int),((2*m:Nat):Int)]=lU m e r:=by
 unfold lU;apply mb;intro i;rw[fZ,gL];by_cases c:r.length=i
 ·subst c;rw[aJ rfl,aJ V,aiQ (by simp)];simp
 ·rw[aw c];by_cases hi:i<r.length
  ·rw[lX V,aJ hi,eC (by simpa using hi),eD,aY,aM hi];rfl
  ·rw[gx (by rw[gL];omega),gx (by simp;omega)]
theorem GM(E:eA A){n:Int}{m e:Nat}{ev rv:Value}{es:List Ed}{r:List (List Int)}(h0:aH n es r=0)(iL:n=(m:Int))(he:bL H nx 2 aW ev es)(hr:er H nx 1 aZ rv r)(oX:e<es.length)(hn:n<1024)(dx:es.length<3072) :
  WF A 45 [.agg #[.int .i64 n,ev],rv,.int .i64 (e:Int)] H nx λx H' nx'=>aq H H' nx/\nx<=nx'/\∃oA b c us,x=oneOf [.agg #[.int .i64 (n+1),oA],.slice (some ⟨b,0,some 1⟩) (r.length+1) c,.int .i64 0]/\r.length+1<=aF c/\Aa H' nx nx' oA (dW n es e)/\dK H' nx nx' b us (kC es.length e r):=by
 obtain⟨base,ec,rfl⟩:=he.form;obtain⟨rb,rc,rfl⟩:=hr.form;have cD:=cC h0;obtain⟨hm,hl,_⟩:=bR h0;obtain⟨m0,m1,m2,_⟩:=id hm;have oY:=cD.1;have U9:=tW h0 oX hn dx;subst iL;refine WF.enter (E.h rfl _ _ _) E.Ki ?_;have bF:aq H (aC (aC H nx [.int .i64 (m:Int),.slice base es.length ec]) (nx+1) [.int .i64 0,.slice none 0 0]) nx:=(aq.refl.set (au _)).set V
 repeat' (first|refine aE ?_|fail)
 refine WO.cn rfl ?_;refine(DL E hm ((he.same bF).up (show nx<=nx+1+1 by omega)) oX hn dx).of ?_;rintro _ H1 aQ ⟨bt,cH,ev1,rfl,adu⟩;have bu:=bF.trans bt V;have a4:ah H1 (at_ nx)=some (.cells [.int .i64 (m:Int),.slice base es.length ec]):=(bt nx V).trans (ay V aj);have a5:ah H1 (at_ (nx+1))=some (.cells [.int .i64 0,.slice none 0 0]):=(bt (nx+1) V).trans aj;obtain⟨eb,ec1,rfl,U2,ZO,RX,DG⟩:=id adu;have ag8:(m:Int)+1=((m+1:Nat):Int):=V
 repeat' (first|refine aE ?_|(refine bJ ?_ ?_<;>intro h<;>(try simp only[aL]at h))|fail)
 all_goals try (exfalso;omega)
 generalize zY:aC (aC (aC H1 aQ _) aQ _) (aQ+1) _=H2;have NT:aq H1 H2 aQ:=by rw[<-zY];exact((aq.refl.set (au _)).set (au _)).set V
 have k1:ah H2 (at_ aQ)=some (.cells [.int .i64 ((m:Int)+1),.slice (some ⟨eb,0,some 2⟩) (dW (m:Int) es e).length ec1]):=by rw[<-zY];exact ay V aj
 have k2:ah H2 (at_ (aQ+1))=some (.cells (bj [.slice none 0 0] (m+1))):=by rw[<-zY];exact aj
 clear zY;have bV:=bu.trans NT V;have a42:=(NT nx V).trans a4;have a52:=(NT (nx+1) V).trans a5;have JU:r.length=m:=V;have hG0:GS H2 (aQ+1+1) (aQ+1+1) (aQ+1) (nN es.length e r 0 0):=by
  rw[Ng,JU];exact GS.zero k2
 refine WC.loop (α:=Nat) (λv=>[(S1,.slice rb r.length rc),(S2,.int .i64 (e:Int)),(S3,.pointer (some ⟨nx,0,none⟩)),(S6,.pointer (some ⟨nx+1,0,none⟩)),(S9,.pointer (some ⟨aQ,0,none⟩)),(eN,.int .i64 (es.length:Int)),(jg,.slice (some ⟨aQ+1,0,some 1⟩) (m+1) (2*(m+1)+1)),(ik,.int .i64 ((v:Nat):Int))])
  (λv H' nx'=>v<=m/\aQ+1+1<=nx'/\aq H2 H' (aQ+1)/\GS H' (aQ+1+1) nx' (aQ+1) (nN es.length e r v 0)) (λv=>m-v)
  ?_ 0 aX ⟨bS _,au _,.refl,hG0⟩
 rintro v H3 bW ⟨hv,j8,B2,hG⟩;have a43:=(B2 nx V).trans a42;have dZ:aq H H3 nx:=bV.trans B2 V
 repeat' (first|refine aE ?_|(refine bJ ?_ ?_<;>intro h<;>(try simp only[aL]at h))|fail)
 ·have y7:v<m:=V;have Mx:v<r.length:=V;have kE:r.getD v []=r[v]:=by rw[aY,aM Mx];rfl
  have wP:=jw h0 v;obtain⟨bb,bo,tN,ib,ic,rfl,iy,jz,bH,hi⟩:=hr.at Mx;rw[<-kE]at bH hi;refine WC.loop (α:=Nat) (λk=>[(S1,.slice (some ⟨bb,bo,some 1⟩) r.length rc),(S2,.int .i64 (e:Int)),(S3,.pointer (some ⟨nx,0,none⟩)),(S6,.pointer (some ⟨nx+1,0,none⟩)),(S9,.pointer (some ⟨aQ,0,none⟩)),(eN,.int .i64 (es.length:Int)),(jg,.slice (some ⟨aQ+1,0,some 1⟩) (m+1) (2*(m+1)+1)),(ik,.int .i64 ((v:Nat):Int)),(iV,.int .i64 ((k:Nat):Int))])
   (λk H' nx'=>k<=(r.getD v []).length/\aQ+1+1<=nx'/\aq H2 H' (aQ+1)/\GS H' (aQ+1+1) nx' (aQ+1) (nN es.length e r v k)) (λk=>(r.getD v []).length-k)
   ?_ 0 aX ⟨bS _,j8,B2,hG⟩
  clear dZ a43 hG B2 j8;rintro k H3 bW ⟨hk,j8,B2,hG⟩;have dZ:aq H H3 nx:=bV.trans B2 V;have Q4:=dZ.rd iy jz
  repeat' (first|refine aE ?_|(refine bJ ?_ ?_<;>intro h<;>(try simp only[aL]at h))|fail)
  ·have bQ:k<(r.getD v []).length:=V;obtain⟨lb,lo,lcs,rfl,tY,_,_,sr,jC⟩:=hi.at (λe=>by rw[e]at bQ;simp at bQ);have kF:=aM bQ;obtain⟨x,ex,V6,_⟩:=dw h0 Mx (dM kF);rw[ex]at kF;have q1:=cX (v:=.int .i64 (x:Int)) (jC k _ kF);have agz:=dZ.rd tY sr;have zG:=Nh (m:=es.length) (e:=e) Mx kF;have qk:=gL es.length e r v k;obtain⟨us,w,iF,sB,pY,mI⟩:=hG.row (v:=v) (by rw[qk];omega);rw[qk]at iF;obtain⟨ub,uc,hw⟩:=jX mI;have Q5:Rd H3 (aQ+1) us:=.inl sB;have ahK:((nN es.length e r v k).getD v []).length<=6144:=by rw[K3 Mx,ja,iZ];omega
   have ny:∀y:Int,y=mZ e es.length (x:Int)->∀H4:Heap,ah H4 (at_ bW)=some (.cells [.int .i64 y])->True:=λ_ _ _ _=>trivial
   clear ny;by_cases hx:x=2*e+1
   ·have vJ:mZ e es.length (x:Int)=((2*es.length+1:Nat):Int):=by unfold mZ;rw[aJ V]
    rw[vJ]at zG
    repeat' (first|refine aE ?_|(refine bJ ?_ ?_<;>intro h<;>(try simp only[aL]at h))|fail)
    all_goals try (exfalso;omega)
    have IK:bP (aC H3 bW [.int .i64 (((2*es.length+1:Nat):Int))]) (aQ+1+1) (bW+1) 1 w ((nN es.length e r v k).getD v []).length (((nN es.length e r v k).getD v []).map (.int .i64)):=mI.vX (λb _ hb=>by rw[ak,aw V]) (cE _);refine WO.n rfl ?_;refine bG.tz rfl rfl IK (dL Rd.self rfl) V V rfl (by unfold small;omega) (by unfold small;omega) ?_;intro H4 k1' Uz;have CI:∀b,b<bW->bk w≠some b->ah H4 (at_ b)=ah H3 (at_ b):=by
     intro b hb cG;rw[Uz b V (λc z k e=>cG (by
      obtain⟨_,⟨rfl,_⟩|⟨d,rfl,_⟩⟩:=mI
      ·cases e
      ·cases e;rfl)),ak,aw V]
    have ma:=(hG.frame (H':=aC H3 bW [.int .i64 (((2*es.length+1:Nat):Int))]) (nx':=bW+1) (by rw[ak,aw V]) (λb _ hb=>by rw[ak,aw V]) (cE _)).push (x:=((2*es.length+1:Nat):Int)) (H1:=H4) (by rw[qk];omega) (by rw[ak,aw V];exact sB) pY V V k1'
     (λb h1 h2 cG=>Uz b h2 (λc z k e=>cG (by
      obtain⟨_,⟨rfl,_⟩|⟨d,rfl,_⟩⟩:=mI
      ·cases e
      ·cases e;rfl)))
    rw[zG]at ma;have fE:∀b,b<=aQ+1->ah H4 (at_ b)=ah H3 (at_ b):=λb hb=>CI b V (λe=>by have:=(nE mI e).1;omega)
    have YS:ah H4 (at_ (aQ+1))=some (.cells us):=(fE _ (au _)).trans sB;have Q6:us.length=m+1:=V
    repeat' (first|refine aE ?_|fail)
    refine⟨k+1,V,aX,V,V,λb hb=>?_,?_⟩
    ·rw[ak,aw V,fE b V];exact B2 b hb
    ·have e0:0+v*1=v:=V
     first|exact ma|(rw[e0];exact ma)
   ·have vJ:mZ e es.length (x:Int)=(x:Int):=by unfold mZ;rw[aw V]
    rw[vJ]at zG
    repeat' (first|refine aE ?_|(refine bJ ?_ ?_<;>intro h<;>(try simp only[aL]at h))|fail)
    all_goals try (exfalso;omega)
    have IK:bP (aC H3 bW [.int .i64 (((x:Nat):Int))]) (aQ+1+1) (bW+1) 1 w ((nN es.length e r v k).getD v []).length (((nN es.length e r v k).getD v []).map (.int .i64)):=mI.vX (λb _ hb=>by rw[ak,aw V]) (cE _);refine WO.n rfl ?_;refine bG.tz rfl rfl IK (dL Rd.self rfl) V V rfl (by unfold small;omega) (by unfold small;omega) ?_;intro H4 k1' Uz;have CI:∀b,b<bW->bk w≠some b->ah H4 (at_ b)=ah H3 (at_ b):=by
     intro b hb cG;rw[Uz b V (λc z k e=>cG (by
      obtain⟨_,⟨rfl,_⟩|⟨d,rfl,_⟩⟩:=mI
      ·cases e
      ·cases e;rfl)),ak,aw V]
    have ma:=(hG.frame (H':=aC H3 bW [.int .i64 (((x:Nat):Int))]) (nx':=bW+1) (by rw[ak,aw V]) (λb _ hb=>by rw[ak,aw V]) (cE _)).push (x:=((x:Nat):Int)) (H1:=H4) (by rw[qk];omega) (by rw[ak,aw V];exact sB) pY V V k1'
     (λb h1 h2 cG=>Uz b h2 (λc z k e=>cG (by
      obtain⟨_,⟨rfl,_⟩|⟨d,rfl,_⟩⟩:=mI
      ·cases e
      ·cases e;rfl)))
    rw[zG]at ma;have fE:∀b,b<=aQ+1->ah H4 (at_ b)=ah H3 (at_ b):=λb hb=>CI b V (λe=>by have:=(nE mI e).1;omega)
    have YS:ah H4 (at_ (aQ+1))=some (.cells us):=(fE _ (au _)).trans sB;have Q6:us.length=m+1:=V
    repeat' (first|refine aE ?_|fail)
    refine⟨k+1,V,aX,V,V,λb hb=>?_,?_⟩
    ·rw[ak,aw V,fE b V];exact B2 b hb
    ·have e0:0+v*1=v:=V
     first|exact ma|(rw[e0];exact ma)
  ·have bQ:k=(r.getD v []).length:=V;subst bQ;rw[Sl]at hG
   skip
   exact⟨v+1,V,aX,V,V,B2,hG⟩
 ·have y7:v=m:=V;subst y7;obtain⟨us,w,iF,sB,pY,mI⟩:=hG.row (v:=v) (by rw[gL];omega);have qk:=gL es.length e r v 0;have Q6:us.length=v+1:=V
  repeat' (first|refine aE ?_|fail)
  generalize re:aC (aC H3 bW _) (aQ+1) _=H4;have sH:∀d,d<bW->d≠aQ+1->ah H4 (at_ d)=ah H3 (at_ d):=λd h1 h2=>by rw[<-re,ay h2 (ay V rfl)]
  have k3:ah H4 (at_ bW)=some (.cells (mi [((2*e+1:Nat):Int),((2*es.length:Nat):Int)])):=by rw[<-re];exact ay V aj
  have k4:ah H4 (at_ (aQ+1))=some (.cells (us.set (0+v*1) (.slice (some ⟨bW,0,some 1⟩) 2 (2*2+1)))):=by rw[<-re];exact aj
  clear re;rw[show 0+v*1=v by omega]at k4;have eW:aq H H4 nx:=λd hd=>(sH d V V).trans (dZ d hd)
  have vh:er H4 (bW+1) 1 aZ (.slice (some ⟨aQ+1,0,some 1⟩) (v+1) (2*(v+1)+1)) (lU es.length e r):=by
   have GO:=Sm es.length e r;rw[JU]at GO;refine⟨us.set v (.slice (some ⟨bW,0,some 1⟩) 2 (2*2+1)),by rw[iq,j5];omega,?_,λi u l hu hl=>?_⟩
   ·have:=bL.pre (H:=H4) (nx:=bW+1) (z:=1) (enc:=Ft) (xs:=us.set v (.slice (some ⟨bW,0,some 1⟩) 2 (2*2+1))) (b:=aQ+1) (c:=2*(v+1)+1) (rest:=[]) (.inl (by rw[ln,gN];exact k4)) V (by rw[bU,iq];omega) (λ_=>rfl);rw[iq,Q6]at this;exact this
   ·rw[<-GO,fZ]at hl;rw[fZ]at hu;by_cases c:v=i
    ·subst c;rw[aJ rfl,aJ V]at hu;rw[aJ rfl,aJ V]at hl;cases hu;cases hl;exact .pre (xs:=[((2*e+1:Nat):Int),((2*es.length:Nat):Int)]) (b:=bW) (c:=2*2+1) (rest:=[]) (.inl (by rw[gN,fj];exact k3)) V (by show 2<=5 / 2;decide) (λ_=>rfl)
    ·rw[aw c]at hu hl;obtain⟨us',h1,h2,h3,_⟩:=hG;rw[sB]at h2;cases h2;have ZT:=(h3 i u l hu hl).vX (H':=H4) (nx':=bW+1) (λb h4 h5=>sH b h5 V) (cE _);exact bP.sle (enc:=aZ) (by rw[fj];exact ZT) (λ_=>rfl)
  have p4:=(sH aQ V V).trans ((B2 aQ V).trans k1);have b4:=(sH (nx+1) V V).trans ((B2 (nx+1) V).trans a52);have GK:=adu.frame (H':=H4) (nx':=bW+1) (λd h1 h2=>(sH d V V).trans ((B2 d V).trans (NT d h2))) V;have oG:=p8 E vh (cC U9);rw[j5,JU]at oG
  repeat' (first|refine aE ?_|fail)
  refine WO.ca rfl ?_;refine oG.of ?_;rintro _ H5 fy ⟨jD,wj,b5,c5,us5,rfl,UX,hu5⟩;have p5:=(jD aQ V).trans p4;have b5':=(jD (nx+1) V).trans b4;have AT:=GK.frame (H':=H5) (nx':=fy) (λd h1 h2=>jD d h2) wj;refine⟨bB.look rfl (Rd.own p5) rfl rfl ue .nil,?_⟩
  repeat' (first|refine aE ?_|fail)
  refine qK rfl aj rfl rfl rfl ⟨(eW.trans jD V).set V,V,_,b5,c5,us5,by rw[JU];rfl,by rw[JU];exact UX,(AT.frame (λd h1 h2=>ay V rfl) (au _)).low V,(hu5.frame (λd h1 h2=>ay V rfl) (au _)).low V⟩
end
section
variable {A:aN}{H H':Heap}{nx nx':Nat}{σ:aR}{L:List Value}{Q:cw}
def Wv(H:Heap)(lo nx:Nat)(ev:Value)(es:List Ed):Prop:=bL H nx 2 aW ev es/\∀d,bk ev=some d->lo<=d
theorem Aa.evf{lo:Nat}{ev:Value}{es:List Ed}(h:Aa H lo nx ev es):Wv H lo nx ev es:=by
 refine⟨h.sle,λd hd=>?_⟩;obtain⟨b,c,rfl,_,h2,_⟩:=h;cases hd;exact h2
theorem Wv.frame{lo:Nat}{ev:Value}{es:List Ed}(h:Wv H lo nx ev es)(hs:∀d,lo<=d->d<nx->ah H' (at_ d)=ah H (at_ d))(hn:nx<=nx'):Wv H' lo nx' ev es:=
 ⟨h.1.blk (λd hd hl=>hs d (h.2 d hd) hl) hn,h.2⟩
def wu(H:Heap)(nxa pb nx:Nat)(wv ev tv:Value)(s:xx):Prop:=
 (bL H nxa 2 aW ev s.1/\er H nxa 1 aZ tv s.2)\/∃lo b c us,pb<lo/\lo<=nx/\(∀d,bk wv=some d->d<lo)/\Wv H lo nx ev s.1/\tv=.slice (some ⟨b,0,some 1⟩) s.2.length c/\s.2.length<=aF c/\dK H lo nx b us s.2
theorem wu.at{nxa pb:Nat}{wv ev tv:Value}{s:xx}(h:wu H nxa pb nx wv ev tv s)(ha:nxa<=pb)(hp:pb<nx)(hf:∀d,d<nx->d≠pb->bk wv≠some d->ah H' (at_ d)=ah H (at_ d))(hw:∀d,bk wv=some d->pb<d)(hn:nx<=nx'):bL H' nx' 2 aW ev s.1/\er H' nx' 1 aZ tv s.2:=by
 rcases h with⟨h1,h2⟩|⟨lo,b,c,us,h1,h2,h3,h4,rfl,h5,h6⟩
 ·have hs:aq H H' nxa:=λd hd=>hf d V V (λe=>by have:=hw d e;omega)
  exact⟨(h1.same hs).up V,(h2.same hs).up V⟩
 ·have hs:∀d,lo<=d->d<nx->ah H' (at_ d)=ah H (at_ d):=λd h7 h8=>hf d h8 V (λe=>by have:=h3 d e;omega)
  exact⟨(h4.frame hs hn).1,(h6.frame hs hn).FW h5⟩
theorem Vg(E:eA A){n u v qb gb pb nxa:Nat}{gcs:List Value}{sv rtv NR Ji:Value}{es:List Ed}{r:List (List Int)}{l:List Nat}{H0:Heap}(h0:aH (n:Int) es r=0)(hl:∀j,j<l.length->l.getD j 0<2*es.length)(hn:n+l.length<=1024)(hm:es.length+l.length<=3072)(ha:nxa<=pb)(Jj:bL H0 pb 1 aZ rtv (aT (l.map (· / 2))))(hS0:aq H0 H pb)(NK:pb<nx)(XF:ah H (at_ pb)=some (.cells [.int .i64 (n:Int),NR]))(hH:wu H nxa pb nx (.slice none 0 0) NR Ji (dH n es r l 0))(bq:∀σ H' nx' ev tv,bD [(S2,.int .i64 (u:Int)),(S3,.int .i64 (v:Int)),(S8,.pointer (some ⟨qb,0,none⟩)),(iV,.int .i64 (n:Int)),(kD,.int .i64 ((l.length:Nat):Int)),(jA,sv),(mg,.pointer (some ⟨pb,0,none⟩)),(ky,tv)] σ->aq H0 H' pb->pb<nx'->ah H' (at_ pb)=some (.cells [.int .i64 ((n+l.length:Nat):Int),ev])->wu H' nxa pb nx' (.slice none 0 0) ev tv (dH n es r l l.length)->nx<=nx'->Q (.exit 2) σ H' nx') :
  WC A (.loop u5) [(S2,.int .i64 (u:Int)),(S3,.int .i64 (v:Int)),(S8,.pointer (some ⟨qb,0,none⟩)),(jg,rtv),(iV,.int .i64 (n:Int)),(kD,.int .i64 ((l.length:Nat):Int)),(jA,sv),(mg,.pointer (some ⟨pb,0,none⟩)),(ky,Ji),(qZ,.int .i64 0)] H nx Q:=by
 have gg:=bK (l.map (· / 2));rw[ja]at gg;obtain⟨ra,rc,rfl⟩:=Jj.form;rw[gg];refine WC.loop (α:=Nat×Value×Value) (λs=>[(S2,.int .i64 (u:Int)),(S3,.int .i64 (v:Int)),(S8,.pointer (some ⟨qb,0,none⟩)),(jg,.slice ra l.length rc),(iV,.int .i64 (n:Int)),(kD,.int .i64 ((l.length:Nat):Int)),(jA,sv),(mg,.pointer (some ⟨pb,0,none⟩)),(ky,s.2.1),(qZ,.int .i64 ((s.1:Nat):Int))])
  (λs H' nx'=>s.1<=l.length/\nx<=nx'/\aq H0 H' pb/\ah H' (at_ pb)=some (.cells [.int .i64 ((n+s.1:Nat):Int),s.2.2])/\wu H' nxa pb nx' (.slice none 0 0) s.2.2 s.2.1 (dH n es r l s.1)) (λs=>l.length-s.1)
  ?_ (0,Ji,NR) aX ⟨bS _,au _,hS0,XF,hH⟩
 rintro⟨i,tv,ev⟩ H1 aQ ⟨hi,cH,w1,w2,w4⟩;simp only at hi w2 w4 ⊢;unfold u5
 repeat' (first|refine aE ?_|(refine bJ ?_ ?_<;>intro h<;>(try simp only[aL]at h))|fail)
 ·have jT:i<l.length:=V;obtain⟨lb,lo,lcs,rfl,tY,_,_,sr,jC⟩:=Jj.at (by intro e;rw[e]at gg;simp at gg;omega);have gY:(aT (l.map (· / 2)))[i]?=some (((l.getD i 0 / 2:Nat):Nat):Int):=by
   unfold aT;rw[eD,eD,aY,aM jT];rfl
  have q1:=cX (v:=.int .i64 ((l.getD i 0 / 2:Nat):Int)) (jC i _ gY);have ZW:=w1.rd tY sr;have hli:=hl i jT;have w2R:=Rd.own w2;obtain⟨CC,um⟩:=w4.at ha V (H':=H1) (nx':=aQ) (λ_ _ _ _=>rfl) (λd hd=>by cases hd) (au _);have S:=Dx h0 hl hn hm i hi;obtain⟨e1,e2⟩:=jy n es r l i;have Xa:=GM E (m:=n+i) (e:=l.getD i 0 / 2) S.zi rfl CC um V V V;have oK:dH n es r l (i+1)=(dW ((n+i:Nat):Int) (dH n es r l i).1 (l.getD i 0 / 2),kC (dH n es r l i).1.length (l.getD i 0 / 2) (dH n es r l i).2):=rfl;have NL:(kC (dH n es r l i).1.length (l.getD i 0 / 2) (dH n es r l i).2).length=(dH n es r l i).2.length+1:=nJ _ _ _;generalize hsE:dW ((n+i:Nat):Int) (dH n es r l i).1 (l.getD i 0 / 2)=sE at *
  generalize hsR:kC (dH n es r l i).1.length (l.getD i 0 / 2) (dH n es r l i).2=sR at *
  obtain⟨ea,ec,rfl⟩:=CC.form;obtain⟨ta,tc,rfl⟩:=um.form
  repeat' (first|refine aE ?_|fail)
  refine WO.cn rfl ?_;refine Xa.of ?_;rintro _ H3 bW ⟨de,j8,ev3,b3,c3,G8,rfl,q8,GF,DJ⟩;have Va:=(de pb V).trans w2;obtain⟨e3b,e3c,rfl,h3c,h3l,h3h,h3g⟩:=id GF
  repeat' (first|refine aE ?_|fail)
  refine⟨(i+1,.slice (some ⟨b3,0,some 1⟩) ((dH n es r l i).2.length+1) c3,.slice (some ⟨e3b,0,some 2⟩) sE.length e3c),by show l.length-(i+1)<l.length-i;omega,aX,by show i+1<=_;omega,V,(w1.trans de V).set (au _),?_,?_⟩
  ·show ah (aC H3 pb _) (at_ pb)=_;rw[aj];show some (jb.cells [Value.int .i64 (((n+i:Nat):Int)+1),_])=some (jb.cells [Value.int .i64 ((n+(i+1):Nat):Int),_]);rw[show ((n+i:Nat):Int)+1=((n+(i+1):Nat):Int) by omega]
  ·show wu _ nxa pb bW _ _ _ (dH n es r l (i+1));rw[oK];exact .inr ⟨aQ,b3,c3,G8,V,V,λd hd=>(by cases hd),GF.evf.frame (λd h1 h2=>ay V rfl) (au _),by rw[<-NL],by rw[NL];exact q8,DJ.frame (λd h1 h2=>ay V rfl) (au _)⟩
 ·have:i=l.length:=V;subst this;exact bq _ _ _ _ _ aX w1 V w2 w4 cH
end
section
variable {A:aN}{H H':Heap}{nx nx':Nat}{σ:aR}{L:List Value}{Q:cw}
theorem adv(E:eA A){m v w a b f pb nb ab bb M i:Nat}{ev tv wv c2 c3 c8 c14 c16 c17 c24:Value}{es:List Ed}{r:List (List Int)}(h0:aH (m:Int) es r=0)(ka:Jg es r v a f)(kb:Jg es r w b f)(cG:v≠w)(dx:es.length<3072)(CC:bL H nx 2 aW ev es)(um:er H nx 1 aZ tv r)(ng:ah H (at_ pb)=some (.cells [.int .i64 (m:Int),ev]))(NK:pb<nb)(sQ:nb<=nx)(uD:ah H (at_ ab)=some (.cells [.int .i64 (v:Int),.int .i64 (a:Int)]))(iy:ah H (at_ bb)=some (.cells [.int .i64 (w:Int),.int .i64 (b:Int)]))(adw:nb<=ab/\ab<nx)(Y2:nb<=bb/\bb<nx)(ag9:bk wv≠some ab)(aha:bk wv≠some bb)(aiz:∀d,bk wv=some d->d≠pb)(ahb:∀H1:Heap,(∀d,d<nx->bk wv≠some d->ah H1 (at_ d)=ah H (at_ d))->∀aQ,nx<=aQ->bL H1 aQ 2 aW ev es/\er H1 aQ 1 aZ tv r)(hg:GN H nb nx wv (aT (gj M i)))(hMi:es.length=M+i)(hi:i<=1048576)(GO:∀σ H' nx' b6 c6 Vc Vb,bD [(S2,c2),(S3,c3),(S8,c8),(iV,c14),(kD,c16),(jA,c17),(mg,.pointer (some ⟨pb,0,none⟩)),(ky,.slice (some ⟨b6,0,some 1⟩) r.length c6),(oM,.slice (some ⟨nx+1,0,some 1⟩) ((aT (gj M i)).length+1) (2*((aT (gj M i)).length+1))),(oq,c24)] σ->nx<=nx'->(∀d,d<nb->d≠pb->ah H' (at_ d)=ah H (at_ d))->ah H' (at_ pb)=some (.cells [.int .i64 (m:Int),Vb])->
   Wv H' (nx+1+1) nx' Vb (es++[((v:Int),(w:Int))])->r.length<=aF c6->dK H' (nx+1+1) nx' b6 Vc (oD es.length r v (a:Int) w (b:Int))->GN H' nb nx' (.slice (some ⟨nx+1,0,some 1⟩) ((aT (gj M i)).length+1) (2*((aT (gj M i)).length+1))) (aT (gj M (i+1)))->Q .normal σ H' nx') :
  WC A yF [(S2,c2),(S3,c3),(S8,c8),(iV,c14),(kD,c16),(jA,c17),(mg,.pointer (some ⟨pb,0,none⟩)),(ky,tv),(oM,wv),(oq,c24),(tC,.pointer (some ⟨ab,0,none⟩)),(xi,.pointer (some ⟨bb,0,none⟩))] H nx Q:=by
 have Uw:=(bR h0).1.2.2.1;have vf:=zI M i;have agG:=bK (gj M i);obtain⟨wa,wc,rfl⟩:=hg.form;obtain⟨ea,ec,rfl⟩:=CC.form;obtain⟨ta,tc,rfl⟩:=um.form;unfold yF
 repeat' (first|refine aE ?_|fail)
 refine WO.n rfl ?_;refine bG.Ws V rfl rfl Rd.self (hg.frame (H':=aC H nx [.int .i64 ((es.length:Nat):Int)]) (nx':=nx+1) (λd _ h2=>ay V rfl) V) V V (λH2 g2 kH=>?_);have zH:∀d,d<nx->bk (.slice wa (aT (gj M i)).length wc)≠some d->ah H2 (at_ d)=ah H (at_ d):=λd h1 h2=>(kH d V h2).trans (ay V rfl)
 have fE:∀d,d<nb->ah H2 (at_ d)=ah H (at_ d):=λd hd=>zH d V (λe=>by have:=(hg.blk e).1;omega)
 obtain⟨ahc,ahd⟩:=ahb H2 zH (nx+1+1) V;have Dj:=(fE pb NK).trans ng;have adx:=(zH ab adw.2 ag9).trans uD;have Zt:=(zH bb Y2.2 aha).trans iy;have Y3:=Jn E (n:=(m:Int)) (m:=m) h0 rfl ahc ahd ka kb cG dx
 repeat' (first|refine aE ?_|fail)
 refine WO.cn rfl ?_;refine Y3.of ?_;rintro _ H6 DF ⟨G7,Wn,Vb,b6,c6,Vc,rfl,Z0,ady,ahe,NQ⟩;have agK:=(G7 pb V).trans Dj;obtain⟨e6a,e6c,rfl⟩:=ady.form
 repeat' (first|refine aE ?_|fail)
 refine GO _ _ _ b6 c6 Vc (.slice e6a (es++[((v:Int),(w:Int))]).length e6c) aX V (λd h1 h2=>?_) aj ?_ Z0 ?_ ?_
 ·rw[ay h2 rfl,G7 d V];exact fE d h1
 ·exact Wv.frame ⟨ady,ahe⟩ (λd h1 h2=>ay V rfl) (au _)
 ·exact NQ.frame (λd h1 h2=>ay V rfl) (au _)
 ·rw[B3,ek,<-hMi];exact g2.frame (λd h1 h2=>(ay V rfl).trans (G7 d h2)) V
end
end Go.Eng
