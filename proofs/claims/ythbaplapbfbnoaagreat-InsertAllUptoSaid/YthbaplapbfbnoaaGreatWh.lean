import Derived.Test.YthbaplapbfbnoaaGreatWg
/- Walks over the program: part 8. -/

set_option maxRecDepth 100000
set_option maxHeartbeats 1000000
namespace Go.Eng
section
variable {A:aN}{H H':Heap}{nx nx':Nat}{σ:aR}{L:List Value}{Q:cw}
theorem gW.Ww{n:Int}{es:List Ed}{r:List (List Int)}{w y:Nat}(h0:aH n es r=0)(hy:y<2*es.length)(h:gW es r w y):∃k,k<(r.getD w []).length/\hC (aG es r) (r.getD w []) (fa (aG es r) y) k=true:=by
 obtain⟨_,_,_,_,_,_,_,h1,h2,_⟩:=h.RJ h0 hy;exact⟨_,h1,h2⟩
theorem rcA(E:eA A){Sn:bA}{N n u v i k st z a ob oc pb zb zc:Nat}{zs:List Nat}{ev tv wv c8:Value}{es:List Ed}{r:List (List Int)}(h0:aH (N:Int) es r=0)(CC:bL H nx 2 aW ev es)(um:er H nx 1 aZ tv r)(ng:ah H (at_ pb)=some (.cells [.int .i64 (N:Int),ev]))(NK:pb<nx)(si:ob<nx)(mK:aB H ob (aG es r))(hzn:zb<nx)(hzb:aB H zb (aT zs))(hzi:zs[i]?=some z)(SC:zs.length=k+1)(hz:z<2*es.length)(hur:u<r.length)(bO:st=if i=0 then u else n+i-1)(aae:st<r.length)(hF:gW es r st z)(ha:rB (aG es r) (r.getD st []) (fa (aG es r) z)=(a:Int))(PI:n<=4000/\i<=4000)(hk:∀σ H' nx' ab,bD [(S2,.int .i64 (u:Int)),(S3,.int .i64 (v:Int)),(S8,c8),(iV,.int .i64 (n:Int)),(kD,.int .i64 ((k:Nat):Int)),(jA,.slice (some ⟨zb,0,some 1⟩) (k+1) zc),(mg,.pointer (some ⟨pb,0,none⟩)),(ky,tv),(oM,wv),(oq,.int .i64 ((i:Nat):Int)),(vY,.slice (some ⟨ob,0,some 1⟩) (2*es.length) oc),(tC,.pointer (some ⟨ab,0,none⟩))] σ->aq H H' nx->nx<=ab->ab<nx'->ah H' (at_ ab)=some (.cells [.int .i64 (st:Int),.int .i64 (a:Int)])->WC A Sn σ H' nx' Q) :
  WC A (.seq PR (.seq PT Sn)) [(S2,.int .i64 (u:Int)),(S3,.int .i64 (v:Int)),(S8,c8),(iV,.int .i64 (n:Int)),(kD,.int .i64 ((k:Nat):Int)),(jA,.slice (some ⟨zb,0,some 1⟩) (k+1) zc),(mg,.pointer (some ⟨pb,0,none⟩)),(ky,tv),(oM,wv),(oq,.int .i64 ((i:Nat):Int)),(vY,.slice (some ⟨ob,0,some 1⟩) (2*es.length) oc)] H nx Q:=by
 obtain⟨ho,qo⟩:=gZ h0;have hik:i<k+1:=by have:=(cS.1 hzi).1;omega
 have hgz:(aT zs)[i]?=some (z:Int):=by unfold aT;rw[eD,hzi];rfl
 have q1:=aB.cell hgz;have q2:=aB.cell (ho.get (show z<(aG es r).length by omega));have hzC:ah H (at_ zb)=some (.cells ((aT zs).map (.int .i64))):=hzb;have hoC:ah H (at_ ob)=some (.cells ((aG es r).map (.int .i64))):=mK;have hcE:=hF.Ww h0 hz;obtain⟨ea,ec,rfl⟩:=CC.form;obtain⟨ta,tc,rfl⟩:=um.form;unfold PR PT
 repeat' (first|refine aE ?_|fail)
 refine WO.cn rfl ?_;refine(ke E (n:=(N:Int)) (v:=u) (f:=fa (aG es r) z) h0 um si mK hur).of ?_;rintro _ H3 bW ⟨de,j8,z3,rfl,hz3⟩;have hp3:=(de pb NK).trans ng;have aaf:=(de zb hzn).trans hzC;have aag:=(de ob si).trans hoC;by_cases BA:i=0
 ·subst BA;rw[aJ rfl]at bO;subst bO;have So:=hz3 hcE;rw[ha]at So;subst So
  repeat' (first|refine aE ?_|(refine bJ ?_ ?_<;>intro h<;>(try simp only[aL]at h))|fail)
  ·exfalso;omega
  ·exact WC.sub aX (hk _ _ _ bW (bD.refl _) ((de.set V).set V) V V aj)
 ·rw[aw BA]at bO
  repeat' (first|refine aE ?_|(refine bJ ?_ ?_<;>intro h<;>(try simp only[aL]at h))|fail)
  ·generalize re:aC (aC H3 bW _) bW _=H4;have sH:aq H3 H4 bW:=by rw[<-re];exact(aq.refl.set (au _)).set (au _)
   have k4:ah H4 (at_ bW)=some (.cells [.int .i64 (u:Int),.int .i64 z3]):=by rw[<-re];exact aj
   clear re;have fA:=de.trans sH j8;have hp4:=(sH pb V).trans hp3;have adz:=(sH zb V).trans aaf;have aah:=(sH ob V).trans aag
   skip
   refine WO.cn (vs:=[.agg #[.int .i64 (N:Int),.slice ea es.length ec],.slice ta r.length tc,.int .i64 (st:Int),.slice (some ⟨ob,0,some 1⟩) (2*es.length) oc,.int .i64 ((fa (aG es r) z:Nat):Int)]) (by rw[bO];rfl) ?_;refine(ke E (n:=(N:Int)) (v:=st) (f:=fa (aG es r) z) h0 ((um.same fA).up V) V aah aae).of ?_;rintro _ H5 fy ⟨jD,wj,z5,rfl,hz5⟩;have So:=hz5 hcE;rw[ha]at So;subst So;have k5:=(jD bW V).trans k4
   repeat' (first|refine aE ?_|fail)
   exact WC.sub aX (hk _ _ _ bW (bD.refl _) ((fA.trans jD V).set V) V V aj)
  ·exfalso;omega
theorem rcB(E:eA A){Sn:bA}{N n u v i k st z a ob oc pb zb zc ax:Nat}{zs:List Nat}{ev tv wv c8:Value}{es:List Ed}{r:List (List Int)}(h0:aH (N:Int) es r=0)(CC:bL H nx 2 aW ev es)(um:er H nx 1 aZ tv r)(ng:ah H (at_ pb)=some (.cells [.int .i64 (N:Int),ev]))(NK:pb<nx)(si:ob<nx)(mK:aB H ob (aG es r))(hzn:zb<nx)(hzb:aB H zb (aT zs))(hzi:zs[i]?=some z)(SC:zs.length=k+1)(hz:z<2*es.length)(hur:v<r.length)(bO:st=if i<k then n+i else v)(aae:st<r.length)(hF:gW es r st z)(ha:rB (aG es r) (r.getD st []) (fa (aG es r) z)=(a:Int))(PI:n<=4000/\i<=4000)(hk:∀σ H' nx' ab,bD [(S2,.int .i64 (u:Int)),(S3,.int .i64 (v:Int)),(S8,c8),(iV,.int .i64 (n:Int)),(kD,.int .i64 ((k:Nat):Int)),(jA,.slice (some ⟨zb,0,some 1⟩) (k+1) zc),(mg,.pointer (some ⟨pb,0,none⟩)),(ky,tv),(oM,wv),(oq,.int .i64 ((i:Nat):Int)),(vY,.slice (some ⟨ob,0,some 1⟩) (2*es.length) oc),(tC,.pointer (some ⟨ax,0,none⟩)),(xi,.pointer (some ⟨ab,0,none⟩))] σ->aq H H' nx->nx<=ab->ab<nx'->ah H' (at_ ab)=some (.cells [.int .i64 (st:Int),.int .i64 (a:Int)])->WC A Sn σ H' nx' Q) :
  WC A (.seq PU (.seq PV Sn)) [(S2,.int .i64 (u:Int)),(S3,.int .i64 (v:Int)),(S8,c8),(iV,.int .i64 (n:Int)),(kD,.int .i64 ((k:Nat):Int)),(jA,.slice (some ⟨zb,0,some 1⟩) (k+1) zc),(mg,.pointer (some ⟨pb,0,none⟩)),(ky,tv),(oM,wv),(oq,.int .i64 ((i:Nat):Int)),(vY,.slice (some ⟨ob,0,some 1⟩) (2*es.length) oc),(tC,.pointer (some ⟨ax,0,none⟩))] H nx Q:=by
 obtain⟨ho,qo⟩:=gZ h0;have hik:i<k+1:=by have:=(cS.1 hzi).1;omega
 have hgz:(aT zs)[i]?=some (z:Int):=by unfold aT;rw[eD,hzi];rfl
 have q1:=aB.cell hgz;have q2:=aB.cell (ho.get (show z<(aG es r).length by omega));have hzC:ah H (at_ zb)=some (.cells ((aT zs).map (.int .i64))):=hzb;have hoC:ah H (at_ ob)=some (.cells ((aG es r).map (.int .i64))):=mK;have hcE:=hF.Ww h0 hz;obtain⟨ea,ec,rfl⟩:=CC.form;obtain⟨ta,tc,rfl⟩:=um.form;unfold PU PV
 repeat' (first|refine aE ?_|fail)
 refine WO.cn rfl ?_;refine(ke E (n:=(N:Int)) (v:=v) (f:=fa (aG es r) z) h0 um si mK hur).of ?_;rintro _ H3 bW ⟨de,j8,z3,rfl,hz3⟩;have hp3:=(de pb NK).trans ng;have aaf:=(de zb hzn).trans hzC;have aag:=(de ob si).trans hoC;by_cases BA:¬i<k
 ·rw[aw BA]at bO;subst bO;have So:=hz3 hcE;rw[ha]at So;subst So
  repeat' (first|refine aE ?_|(refine bJ ?_ ?_<;>intro h<;>(try simp only[aL]at h))|fail)
  ·exfalso;omega
  ·exact WC.sub aX (hk _ _ _ bW (bD.refl _) ((de.set V).set V) V V aj)
 ·rw[aJ V]at bO
  repeat' (first|refine aE ?_|(refine bJ ?_ ?_<;>intro h<;>(try simp only[aL]at h))|fail)
  ·generalize re:aC (aC H3 bW _) bW _=H4;have sH:aq H3 H4 bW:=by rw[<-re];exact(aq.refl.set (au _)).set (au _)
   have k4:ah H4 (at_ bW)=some (.cells [.int .i64 (v:Int),.int .i64 z3]):=by rw[<-re];exact aj
   clear re;have fA:=de.trans sH j8;have hp4:=(sH pb V).trans hp3;have adz:=(sH zb V).trans aaf;have aah:=(sH ob V).trans aag
   skip
   refine WO.cn (vs:=[.agg #[.int .i64 (N:Int),.slice ea es.length ec],.slice ta r.length tc,.int .i64 (st:Int),.slice (some ⟨ob,0,some 1⟩) (2*es.length) oc,.int .i64 ((fa (aG es r) z:Nat):Int)]) (by rw[bO];rfl) ?_;refine(ke E (n:=(N:Int)) (v:=st) (f:=fa (aG es r) z) h0 ((um.same fA).up V) V aah aae).of ?_;rintro _ H5 fy ⟨jD,wj,z5,rfl,hz5⟩;have So:=hz5 hcE;rw[ha]at So;subst So;have k5:=(jD bW V).trans k4
   repeat' (first|refine aE ?_|fail)
   exact WC.sub aX (hk _ _ _ bW (bD.refl _) ((fA.trans jD V).set V) V V aj)
  ·exfalso;omega
end
section
variable {A:aN}{H H':Heap}{nx nx':Nat}{σ:aR}{L:List Value}{Q:cw}
def adA(H:Heap)(pb nx:Nat)(wv ev tv:Value)(s:xx):Prop:=
 ∃lo b c us,pb<lo/\lo<=nx/\(∀d,bk wv=some d->d<lo)/\Wv H lo nx ev s.1/\tv=.slice (some ⟨b,0,some 1⟩) s.2.length c/\s.2.length<=aF c/\dK H lo nx b us s.2
structure RyW(nxa pb nb:Nat)(H0:Heap)(n M:Nat)(s:xx)(i:Nat)(H:Heap)(nx:Nat)(wv ev tv:Value):Prop where
 same:∀d,d<nb->d≠pb->ah H (at_ d)=ah H0 (at_ d)
 cell:ah H (at_ pb)=some (.cells [.int .i64 (n:Int),ev])
 pn:nb<=nx
 held:wu H nxa pb nx wv ev tv s
 I8:GN H nb nx wv (aT (gj M i))
 own:0<i->adA H pb nx wv ev tv s
theorem Vh(E:eA A){n u v k qb pb nb nxa M zb zc:Nat}{NR Ji:Value}{S:xx}{zs:List Nat}{H0:Heap}(C:RK ((n+k:Nat):Int) S (stops n u v k) zs (k+1) 0)(hM:S.1.length=M)(hn:n+k<=1024)(hMK:M+(k+1)<=3072)(hu:u<n)(hv:v<n)(ha:nxa<=pb)(ng:pb<nb)(hzn:zb<nb)(hzp:zb≠pb)(hzb:aB H0 zb (aT zs))(SC:zs.length=k+1)(hW:RyW nxa pb nb H0 (n+k) M S 0 H nx (.slice none 0 0) NR Ji)(bq:∀σ H' nx' wv ev tv,bD [(S8,.pointer (some ⟨qb,0,none⟩)),(mg,.pointer (some ⟨pb,0,none⟩)),(ky,tv),(oM,wv)] σ->RyW nxa pb nb H0 (n+k) M (dI S (stops n u v k) zs (k+1)) (k+1) H' nx' wv ev tv->nx<=nx'->Q (.exit 4) σ H' nx') :
  WC A (.loop u6) [(S2,.int .i64 (u:Int)),(S3,.int .i64 (v:Int)),(S8,.pointer (some ⟨qb,0,none⟩)),(iV,.int .i64 (n:Int)),(kD,.int .i64 ((k:Nat):Int)),(jA,.slice (some ⟨zb,0,some 1⟩) (k+1) zc),(mg,.pointer (some ⟨pb,0,none⟩)),(ky,Ji),(oM,.slice none 0 0),(oq,.int .i64 0)] H nx Q:=by
 refine WC.loop (α:=Nat×Value×Value×Value) (λs=>[(S2,.int .i64 (u:Int)),(S3,.int .i64 (v:Int)),(S8,.pointer (some ⟨qb,0,none⟩)),(iV,.int .i64 (n:Int)),(kD,.int .i64 ((k:Nat):Int)),(jA,.slice (some ⟨zb,0,some 1⟩) (k+1) zc),(mg,.pointer (some ⟨pb,0,none⟩)),(ky,s.2.1),(oM,s.2.2.1),(oq,.int .i64 ((s.1:Nat):Int))])
  (λs H' nx'=>s.1<=k+1/\nx<=nx'/\RyW nxa pb nb H0 (n+k) M (dI S (stops n u v k) zs s.1) s.1 H' nx' s.2.2.1 s.2.2.2 s.2.1) (λs=>k+1-s.1)
  ?_ (0,Ji,.slice none 0 0,NR) aX ⟨bS _,au _,hW⟩
 rintro⟨i,tv,wv,ev⟩ H1 aQ ⟨hi,cH,W⟩;simp only at hi W ⊢;unfold u6;by_cases hik:i<=k
 rotate_left
 ·have:i=k+1:=V;subst this
  repeat' (first|refine aE ?_|(refine bJ ?_ ?_<;>intro h<;>(try simp only[aL]at h))|fail)
  ·exfalso;omega
  ·exact bq _ _ _ _ _ _ aX W cH
 obtain⟨w1,w2,w3,w4,w5,_⟩:=W;have Ci:=C.at i V;obtain⟨e1,e2⟩:=lV S (stops n u v k) zs i;have oY:=(bR Ci.zi).2.1;have agF:=(bR Ci.zi).1.2.2.1;have hz:=Ci.lt i (au _) V;have hFa:=Ci.a i (au _) V;have hFb:=Ci.b i (au _) V;have cG:=Ci.ne i (au _) V;obtain⟨ca,ea,ka⟩:=hFa.cor Ci.zi hz;obtain⟨cb,eb,kb⟩:=hFb.cor Ci.zi hz;have oK:dI S (stops n u v k) zs (i+1)=((dI S (stops n u v k) zs i).1++[((((stops n u v k).getD i 0:Nat):Int),(((stops n u v k).getD (i+1) 0:Nat):Int))],oD (dI S (stops n u v k) zs i).1.length (dI S (stops n u v k) zs i).2 ((stops n u v k).getD i 0) (ca:Int) ((stops n u v k).getD (i+1) 0) (cb:Int)):=by
  show tX _ _ _ _=_;unfold tX;rw[ea,eb]
 have hGl:(oD (dI S (stops n u v k) zs i).1.length (dI S (stops n u v k) zs i).2 ((stops n u v k).getD i 0) (ca:Int) ((stops n u v k).getD (i+1) 0) (cb:Int)).length=(dI S (stops n u v k) zs i).2.length:=tU _ _ _ _ _ _;have ahf:(stops n u v k).getD i 0=if i=0 then u else n+i-1:=by
  cases i with
  | zero=>rfl
  | succ j=>rw[aw V,lW V];omega
 have Sc:(stops n u v k).getD (i+1) 0=if i<k then n+i else v:=by
  by_cases c:i<k
  ·rw[aJ c,lW c]
  ·rw[aw c,show i=k by omega,xy]
 have MR:∀d,bk wv=some d->pb<d/\d<aQ:=λd hd=>by
  have:=w5.blk hd;omega
 have hgz:zs[i]?=some (zs.getD i 0):=by rw[aY,aM V];rfl
 have hra:(stops n u v k).getD i 0<(dI S (stops n u v k) zs i).2.length:=ka.vl;have uh:(stops n u v k).getD (i+1) 0<(dI S (stops n u v k) zs i).2.length:=kb.vl;have BL:(dI S (stops n u v k) zs i).1.length=M+i:=V;generalize(stops n u v k).getD i 0=sa at *
 generalize(stops n u v k).getD (i+1) 0=sb at *
 generalize zs.getD i 0=z at *
 generalize hs:dI S (stops n u v k) zs i=s at *
 obtain⟨es,r⟩:=s;simp only at *
 have e9:(es,r).snd.length=r.length:=rfl;have e8:(es,r).fst.length=es.length:=rfl;obtain⟨Jk,Jl⟩:=w4.at ha V (H':=H1) (nx':=aQ) (λ_ _ _ _=>rfl) (λd hd=>(MR d hd).1) (au _);have adB:aB H1 zb (aT zs):=(w1 zb hzn hzp).trans hzb;obtain⟨ea0,ec0,rfl⟩:=Jk.form;obtain⟨ta0,tc0,rfl⟩:=Jl.form
 repeat' (first|refine aE ?_|(refine bJ ?_ ?_<;>intro h<;>(try simp only[aL]at h))|fail)
 ·refine WO.cn rfl ?_;refine(E.rof (n:=((n+k:Nat):Int)) Ci.zi Jk Jl (cC Ci.zi)).of ?_;rintro _ H2 nx2 ⟨ob,oc,rfl,uj,F6,G5,mK,bN,fg⟩
  iterate 3 ((first|refine aE ?_|fail))
  refine WC.sub aX (rcA E (N:=n+k) (n:=n) (u:=u) (v:=v) (i:=i) (k:=k) (st:=sa) (z:=z) (a:=ca) (ob:=ob) (oc:=oc) (pb:=pb) (zb:=zb) (zc:=zc) (zs:=zs) (wv:=wv) (c8:=.pointer (some ⟨qb,0,none⟩)) Ci.zi ((Jk.same bN).up fg) ((Jl.same bN).up fg) ((bN pb V).trans w2) V G5 mK V ((bN zb V).trans adB) hgz SC hz V ahf hra hFa ea V (λσ3 H3 bW ab hσ3 de adw adx uD=>?_));refine WC.sub hσ3 ?_;have zB:=bN.trans de fg;have aiA:nx2<=bW:=V;refine rcB E (N:=n+k) (n:=n) (u:=u) (v:=v) (i:=i) (k:=k) (st:=sb) (z:=z) (a:=cb) (ob:=ob) (oc:=oc) (pb:=pb) (zb:=zb) (zc:=zc) (zs:=zs) (wv:=wv) (c8:=.pointer (some ⟨qb,0,none⟩)) (ax:=ab) Ci.zi ((Jk.same zB).up V) ((Jl.same zB).up V) ((zB pb V).trans w2) V V ((de ob G5).trans mK) V ((zB zb V).trans adB) hgz SC hz V Sc uh hFb eb V (λσ4 H4 dA bb hσ4 fA Y2 Zt iy=>?_);have vr:=zB.trans fA V;have hwv:∀H':Heap,(∀d,d<dA->bk wv≠some d->ah H' (at_ d)=ah H4 (at_ d))->∀nx',dA<=nx'->bL H' nx' 2 aW (.slice ea0 es.length ec0) es/\er H' nx' 1 aZ (.slice ta0 r.length tc0) r:=λH' hf nx' GW=>
   w4.at ha V (H':=H') (nx':=nx') (λd h1 h2 h3=>(hf d V h3).trans (vr d h1)) (λd hd=>(MR d hd).1) V
  refine WC.sub (bD.trans aX hσ4) (adv E (v:=sa) (w:=sb) (a:=ca) (b:=cb) (pb:=pb) (nb:=nb) (ab:=ab) (bb:=bb) (M:=M) (i:=i) (wv:=wv) (c2:=.int .i64 (u:Int)) (c3:=.int .i64 (v:Int)) (c8:=.pointer (some ⟨qb,0,none⟩)) (c14:=.int .i64 (n:Int)) (c16:=.int .i64 ((k:Nat):Int)) (c17:=.slice (some ⟨zb,0,some 1⟩) (k+1) zc) (c24:=.int .i64 ((i:Nat):Int)) Ci.zi ka kb cG V ((Jk.same vr).up V) ((Jl.same vr).up V) ((vr pb V).trans w2) ng V ((fA ab adx).trans uD) iy ⟨V,V⟩ ⟨V,V⟩ (λe=>by have:=(MR _ e).2;omega) (λe=>by have:=(MR _ e).2;omega) (λd hd=>by have:=(MR d hd).1;omega) hwv (w5.frame (λd _ h2=>vr d h2) V) BL V (λσ5 H5 fy b6 c6 Vc Vb hσ5 wj vt hp5 ahg Z0 NQ ZK=>?_));refine WC.sub hσ5 ?_
  repeat' (first|refine aE ?_|fail)
  have mT:adA H5 pb fy (.slice (some ⟨dA+1,0,some 1⟩) ((aT (gj M i)).length+1) (2*((aT (gj M i)).length+1))) Vb (.slice (some ⟨b6,0,some 1⟩) r.length c6) (dI S (stops n u v k) zs (i+1)):=by
   rw[oK];exact⟨dA+1+1,b6,c6,Vc,V,(by have:=NQ.h1;have:=NQ.h2;omega),λd hd=>(by cases hd;omega),ahg,by rw[<-hGl],by rw[hGl];exact Z0,NQ⟩
  refine⟨(i+1,.slice (some ⟨b6,0,some 1⟩) r.length c6,.slice (some ⟨dA+1,0,some 1⟩) ((aT (gj M i)).length+1) (2*((aT (gj M i)).length+1)),Vb),by show k+1-(i+1)<k+1-i;omega,aX,by show i+1<=_;omega,V,λd h1 h2=>?_,hp5,by show nb<=fy;omega,.inr mT,ZK,λ_=>mT⟩
  ·show ah H5 (at_ d)=_;rw[vt d h1 h2,vr d V];exact w1 d h1 h2
 ·exfalso;omega
end
section
variable {A:aN}{H H':Heap}{nx nx':Nat}{σ:aR}{L:List Value}{Q:cw}
noncomputable def Ni(es:List Ed)(r:List (List Int))(p:Nat):Nat:=(((aP es r).getD p []).getD 0 0).toNat
theorem Sp{n:Int}{es:List Ed}{r:List (List Int)}{p y:Nat}(h0:aH n es r=0)(hy:y<2*es.length)(hp:fa (aG es r) y=p):0<((aP es r).getD p []).length/\((aP es r).getD p [])[0]?=some ((Ni es r p:Nat):Int)/\Ni es r p<2*es.length/\fa (aG es r) (Ni es r p)=p:=by
 have hm:=(zp h0 (p:=p) (x:=(y:Int))).2 ⟨y,rfl,hy,hp⟩;have iu:=List.length_pos_of_mem hm;have hg:=aM iu;obtain⟨z,e1,e2,e3⟩:=(zp h0).1 (jE iu);have:Ni es r p=z:=by
  unfold Ni;rw[aY,hg,e1];exact eE z
 rw[this];exact⟨iu,by rw[hg,e1],e2,e3⟩
theorem GP(E:eA A){m u v:Nat}{ev rv:Value}{es:List Ed}{r:List (List Int)}(h0:aH (m:Int) es r=0)(he:bL H nx 2 aW ev es)(hr:er H nx 1 aZ rv r)(hu:u<m)(hv:v<m)(pY:u≠v)(tR:Reach es u v)(aiB:m<=60)(aiC:es.length<=80) :
  WF A 17 [.agg #[.int .i64 (m:Int),ev],rv,.int .i64 (u:Int),.int .i64 (v:Int)] H nx λx H' nx'=>aq H H' nx/\nx<=nx'/\∃f l zs oA tv wv,BX es r u v f l/\Ys es r f l zs/\x=oneOf [.agg #[.int .i64 ((m+l.length:Nat):Int),oA],tv,wv,.int .i64 0]/\
   bL H' nx' 2 aW oA (ss m es r u v l zs).1/\er H' nx' 1 aZ tv (ss m es r u v l zs).2/\bL H' nx' 1 aZ wv (aT (gj (es.length+l.length) (l.length+1))):=by
 obtain⟨base,ec,rfl⟩:=he.form;obtain⟨rb,rc,rfl⟩:=hr.form;have cD:=cC h0;obtain⟨hm,oY,_⟩:=bR h0;obtain⟨ho,qo⟩:=gZ h0;have g:=dy h0;refine WF.enter (E.h rfl _ _ _) E.Kb ?_;have bF:aq H (aC (aC H nx [.int .i64 (m:Int),.slice base es.length ec]) (nx+1) [.int .i64 0,.slice none 0 0]) nx:=(aq.refl.set (au _)).set V
 repeat' (first|refine aE ?_|fail)
 refine WO.cn rfl ?_;refine(wo E h0 ((he.same bF).up (show nx<=nx+1+1 by omega)) ((hr.same bF).up V) hu hv pY tR).of ?_;rintro _ H1 aQ ⟨bt,cH,bv,fv,f,l,rfl,NS,hbv,yh⟩;have bu:=bF.trans bt V;have a4:ah H1 (at_ nx)=some (.cells [.int .i64 (m:Int),.slice base es.length ec]):=(bt nx V).trans (ay V aj);have a5:ah H1 (at_ (nx+1))=some (.cells [.int .i64 0,.slice none 0 0]):=(bt (nx+1) V).trans aj;have hlen:=(NS.len h0 (show u<r.length by omega)).1;obtain⟨far,d1,d2,d3,d4⟩:=NS.far h0;have gg:=bK (l.map (· / 2));rw[ja]at gg;have oJ:=bK (oP (aG es r) f l);have Vi:=KY (aG es r) f l;have Sq:∀i,i<=l.length->∃y,y<2*es.length/\fa (aG es r) y=(oP (aG es r) f l).getD i 0:=λi hi=>by
  cases i with
  | zero=>
   obtain⟨x,hx,e⟩:=qO d2;obtain⟨a,rfl,qi,_⟩:=dw h0 (show u<r.length by omega) hx;rw[eE]at e;exact⟨a,qi,e⟩
  | succ j=>
   obtain⟨_,g2,g3⟩:=d4 j V;exact⟨aU (l.getD j 0),bM g2,g3⟩
 obtain⟨ba,bc,rfl⟩:=hbv.form;obtain⟨fa',fc,rfl⟩:=yh.form
 repeat' (first|refine aE ?_|(refine bJ ?_ ?_<;>intro h<;>(try simp only[aL]at h))|fail)
 all_goals try (exfalso;omega)
 generalize zY:aC H1 aQ (bj _ _)=H2;have NT:aq H1 H2 aQ:=by rw[<-zY];exact aq.refl.set (au _)
 have uE:aB H2 aQ (List.replicate (aT (oP (aG es r) f l)).length 0):=by rw[<-zY];exact fW aj
 clear zY;have bV:=bu.trans NT V;have a42:=(NT nx V).trans a4;have a52:=(NT (nx+1) V).trans a5
 skip
 refine WO.cn rfl ?_;refine(E.Rs (n:=(m:Int)) g ((he.same bV).up (show nx<=aQ+1 by omega)) ((hr.same bV).up V) cD V).of ?_;rintro av H3 bW ⟨nf,jP,kH,hL,de⟩;obtain⟨aa,ac,rfl⟩:=hL.form;have dZ:=bV.trans de V;have a43:=(de nx V).trans a42;have a53:=(de (nx+1) V).trans a52;have hz3:aB H3 aQ (List.replicate (aT (oP (aG es r) f l)).length 0):=(de aQ V).trans uE;have adC:=((yh.same NT).same (λd hd=>de d V)).up (show aQ<=bW by omega);have adD:=((hbv.same NT).same (λd hd=>de d V)).up (show aQ<=bW by omega);have hAs:=hL.FW;rw[oJ,Vi]at hz3 ⊢;rw[gg]at adD ⊢
 repeat' (first|refine aE ?_|fail)
 have ahh:((oP (aG es r) f l).map (Ni es r)).length=l.length+1:=by rw[ja,Vi]
 have hzg:∀i,i<=l.length->((oP (aG es r) f l).map (Ni es r)).getD i 0=Ni es r ((oP (aG es r) f l).getD i 0):=λi hi=>by
  rw[aY,eD,aY,aM V];rfl
 have Z:Ys es r f l ((oP (aG es r) f l).map (Ni es r)):=⟨λi hi=>by
  obtain⟨y,y1,y2⟩:=Sq i hi;rw[hzg i hi];exact(Sp h0 y1 y2).2.2.1,λi hi=>by
  obtain⟨y,y1,y2⟩:=Sq i hi;rw[hzg i hi];exact(Sp h0 y1 y2).2.2.2⟩
 have dv:=(iN h0).row;generalize hzs:(oP (aG es r) f l).map (Ni es r)=zs at *
 have aiD:=bK zs;refine WC.loop (α:=Nat×List Int) (λs=>[(S1,.slice rb r.length rc),(S2,.int .i64 (u:Int)),(S3,.int .i64 (v:Int)),(S4,.pointer (some ⟨nx,0,none⟩)),(S8,.pointer (some ⟨nx+1,0,none⟩)),(jg,.slice ba l.length bc),(ik,.slice fa' (l.length+1) fc),(iV,.int .i64 (m:Int)),(kD,.int .i64 ((l.length:Nat):Int)),(jA,.slice (some ⟨aQ,0,some 1⟩) (l.length+1) (2*(l.length+1)+1)),(ry,.slice aa (aP es r).length ac),(r5,.int .i64 ((s.1:Nat):Int))])
  (λs H' nx'=>s.1<=l.length+1/\nx'=bW/\(∀d,d≠aQ->ah H' (at_ d)=ah H3 (at_ d))/\aB H' aQ s.2/\s.2.length=l.length+1/\∀j,j<s.1->s.2[j]?=(aT zs)[j]?) (λs=>l.length+1-s.1)
  ?_ (0,List.replicate (l.length+1) 0) aX ⟨bS _,rfl,λ_ _=>rfl,hz3,by simp,λj hj=>by omega⟩
 rintro⟨i,zl⟩ H4 dA ⟨hi,rfl,G9,hz4,adE,hzj⟩;simp only at hi hz4 adE hzj ⊢;have ahi:bL H4 dA 1 aZ (.slice fa' (l.length+1) fc) (aT (oP (aG es r) f l)):=by
  rw[oJ,Vi]at adC;exact adC.blk (λd hd cg=>G9 d (λe=>by
   subst e;rw[oJ,Vi]at yh;have:=nM yh hd;omega)) (au _)
 by_cases jT:i<l.length+1
 ·obtain⟨y,y1,y2⟩:=Sq i V;obtain⟨p1,p2,p3,p4⟩:=Sp h0 y1 y2;have gY:(aT (oP (aG es r) f l))[i]?=some (((oP (aG es r) f l).getD i 0:Nat):Int):=by
   unfold aT;rw[eD,aY,aM V];rfl
  have hzi:(aT zs)[i]?=some ((Ni es r ((oP (aG es r) f l).getD i 0):Nat):Int):=by
   rw[<-hzg i V];unfold aT;rw[eD,aY,aM V];rfl
  have UU:(oP (aG es r) f l).getD i 0<(aP es r).length:=by rw[<-y2];exact ho.lt V
  have HO:=dv ((oP (aG es r) f l).getD i 0);generalize(oP (aG es r) f l).getD i 0=p at *
  obtain⟨lb,lo,lcs,rfl,tY,_,_,sr,jC⟩:=ahi.at (by intro e;rw[e]at gY;cases gY);have q1:=cX (v:=.int .i64 (p:Int)) (jC i _ gY);have NI:=hL.vX (H':=H4) (nx':=dA) (λb h1 h2=>G9 b V) (au _);have hgp:(aP es r).getD p []=(aP es r)[p]:=by rw[aY,aM UU];rfl
  obtain⟨fb,fo,aiE,ib,ic,rfl,acu,adk,hfr,hfc,Cp,hfq⟩:=NI.at UU;rw[<-hgp]at hfc Cp;obtain⟨rb',ro',aiF,rfl,uh,_,_,rX,jz⟩:=Cp.at (λe=>by rw[e]at p1;simp at p1);have q2:=cX (v:=.int .i64 ((Ni es r p:Nat):Int)) (jz 0 _ p2);have adz:ah H4 (at_ aQ)=some (.cells (zl.map (.int .i64))):=hz4;generalize Ni es r p=z at *
  repeat' (first|refine aE ?_|(refine bJ ?_ ?_<;>intro h<;>(try simp only[aL]at h))|fail)
  ·refine⟨(i+1,zl.set i (z:Int)),by show l.length+1-(i+1)<l.length+1-i;omega,aX,by show i+1<=_;omega,rfl,λd hd=>(ay hd rfl).trans (G9 d hd),?_,by show (zl.set i _).length=_;rw[iq];exact adE,λj hj=>?_⟩
   ·show ah (aC H4 aQ ((zl.map (Value.int .i64)).set (0+i*1) (.int .i64 (z:Int)))) (at_ aQ)=_;rw[ints_set];exact aj
   ·show (zl.set i (z:Int))[j]?=_;rw[fZ];by_cases c:i=j
    ·subst c;rw[aJ rfl,aJ V,hzi]
    ·rw[aw c];exact hzj j (by show j<i;have:j<i+1:=hj;omega)
  ·exfalso;omega
 ·have ahj:i=l.length+1:=V;subst ahj;have ahk:zl=aT zs:=by
   apply mb;intro j;by_cases c:j<l.length+1
   ·exact hzj j c
   ·rw[gx V,gx V]
  subst ahk;have eW:aq H H4 nx:=λd hd=>(G9 d V).trans (dZ d hd)
  have a44:=(G9 nx V).trans a43;have a54:=(G9 (nx+1) V).trans a53
  repeat' (first|refine aE ?_|(refine bJ ?_ ?_<;>intro h<;>(try simp only[aL]at h))|fail)
  ·exfalso;omega
  refine WO.ca rfl ?_;refine(p8 E ((hr.same eW).up (show nx<=dA by omega)) cD).of ?_;rintro _ H5 fy ⟨jD,wj,cb,cc,us,rfl,zS,hU⟩;have j6:=eW.trans jD V;have a45:=(jD nx V).trans a44;have a55:=(jD (nx+1) V).trans a54;refine⟨bB.look rfl (Rd.own a45) rfl rfl ue .nil,?_⟩
  repeat' (first|refine aE ?_|fail)
  generalize Jb:aC (aC H5 fy _) fy _=H6;have Wp:aq H5 H6 fy:=by rw[<-Jb];exact(aq.refl.set (au _)).set (au _)
  have k6:ah H6 (at_ fy)=some (.cells [.int .i64 (m:Int),.slice base es.length ec]):=by rw[<-Jb];exact aj
  clear Jb;have ahl:bL H5 fy 1 aZ (.slice ba l.length bc) (aT (l.map (· / 2))):=by
   have h1:=adD.blk (H':=H4) (λd hd cg=>G9 d (λe=>by
    subst e;rw[gg]at hbv;have:=nM hbv hd;omega)) (au dA)
   exact(h1.same jD).up wj
  have wR:=j6.trans Wp V;have aiG:aB H6 aQ (aT zs):=(Wp aQ V).trans ((jD aQ V).trans hz4);have C:=mL h0 NS hu hv pY Z V V;obtain⟨e1,e2⟩:=jy (m:Int) es r l l.length;have Jb:wu H6 fy fy (fy+1) (.slice none 0 0) (.slice base es.length ec) (.slice (some ⟨cb,0,some 1⟩) r.length cc) (dH (m:Int) es r l 0):=.inl ⟨(he.same wR).up V,by
   have h1:=(hU.same Wp (au fy)).FW (c:=cc) (by rw[fX];exact zS);rw[fX]at h1;exact h1⟩
  refine WC.sub aX (Vg E (n:=m) (u:=u) (v:=v) (qb:=nx+1) (gb:=nx) (pb:=fy) (nxa:=fy) (gcs:=[]) (sv:=.slice (some ⟨aQ,0,some 1⟩) (l.length+1) (2*(l.length+1)+1)) (rtv:=.slice ba l.length bc) (l:=l) h0 (λj hj=>(d4 j hj).2.1) V V (au _) ahl Wp (K7 _) k6 Jb (λσ7 H7 j9 ev7 tv7 hσ7 k7 hp7 hc7 hh7 Dz=>?_));refine kW (lO (WC.sub hσ7 ?_));have ahm:aB H7 aQ (aT zs):=(k7 aQ V).trans ((jD aQ V).trans hz4);have a57:=(k7 (nx+1) V).trans a55;have Gy:=j6.trans k7 V;generalize hS:dH (m:Int) es r l l.length=S at *
  repeat' (first|refine aE ?_|fail)
  have W0:RyW fy fy j9 H7 (m+l.length) (es.length+l.length) (dI S (stops m u v l.length) zs 0) 0 H7 j9 (.slice none 0 0) ev7 tv7:=⟨λ_ _ _=>rfl,hc7,au _,hh7,.nil,λh=>absurd h V⟩;refine WC.sub aX (Vh E (n:=m) (u:=u) (v:=v) (k:=l.length) (qb:=nx+1) (pb:=fy) (nb:=j9) (nxa:=fy) (M:=es.length+l.length) (zb:=aQ) (zc:=2*(l.length+1)+1) (zs:=zs) (H0:=H7) C e1 V V hu hv (au _) hp7 V V ahm ahh W0 (λσ8 H8 RP wv8 ev8 tv8 hσ8 W8 hn8=>?_));obtain⟨y1,y2,y3,_,y5,y6⟩:=W8;obtain⟨lo,b8,c8,us8,z1,z2,z3,z4,rfl,z5,z6⟩:=y6 V;refine kW (lO (WC.sub hσ8 ?_));have a58:=(y1 (nx+1) V V).trans a57;have hT:ss m es r u v l zs=dI S (stops m u v l.length) zs (l.length+1):=by unfold ss;rw[hS]
  rw[<-hT]at z4 z5 z6 ⊢;obtain⟨ea8,ec8,rfl⟩:=z4.1.form;have aiH:=λd (hd:bk wv8=some d)=>y5.blk hd
  repeat' (first|refine aE ?_|fail)
  refine vw rfl aj rfl rfl rfl rfl ⟨λd hd=>?_,V,f,l,zs,_,_,wv8,NS,Z,rfl,(z4.frame (λd h1 h2=>ay V rfl) (au _)).1,(z6.frame (λd h1 h2=>ay V rfl) (au _)).FW z5,?_⟩
  ·rw[ay V rfl,y1 d V V];exact Gy d hd
  ·exact(y5.frame (λd h1 h2=>ay V rfl) (au _)).sle
end
section
variable {A:aN}{H H':Heap}{nx nx':Nat}{σ:aR}{L:List Value}{Q:cw}
def DM(u:Value):Prop:=u=.slice none 0 0\/∃d o n c,u=.slice (some ⟨d,o,some 1⟩) n c/\0<n/\n<=600/\n<=aF c/\aF c<=9223372036854775807
theorem sw{g:FuncId}(hf:A.funcs g=some VU)(V9:A.funcs 38=some tF)(hh:zhN A g)(FM:zhN A 38){nx0 pb B:Nat}{lv lsv:Value}{us ls:List Value}(st:FL H nx0 nx pb lv us B)(Y3:bL H nx 1 Ft lsv ls)(Xy:∀u∈ls,DM u)(hlen:ls.length<=100)(hB:B+2700*ls.length<=1048576)(ng:bk lsv≠some pb)(Sg:∀b,bk lv=some b->bk lsv≠some b)(iF:us.length<=100000) :
  WF A g [.pointer (some ⟨pb,0,none⟩),lsv] H nx λ_ H' nx'=>nx<=nx'/\∃yV,FL H' nx0 nx' pb yV (us++kept ls) (B+2700*ls.length)/\(∀b,bk yV=some b->bk lv=some b\/nx<=b)/\∀b,b<nx->b≠pb->bk lv≠some b->ah H' (at_ b)=ah H (at_ b):=by
 obtain⟨base,c,rfl⟩:=Y3.form;refine WF.enter (hh _ _ _) hf ?_
 repeat' (first|refine aE ?_|fail)
 refine WC.loop (α:=Nat) (λk=>[([],.pointer (some ⟨pb,0,none⟩)),(S1,.slice base ls.length c),(S4,.int .i64 ((k:Nat):Int))])
  (λk H' nx'=>k<=ls.length/\nx<=nx'/\∃yV,FL H' nx0 nx' pb yV (us++kept (ls.take k)) (B+2700*k)/\(∀b,bk yV=some b->bk lv=some b\/nx<=b)/\∀b,b<nx->b≠pb->bk lv≠some b->ah H' (at_ b)=ah H (at_ b)) (λk=>ls.length-k)
  ?_ 0 aX ⟨bS _,au _,lv,by simpa[kept]using st,λb hb=>.inl hb,λ_ _ _ _=>rfl⟩
 rintro k H1 aQ ⟨hk,cH,G3,ll,dS,hfr⟩;obtain⟨sv,a,s,aai,hg,hsv,hsB,CN,yz⟩:=ll;have ahn:bL H1 aQ 1 Ft (.slice base ls.length c) ls:=Y3.blk (λb hb cg=>hfr b cg (λe=>ng (by rw[<-e];exact hb)) (λe=>Sg b e hb)) cH
 repeat' (first|refine aE ?_|(refine bJ ?_ ?_<;>intro h<;>(try simp only[aL]at h))|fail)
 ·have bQ:k<ls.length:=V;obtain⟨eb,eo,cs,rfl,FR,_,_,Uv,FQ⟩:=ahn.at (by intro e;rw[e]at bQ;simp at bQ);have q1:=cX (FQ k ls[k] (aM bQ));have adF:=Xy ls[k] (jE bQ);generalize hu:ls[k]=u at q1 adF;have zy:us++kept (ls.take (k+1))=us++kept (ls.take k)++kept [u]:=by
   rw[List.take_succ_eq_append_getElem bQ,hu,BH,jj]
  have MD:(kept (ls.take k)).length<=100:=hX (Ac _ _) (by rw[iZ];omega);rcases adF with rfl|⟨d,o,n,c',rfl,h0n,oO,hsu,pB⟩
  ·repeat' (first|refine aE ?_|fail)
   refine WO.n rfl ?_;refine bG.of (Act.abr rfl) ?_;refine WO.cn rfl ?_;refine(BG V9 FM (nC (n:=0)) V V).of ?_;rintro v _ _ ⟨rfl,rfl,hv⟩
   repeat' (first|refine aE ?_|fail)
   refine WO.n rfl ?_;refine bG.of (Act.ae0 (c:=0) (d:=0) rfl rfl hv (nC (n:=0)) V) ?_
   repeat' (first|refine aE ?_|fail)
   refine⟨k+1,V,.cons rfl aX,V,cH,G3,?_,dS,hfr⟩;rw[zy,show kept [Value.slice none 0 0]=[]from rfl,gN];exact⟨sv,a,s,aai,hg,hsv,V,CN,yz⟩
  ·have adG:kept [Value.slice (some ⟨d,o,some 1⟩) n c']=[Value.slice (some ⟨d,o,some 1⟩) n c']:=rfl;rw[adG]at zy;have ag2:(us++kept (ls.take k)).length<=100100:=by rw[cm];omega
   repeat' (first|refine aE ?_|fail)
   refine WO.n rfl ?_;refine bG.XB rfl (λ_ _=>pB) (λvc lo hi YG _ vF Hr=>?_);obtain⟨rfl,hlh⟩:=vF _ rfl;refine WO.cn rfl ?_;refine(BG V9 FM YG Hr V).of ?_;rintro v H1 aQ ⟨rfl,rfl,hv⟩;have Wu:eb≠pb:=λe=>ng (by rw[e];rfl)
   repeat' (first|refine aE ?_|fail)
   refine WO.n rfl ?_;refine bG.of (Act.aeZ (c:=0) (d:=0) rfl rfl hv (nC (n:=0)) V V) ?_
   repeat' (first|refine aE ?_|fail)
   refine WO.n rfl ?_;refine bG.TN rfl rfl hsv hv V (λs2 bN=>?_)
   repeat' (first|refine aE ?_|fail)
   refine WO.n rfl ?_;refine bG.of (Act.ae1 (c:=1048576) (d:=1048576) rfl rfl bN (nC (n:=1048576)) V) ?_
   repeat' (first|refine aE ?_|fail)
   refine WO.n rfl ?_;refine bG.TN rfl rfl hsv hv V (λs3 de=>?_);obtain⟨lZ,vE⟩:=Mi de
   repeat' (first|refine aE ?_|fail)
   refine WO.n rfl ?_;refine bG.of (Act.aeS rfl rfl lZ vE aai (by simp)) ?_;have aiI:Rd (aC H1 pb ([G3,sv].set (0+1) s3)) eb cs:=Rd.skip Wu Uv
   repeat' (first|refine aE ?_|fail)
   refine WO.n rfl ?_;have cG:∀(b:Nat) (c:Nat) (z':Option Nat) (q:Nat),G3=.slice (some ⟨b,0,z'⟩) q c->nx0<=b/\bk G3=some b:=by
    intro b c2 z' q e;obtain⟨_,⟨e2,_⟩|⟨b',e2,e3,_⟩⟩:=hg
    ·rw[e]at e2;cases e2
    ·rw[e]at e2;cases e2;exact⟨e3,by rw[e];rfl⟩
   refine bG.tz (nx0:=nx0) rfl rfl (hg.vX (λb hb k9=>by rw[ak,aw V,ak,aw V]) (cE _)) (dL Rd.self rfl) V V rfl (by unfold small;omega) (by unfold small;omega) ?_;intro H3 hr3 SK;have hp3:ah H3 (at_ pb)=some (.cells [G3,s3]):=by rw[SK pb V (λc z' q e=>by have:=(cG pb c z' q e).1;omega),ak,aw V,ak,aJ rfl];rfl
   repeat' (first|refine aE ?_|fail)
   have Wx:(us++kept (ls.take k)++[Value.slice (some ⟨d,o,some 1⟩) n c']).length=(us++kept (ls.take k)).length+1:=by rw[cm];rfl
   refine⟨k+1,V,.cons rfl aX,V,V,_,⟨s3,_,_,aj,?_,de,V,CN,V⟩,λb hb=>?_,λb hb k9 MP=>?_⟩
   ·rw[zy,Wx];exact⟨by rw[Wx];omega,.inr ⟨aQ+1,rfl,V,V,by rw[ak,aw V];exact hr3⟩⟩
   ·cases hb;exact .inr V
   ·rw[ak,aw k9,SK b V (λc z' q e=>by
     rcases dS b (cG b c z' q e).2 with h5|h5
     ·exact MP h5
     ·omega),ak,aw V,ak,aw k9]
    exact hfr b hb k9 MP
 ·have bQ:k=ls.length:=V;subst bQ;rw[iJ]at hg;exact jU (vs:=[]) rfl ⟨cH,G3,⟨sv,a,s,aai,hg,hsv,V,CN,yz⟩,dS,hfr⟩
theorem o7.xz{lo b:Nat}{u:Value}{l:List Int}(h:o7 H lo nx b u l)(hl:l.length<=600):DM u:=by
 rcases h with⟨e,_⟩|⟨d,c,rfl,g1,g2,g3,_⟩
 ·exact .inl e
 ·exact .inr ⟨d,0,l.length,c,rfl,g1,hl,g2,g3⟩
theorem GN.xz{lo:Nat}{u:Value}{l:List Int}(h:GN H lo nx u l)(hl:l.length<=600):DM u:=by
 rcases h with⟨e,_⟩|⟨d,rfl,g1,_⟩
 ·exact .inl e
 ·exact .inr ⟨d,0,l.length,_,rfl,g1,hl,by rw[bT];exact au _,by rw[bT];omega⟩
theorem BX.QT{n:Int}{es:List Ed}{r:List (List Int)}{u v f:Nat}{l:List Nat}(h0:aH n es r=0)(D:BX es r u v f l):l.length<=es.length/\∀i j,i<j->j<l.length->l.getD i 0 / 2≠l.getD j 0 / 2:=by
 obtain⟨far,d1,d2,d3,d4⟩:=D.far h0;have key:∀i j,i<j->j<l.length->l.getD i 0 / 2≠l.getD j 0 / 2:=λi j Bh hj e=>by
  obtain⟨a1,a2,a3⟩:=d4 i V;obtain⟨b1,b2,b3⟩:=d4 j hj;have i1:=d3 i V;have i2:=d3 (i+1) V;have j1:=d3 j V;have j2:=d3 (j+1) V;rcases(show l.getD i 0=l.getD j 0\/l.getD i 0=aU (l.getD j 0) by rw[iH];omega)with c|c
  ·rw[c,b1]at a1;rw[a1]at j1;omega
  ·rw[c,b3]at a1;rw[c,cI,b1]at a3;rw[a1]at j2;rw[a3]at j1;omega
 refine⟨?_,key⟩;have Fb:((List.range l.length).map λi=>l.getD i 0 / 2).Nodup:=by
  rw[List.nodup_iff_pairwise_ne,List.pairwise_map];refine List.Pairwise.imp_of_mem (R:=λi j=>i<j) (λ{i j} _ hj Bh=>key i j Bh (wC.1 hj)) List.pairwise_lt_range
 have:=Fb.length_le_of_subset (l₂:=List.range es.length) (λx hx=>by
  obtain⟨i,hi,rfl⟩:=pg.1 hx;have:=(d4 i (wC.1 hi)).2.1;exact wC.2 V)
 simpa using this
theorem AU(E:eA A){nx0 pb B lo b c:Nat}{lv:Value}{us us2:List Value}{r:List (List Int)}(st:FL H nx0 nx pb lv us B)(hu:dK H lo nx b us2 r)(hr:∀k,(r.getD k []).length<=600)(hl:r.length<=400)(hB:B+2700*r.length<=1048576)(iF:us.length<=1000)(ng:pb<lo)(Sg:bk lv≠some b) :
  WF A 13 [.pointer (some ⟨pb,0,none⟩),.slice (some ⟨b,0,some 1⟩) r.length c] H nx λ_ H' nx'=>nx<=nx'/\∃yV,FL H' nx0 nx' pb yV (us++kept us2) (B+2700*r.length)/\(∀d,bk yV=some d->bk lv=some d\/nx<=d)/\∀d,d<nx->d≠pb->bk lv≠some d->ah H' (at_ d)=ah H (at_ d):=by
 have dS:=hu.h1;have k9:=hu.h2;have hlen:=hu.len;refine WF.enter (E.h rfl _ _ _) E.yK ?_
 repeat' (first|refine aE ?_|fail)
 refine WC.loop (α:=Nat) (λk=>[([],.pointer (some ⟨pb,0,none⟩)),(S1,.slice (some ⟨b,0,some 1⟩) r.length c),(S4,.int .i64 ((k:Nat):Int))])
  (λk H' nx'=>k<=r.length/\nx<=nx'/\∃yV,FL H' nx0 nx' pb yV (us++kept (us2.take k)) (B+2700*k)/\(∀d,bk yV=some d->bk lv=some d\/nx<=d)/\∀d,d<nx->d≠pb->bk lv≠some d->ah H' (at_ d)=ah H (at_ d)) (λk=>r.length-k)
  ?_ 0 aX ⟨bS _,au _,lv,by simpa[kept]using st,λd h=>.inl h,λ_ _ _ _=>rfl⟩
 rintro k H1 aQ ⟨hk,cH,G3,ll,aaj,jP⟩
 repeat' (first|refine aE ?_|(refine bJ ?_ ?_<;>intro h<;>(try simp only[aL]at h))|fail)
 ·have bQ:k<r.length:=V;obtain⟨u,sF,Wb,dv⟩:=hu.at bQ;have lZ:ah H1 (at_ b)=some (.cells us2):=(jP b k9 V Sg).trans hu.cells;have Wk:=Rd.own lZ;have Xy:=dv.xz (hr k);obtain⟨ua,uc,rfl⟩:=dv.form
  repeat' (first|refine aE ?_|fail)
  have bt:aq H1 (aC H1 aQ [.slice ua (r.getD k []).length uc]) aQ:=aq.refl.set (au _);have AM:pb<aQ:=by
   obtain⟨_,_,_,_,_,_,_,h5,h6⟩:=ll;omega
  have zy:(kept (us2.take k)).length<=400:=hX (Ac _ _) (by rw[iZ];omega);have Gd:=sw E.Kv E.Ku (E.h rfl) (E.h rfl) (ls:=[.slice ua (r.getD k []).length uc]) (ll.same bt (cE _)) (.pre (xs:=[Value.slice ua (r.getD k []).length uc]) (b:=aQ) (c:=2*1+1) (rest:=[]) (.inl aj) V (by show 1<=1;omega) (λ_=>rfl)) (λu hu=>by rw[fe]at hu;subst hu;exact Xy) (by show 1<=100;omega) (by show B+2700*k+2700*1<=_;omega) (λe=>by cases e;omega) (λd hd e=>by cases e;have:=(ll.blk hd).2;omega) (by rw[cm];omega);refine WO.cn rfl ?_;refine Gd.of ?_;rintro _ H2 nx2 ⟨fg,lv2,xn,aho,kH⟩
  repeat' (first|refine aE ?_|fail)
  refine⟨k+1,V,aX,V,V,lv2,?_,λd hd=>?_,λd h1 h2 h3=>?_⟩
  ·rw[M8 sF,<-jj];exact xn
  ·rcases aho d hd with h|h
   ·exact aaj d h
   ·exact .inr V
  ·rw[kH d V h2 (λe=>by
    rcases aaj d e with h|h
    ·exact h3 h
    ·omega),bt d V]
   exact jP d h1 h2 h3
 ·obtain rfl:k=r.length:=V;rw[<-hlen,iJ]at ll;rw[<-hlen];exact jU (vs:=[]) rfl ⟨cH,G3,ll,aaj,jP⟩
end
section
variable {A:aN}{H H':Heap}{nx nx':Nat}{σ:aR}{L:List Value}{Q:cw}
theorem FL.frame{nx0 pb B:Nat}{lv:Value}{us:List Value}(h:FL H nx0 nx pb lv us B)(hp:ah H' (at_ pb)=ah H (at_ pb))(hl:∀d,bk lv=some d->ah H' (at_ d)=ah H (at_ d))(hn:nx<=nx'):FL H' nx0 nx' pb lv us B:=by
 obtain⟨sv,a,s,h1,⟨h2,h3⟩,h4,h5,h6,h7⟩:=h;refine⟨sv,a,s,hp.trans h1,⟨h2,?_⟩,h4,h5,h6,V⟩;rcases h3 with h3|⟨b,rfl,g1,g2,g3⟩
 ·exact .inl h3
 ·exact .inr ⟨b,rfl,g1,V,(hl b rfl).trans g3⟩
theorem Jp{r:List (List Int)}:∀{j k:Nat},j<=k->k<=r.length->total r j<=total r k:=by
 intro j k
 induction k with
 | zero=>
   intro h _;obtain rfl:j=0:=V
   exact au _
 | succ k ih=>
  intro h hk;rcases(show j<=k\/j=k+1 by omega)with h1|rfl
  ·rw[oE V];have:=ih h1 V;omega
  ·exact au _
theorem Nj{r:List (List Int)}(k:Nat):(r.getD k []).length<=total r r.length:=by
 by_cases hk:k<r.length
 ·have h1:=Jp (r:=r) (show k+1<=r.length from hk) (au _);rw[oE hk]at h1;omega
 ·rw[aY,gx V];exact bS _
def Nk(nxb pb:Nat)(Hb:Heap)(t:Nat)(H':Heap)(nx':Nat):Prop:=
 t<=2/\nxb<=nx'/\(∀d,d<nxb->d≠pb->ah H' (at_ d)=ah Hb (at_ d))/\∃B lv us,B<=400000*t/\FL H' nxb nx' pb lv us B/\wm H' nxb nx' us/\us.length<=200*t/\∀u∈us,∀d,bk u=some d->bk lv≠some d
theorem adH(E:eA A){n e u v:Int}{nxb pb gb hbx lo b q qc:Nat}{Hb:Heap}{ev rv hv:Value}{us0:List Value}{es:List Ed}{r:List (List Int)}(hI:da n es r u v=e)(WY:e≠0)(dx:es.length<=300)(oY:r.length<=1000)(rX:∀k,(r.getD k []).length<=1000)(Z3:aH n es r=0->n<=60/\es.length<=80)(he:bL Hb pb 2 aW ev es)(hr:er Hb pb 1 aZ rv r)(JR:K0 Hb lo pb 2 aW (-7,7) hv es)(hmr:NP Hb lo pb b q qc us0 r)(G6:gb<pb)(hg:Rd Hb gb [.int .i64 n,ev])(UY:hbx<pb)(hh:Rd Hb hbx [.int .i64 n,hv])(ng:pb<nxb){t:Nat}(ht:t<2)(hF:Nk nxb pb Hb t H nx)(GO:∀σ H' nx',bD [(S1,rv),(S2,.int .i64 u),(S3,.int .i64 v),(S4,.pointer (some ⟨gb,0,none⟩)),(S9,.int .i64 e),(dQ,.pointer (some ⟨hbx,0,none⟩)),(eN,.slice (some ⟨b,0,some 1⟩) r.length (2*(r.length+1))),(jg,.pointer (some ⟨pb,0,none⟩)),(ik,.int .i64 ((t+1:Nat):Int))] σ->Nk nxb pb Hb (t+1) H' nx'->Q .normal σ H' nx') :
  WC A tB [(S1,rv),(S2,.int .i64 u),(S3,.int .i64 v),(S4,.pointer (some ⟨gb,0,none⟩)),(S9,.int .i64 e),(dQ,.pointer (some ⟨hbx,0,none⟩)),(eN,.slice (some ⟨b,0,some 1⟩) r.length (2*(r.length+1))),(jg,.pointer (some ⟨pb,0,none⟩)),(ik,.int .i64 ((t:Nat):Int))] H nx Q:=by
 obtain⟨_,sQ,hf,B,lv,us,hB,st,kp,iF,kT⟩:=hF;have bF:aq Hb H pb:=λd hd=>hf d V V
 have hh0:=bF.rd UY hh;have Nu:=bF.rd G6 hg;have Sr:=JR.frame (H':=H) (nx':=nx) (λd _ hd=>bF d hd) V;have aak:=hmr.frame (H':=H) (nx':=nx) (λd _ hd=>bF d hd) V;have MX:=Sr.sle (λ_=>rfl);have ql:=aak.FW;have cD:cR r:=⟨V,λl mR=>by
   obtain⟨i,hi,rfl⟩:=kG mR;have:=rX i;rw[aY,aM hi]at this;simp only[wB]at this;omega⟩
 have hIe:da n es r u v≠0:=by rw[hI];exact WY
 obtain⟨hd,rfl,PJ,Jd,RR⟩:=id Sr;obtain⟨eb,ec,rfl⟩:=he.form;have wT:∀d,bk lv=some d->nxb<=d/\d<nx:=λd hd=>st.blk hd
 unfold tB
 repeat' (first|refine aE ?_|(refine bJ ?_ ?_<;>intro h<;>(try simp only[aL]at h))|fail)
 ·refine WO.cn rfl ?_;refine(qg E (n:=n) (u:=u) (v:=v) MX ql cD).of ?_;rintro _ H1 aQ ⟨bt,cH,hx,-⟩;have hx:=hx hIe;rw[hI]at hx;subst hx;have hh1:=bt.rd V hh0
  repeat' (first|refine aE ?_|fail)
  refine WO.cn rfl ?_;refine(zK E (n:=n) (u:=u) (v:=v) ((MX.same bt).up cH) ((ql.same bt).up cH) cD).of ?_;rintro _ H2 nx2 ⟨bN,fg,hx,-⟩;have hx:=hx hIe;rw[hI]at hx;subst hx;have bV:=bt.trans bN cH;have hh2:=bV.rd V hh0
  repeat' (first|refine aE ?_|fail)
  refine WO.cn rfl ?_;refine(zL E (n:=n) (u:=u) (v:=v) ((MX.same bV).up V) ((ql.same bV).up V) cD Z3).of ?_;rintro _ H3 bW ⟨de,j8,hx,-⟩;have hx:=hx hIe;rw[hI]at hx;subst hx;have dZ:=bV.trans de V
  repeat' (first|refine aE ?_|fail)
  generalize re:aC (aC (aC H3 bW _) bW _) (bW+1) _=H4;have sH:aq H3 H4 bW:=by rw[<-re];exact((aq.refl.set (au _)).set (au _)).set V
  have k4:ah H4 (at_ bW)=some (.cells [.int .i64 0,.slice none 0 0]):=by rw[<-re];exact ay V aj
  have k5:ah H4 (at_ (bW+1))=some (.cells [.slice none 0 0,.slice none 0 0]):=by rw[<-re];exact aj
  clear re;have eW:=dZ.trans sH V;have Gd:=sw E.Kv E.Ku (E.h rfl) (E.h rfl) (ls:=[.slice none 0 0,.slice none 0 0]) (st.same eW (show nx<=bW+1+1 by omega)) (.pre (xs:=[Value.slice none 0 0,.slice none 0 0]) (b:=bW+1) (c:=2*2+1) (rest:=[]) (.inl k5) V (by show 2<=5 / 2;decide) (λ_=>rfl)) (λu hu=>by
   simp only[dT,Hd,or_false]at hu;rcases hu with rfl|rfl
   ·exact .inl rfl
   ·exact .inl rfl) (by show 2<=100;omega) (by show B+2700*2<=_;omega) (λe=>by cases e;omega) (λd hd e=>by cases e;have:=(wT _ hd).2;omega) V
  refine WO.cn rfl ?_;refine Gd.of ?_;clear Gd;rintro _ H5 fy ⟨wj,lv5,NJ,Ss,vt⟩;have CI:us++kept [Value.slice none 0 0,.slice none 0 0]=us:=by show us++[]=us;rw[gN]
  rw[CI]at NJ;have adI:∀d,d<nx->d≠pb->bk lv≠some d->ah H5 (at_ d)=ah H (at_ d):=λd h1 h2 h3=>(vt d V h2 h3).trans (eW d h1)
  have Nl:aq Hb H5 pb:=λd hd=>(adI d V V (λe=>by have:=(wT d e).1;omega)).trans (bF d hd)
  have k45:=(vt bW V V (λe=>by have:=(wT bW e).2;omega)).trans k4
  repeat' (first|refine aE ?_|fail)
  refine WO.cn rfl ?_;refine(AS E rfl).of ?_;rintro _ H6 DF ⟨e1,e2⟩;rw[e1,e2];have hhA:=Nl.rd V hh;have hgA:=Nl.rd V hg
  repeat' (first|refine aE ?_|fail)
  refine WO.cn rfl ?_;refine(zD E (n:=n) (JR.frame (H':=H5) (nx':=fy) (λd _ hd=>Nl d hd) V) ((he.same Nl).up V) V).of ?_;rintro _ H7 j9 ⟨k7,Dz,rfl⟩;have DN:aq Hb H7 pb:=Nl.trans (k7.low V) (au _);have k47:=(k7 bW V).trans k45
  repeat' (first|refine aE ?_|fail)
  refine WO.cn rfl ?_;refine(zE E (hmr.frame (H':=H7) (nx':=j9) (λd _ hd=>DN d hd) V) ((hr.same DN).up V) V (λk=>by have:=rX k;omega)).of ?_;rintro _ H8 RP ⟨e3,e4,rfl⟩;rw[e3,e4];have q47:=Rd.own k47
  repeat' (first|refine aE ?_|(refine bJ ?_ ?_<;>intro h<;>(try simp only[aL]at h))|fail)
  all_goals try (exfalso;omega)
  have adJ:∀d,d<nx->d≠pb->bk lv≠some d->ah H7 (at_ d)=ah H (at_ d):=λd h1 h2 h3=>(k7 d V).trans (adI d h1 h2 h3)
  refine GO _ _ _ aX ⟨V,V,λd h1 h2=>(adJ d V h2 (λe=>by have:=(wT d e).1;omega)).trans (hf d h1 h2),B+2700*2,lv5,us,V,NJ.same k7 Dz,kp.frame (λu hu d hd=>adJ d (kp.blk hu hd).2 (by have:=(kp.blk hu hd).1;omega) (kT u hu d hd)) V,V,λu hu d hd e=>?_⟩;rcases Ss d e with h|h
  ·exact kT u hu d hd h
  ·have:=(kp.blk hu hd).2;omega
 ·omega
end
section
variable {A:aN}{H H':Heap}{nx nx':Nat}{σ:aR}{L:List Value}{Q:cw}
theorem GN.kpt{lo:Nat}{u:Value}{l:List Int}(h:GN H lo nx u l)(hl:l.length<=4000):wm H lo nx (kept [u]):=by
 rcases h with⟨rfl,_⟩|⟨d,rfl,g1,g2,g3,g4⟩
 ·exact .nil
 ·refine⟨λw hw=>?_,?_⟩
  ·have:w=.slice (some ⟨d,0,some 1⟩) l.length (2*l.length):=fe.1 hw;subst this;exact⟨d,_,mi l,by rw[mY],g4,by rw[mY];exact hl,g2,g3⟩
  ·show List.Pairwise _ [_];exact List.pairwise_singleton _ _
theorem wm.ahp{lo b:Nat}{us us2:List Value}{wv:Value}(h:wm H lo nx (kept [wv]))(h':wm H lo nx (kept us2))(ho:SJ b us2 wv)(sB:us=us2):wm H lo nx (kept [wv]++kept us2):=by
 subst sB;refine⟨λu hu=>?_,List.pairwise_append.2 ⟨h.inj,h'.inj,λu hu w hw d hd Hn=>?_⟩⟩
 ·rcases ee.1 hu with hu|hu
  ·exact h.row u hu
  ·exact h'.row u hu
 ·have sF:u=wv:=fe.1 (rC.1 hu).1;subst sF;obtain⟨i,hi,he⟩:=kG (rC.1 hw).1;exact(ho d hd).2 i w (by rw[aM hi,he]) Hn
theorem zN(a b:Value):kept [a,b]=kept [a]++kept [b]:=by unfold kept;rw[<-List.filter_append];rfl
theorem adK(E:eA A){n u v:Int}{nxb pb gb hbx lo b q qc:Nat}{Hb:Heap}{ev rv hv:Value}{us0:List Value}{es:List Ed}{r:List (List Int)}(hI:da n es r u v=0)(ahq:n<=60)(dx:es.length<=80)(rX:∀k,(r.getD k []).length<=1000)(he:bL Hb pb 2 aW ev es)(hr:er Hb pb 1 aZ rv r)(JR:K0 Hb lo pb 2 aW (-7,7) hv es)(hmr:NP Hb lo pb b q qc us0 r)(G6:gb<pb)(hg:Rd Hb gb [.int .i64 n,ev])(UY:hbx<pb)(hh:Rd Hb hbx [.int .i64 n,hv])(ng:pb<nxb){t:Nat}(ht:t<2)(hF:Nk nxb pb Hb t H nx)(GO:∀σ H' nx',bD [(S1,rv),(S2,.int .i64 u),(S3,.int .i64 v),(S4,.pointer (some ⟨gb,0,none⟩)),(S9,.int .i64 0),(dQ,.pointer (some ⟨hbx,0,none⟩)),(eN,.slice (some ⟨b,0,some 1⟩) r.length (2*(r.length+1))),(jg,.pointer (some ⟨pb,0,none⟩)),(ik,.int .i64 ((t+1:Nat):Int))] σ->Nk nxb pb Hb (t+1) H' nx'->Q .normal σ H' nx') :
  WC A tB [(S1,rv),(S2,.int .i64 u),(S3,.int .i64 v),(S4,.pointer (some ⟨gb,0,none⟩)),(S9,.int .i64 0),(dQ,.pointer (some ⟨hbx,0,none⟩)),(eN,.slice (some ⟨b,0,some 1⟩) r.length (2*(r.length+1))),(jg,.pointer (some ⟨pb,0,none⟩)),(ik,.int .i64 ((t:Nat):Int))] H nx Q:=by
 obtain⟨h0,hp,u0,u1,v0,v1,pY,tR⟩:=qP hI;obtain⟨hm,oY,_⟩:=bR h0;have wZ:=hm.1;obtain⟨m,rfl⟩:=Int.eq_ofNat_of_zero_le wZ;obtain⟨u',rfl⟩:=Int.eq_ofNat_of_zero_le u0;obtain⟨v',rfl⟩:=Int.eq_ofNat_of_zero_le v0;rw[eE,eE]at tR;have UN:u'<m:=V;have y7:v'<m:=V;have Vj:u'≠v':=V;have JU:r.length=m:=V;have cD:=cC h0;obtain⟨_,sQ,hf,B,lv,us,hB,st,kp,iF,kT⟩:=hF;have bF:aq Hb H pb:=λd hd=>hf d V V
 have hh0:=bF.rd UY hh;have Nu:=bF.rd G6 hg;have Sr:=JR.frame (H':=H) (nx':=nx) (λd _ hd=>bF d hd) V;have aak:=hmr.frame (H':=H) (nx':=nx) (λd _ hd=>bF d hd) V;have MX:=Sr.sle (λ_=>rfl);have ql:=aak.FW;obtain⟨hd,rfl,PJ,Jd,RR⟩:=id Sr;obtain⟨eb0,ec0,rfl⟩:=he.form;have wT:∀d,bk lv=some d->nxb<=d/\d<nx:=λd hd=>st.blk hd
 unfold tB
 repeat' (first|refine aE ?_|(refine bJ ?_ ?_<;>intro h<;>(try simp only[aL]at h))|fail)
 rotate_left
 ·omega
 refine WO.cn rfl ?_;refine(qg E (n:=(m:Int)) (u:=(u':Int)) (v:=(v':Int)) MX ql cD).of ?_;rintro _ H1 aQ ⟨bt,cH,-,hx⟩;obtain⟨u1',v1',f,l,rl,eu,ev1,hD,rfl,NG⟩:=hx hI;obtain rfl:u'=u1':=V;obtain rfl:v'=v1':=V;clear eu ev1 hx;obtain⟨hlk,aiJ⟩:=hD.QT h0;have hh1:=bt.rd V hh0
 repeat' (first|refine aE ?_|fail)
 refine WO.cn rfl ?_;refine(zK E (n:=(m:Int)) (u:=(u':Int)) (v:=(v':Int)) ((MX.same bt).up cH) ((ql.same bt).up cH) cD).of ?_;rintro _ H2 nx2 ⟨bN,fg,-,hx⟩;obtain⟨u2',v2',f2,l2,eu,ev2,hD2,rfl⟩:=hx hI;obtain rfl:u'=u2':=V;obtain rfl:v'=v2':=V;obtain⟨-,rfl⟩:=hD.one h0 hD2;clear eu ev2 hx hD2;have bV:=bt.trans bN cH;have hh2:=bV.rd V hh0
 repeat' (first|refine aE ?_|fail)
 refine WO.cn rfl ?_;refine(zL E (n:=(m:Int)) (u:=(u':Int)) (v:=(v':Int)) ((MX.same bV).up V) ((ql.same bV).up V) cD (λ_=>⟨ahq,dx⟩)).of ?_;rintro _ H3 bW ⟨de,j8,-,hx⟩;obtain⟨m3,u3',v3',f3,l3,ys,ev3,b3,c3,G8,wv,em,eu,ahr,hD3,Y,dS,k9,rfl,GF,q8,DJ,R9,aal,hwe,RZ⟩:=hx hI;obtain rfl:m=m3:=V;obtain rfl:u'=u3':=V;obtain rfl:v'=v3':=V;obtain⟨rfl,rfl⟩:=hD.one h0 hD3;clear em eu ahr hx hD3;have dZ:=bV.trans de V;obtain⟨eb,ec,rfl,U2,ZO,RX,DG⟩:=id GF;have C:=mL h0 hD UN y7 Vj Y dS k9;have CK:=C.at (l.length+1) (au _);have AJ:aH ((m+l.length:Nat):Int) (ss m es r u' v' l ys).1 (ss m es r u' v' l ys).2=0:=CK.zi;have hTl:(ss m es r u' v' l ys).1.length=es.length+l.length+(l.length+1)/\(ss m es r u' v' l ys).2.length=r.length+l.length:=by
  unfold ss;rw[(lV _ _ _ _).1,(lV _ _ _ _).2,(jy _ _ _ _ _).1,(jy _ _ _ _ _).2];exact⟨rfl,rfl⟩
 have aam:∀zs,Ys es r f l zs->ss m es r u' v' l zs=ss m es r u' v' l ys:=λzs Z=>Ja h0 hD UN y7 Vj Y Z dS k9 _ (au _)
 have K4:∀k,((ss m es r u' v' l ys).2.getD k []).length<=600:=λk=>by
  have:=jw AJ k;omega
 generalize hT:ss m es r u' v' l ys=T at *
 obtain⟨ES,R⟩:=T;simp only at GF DJ AJ hTl K4 U2 DG ⊢;obtain⟨hEl,NL⟩:=hTl;have gg:(aT (l.map (· / 2))).length=l.length:=by rw[bK,ja]
 have vf:(aT (gj (es.length+l.length) (l.length+1))).length=l.length+1:=by rw[bK,zI]
 obtain⟨rla,rlc,rfl⟩:=NG.form;obtain⟨Wy,Wz,rfl⟩:=RZ.form;have pI:∀d,bk (.slice rla (aT (l.map (· / 2))).length rlc)=some d->nx<=d/\d<aQ:=λd hd=>NG.blk hd
 have MA:∀d,bk (.slice Wy (aT (gj (es.length+l.length) (l.length+1))).length Wz)=some d->nx2<=d/\d<bW:=λd hd=>RZ.blk hd
 repeat' (first|refine aE ?_|fail)
 generalize re:aC (aC (aC H3 bW _) bW _) (bW+1) _=H4;have sH:aq H3 H4 bW:=by rw[<-re];exact((aq.refl.set (au _)).set (au _)).set V
 have k4:ah H4 (at_ bW)=some (.cells [.int .i64 ((m+l.length:Nat):Int),.slice (some ⟨eb,0,some 2⟩) ES.length ec]):=by rw[<-re];exact ay V aj
 have k5:ah H4 (at_ (bW+1))=some (.cells [.slice rla (aT (l.map (· / 2))).length rlc,.slice Wy (aT (gj (es.length+l.length) (l.length+1))).length Wz]):=by rw[<-re];exact aj
 clear re;have eW:=dZ.trans sH V;have Gd:=sw E.Kv E.Ku (E.h rfl) (E.h rfl) (ls:=[.slice rla (aT (l.map (· / 2))).length rlc,.slice Wy (aT (gj (es.length+l.length) (l.length+1))).length Wz]) (st.same eW (show nx<=bW+1+1 by omega)) (.pre (xs:=[Value.slice rla (aT (l.map (· / 2))).length rlc,.slice Wy (aT (gj (es.length+l.length) (l.length+1))).length Wz]) (b:=bW+1) (c:=2*2+1) (rest:=[]) (.inl k5) V (by show 2<=5 / 2;decide) (λ_=>rfl)) (λx hx=>by
   simp only[dT,Hd,or_false]at hx;rcases hx with rfl|rfl
   ·exact GN.xz NG V
   ·exact GN.xz RZ V) (by show 2<=100;omega) (by show B+2700*2<=_;omega) (λe=>by cases e;omega) (λd hd e=>by cases e;have:=(wT _ hd).2;omega) V
 refine WO.cn rfl ?_;refine Gd.of ?_;clear Gd;rintro _ H5 fy ⟨wj,lv5,NJ,Ss,vt⟩;have Nl:aq Hb H5 pb:=λd hd=>by
  rw[vt d V V (λe=>by have:=(wT d e).1;omega),eW d V];exact bF d hd
 have adL:∀d,nx<=d->d<bW+1+1->ah H5 (at_ d)=ah H4 (at_ d):=λd h1 h2=>vt d h2 V (λe=>by have:=(wT d e).2;omega)
 have ahL:∀d,bk lv5=some d->d<fy:=λd hd=>(NJ.blk hd).2
 have WA:∀d,nx<=d->d<bW+1+1->bk lv5≠some d:=λd h1 h2 e=>by
  rcases Ss d e with h|h
  ·have:=(wT d h).2;omega
  ·omega
 have hu5:=DJ.frame (H':=H5) (nx':=fy) (λd h1 h2=>(adL d V V).trans (sH d h2)) V;have Gd:=AU E (c:=c3) (lo:=nx2) (b:=b3) (us2:=G8) (r:=R) NJ hu5 K4 V (by show B+2700*2+2700*R.length<=_;omega) (by rw[cm];have:(kept [Value.slice rla (aT (l.map (· / 2))).length rlc,.slice Wy (aT (gj (es.length+l.length) (l.length+1))).length Wz]).length<=2:=Ac _ _;omega) V (WA b3 (by have:=DJ.h1;omega) (by have:=DJ.h2;omega));rw[NL]at Gd
 repeat' (first|refine aE ?_|fail)
 refine WO.cn rfl ?_;refine Gd.of ?_;clear Gd;rintro _ H6 DF ⟨Wn,lv6,st6,ahs,Z4⟩;have GQ:∀d,bk lv6=some d->(nxb<=d/\d<nx/\bk lv=some d)\/bW+1+1<=d:=λd hd=>by
  rcases ahs d hd with h|h
  ·rcases Ss d h with h'|h'
   ·have:=wT d h';exact .inl ⟨this.1,this.2,h'⟩
   ·exact .inr h'
  ·exact .inr V
 have adM:∀d,nx<=d->d<bW+1+1->ah H6 (at_ d)=ah H4 (at_ d):=λd h1 h2=>(Z4 d V V (WA d h1 h2)).trans (adL d h1 h2)
 have aan:∀d,d<nx->d≠pb->bk lv≠some d->ah H6 (at_ d)=ah H (at_ d):=λd h1 h2 h3=>by
  rw[Z4 d V h2 (λe=>by
   rcases Ss d e with h|h
   ·exact h3 h
   ·omega),vt d V h2 h3]
  exact eW d h1
 have Su:aq Hb H6 pb:=λd hd=>(aan d V V (λe=>by have:=(wT d e).1;omega)).trans (bF d hd)
 have k46:=(adM bW V V).trans k4;have hhA:=Su.rd V hh;have hgA:=Su.rd V hg
 repeat' (first|refine aE ?_|fail)
 refine WO.cn rfl ?_;refine(zD E (n:=(m:Int)) (JR.frame (H':=H6) (nx':=DF) (λd _ hd=>Su d hd) V) ((he.same Su).up V) V).of ?_;rintro _ H7 j9 ⟨k7,Dz,rfl⟩;have DN:aq Hb H7 pb:=Su.trans (k7.low V) (au _);have hgB:=DN.rd V hg
 repeat' (first|refine aE ?_|fail)
 refine WO.cn rfl ?_;refine(zE E (hmr.frame (H':=H7) (nx':=j9) (λd _ hd=>DN d hd) V) ((hr.same DN).up V) V (λk=>by have:=rX k;omega)).of ?_;rintro _ H7' aht ⟨e3,e4,rfl⟩;rw[e3,e4];clear e3 e4 H7' aht
 repeat' (first|refine aE ?_|(refine bJ ?_ ?_<;>intro h<;>(try simp only[aL]at h))|fail)
 all_goals try (exfalso;omega)
 refine WO.cn rfl ?_;refine(wo E h0 ((he.same DN).up (show pb<=j9 by omega)) ((hr.same DN).up V) UN y7 Vj tR).of ?_;rintro _ H8 RP ⟨DA,hn8,bv,fv,f8,l8,rfl,hD8,hbv,yh⟩;obtain⟨rfl,rfl⟩:=hD.one h0 hD8;clear hD8 yh;have aao:=DN.trans DA V;have hgC:=aao.rd V hg
 repeat' (first|refine aE ?_|fail)
 refine WO.cn rfl ?_;refine(GP E h0 ((he.same aao).up (show pb<=RP by omega)) ((hr.same aao).up V) UN y7 Vj tR V dx).of ?_;rintro _ H9 uq ⟨Gp,hn9,f9,l9,zs,ev9,tv9,wv9,hD9,Z,rfl,Vk,Vm,adN⟩;obtain⟨rfl,rfl⟩:=hD.one h0 hD9;rw[aam zs Z]at Vk Vm;simp only at Vk Vm;clear hD9;obtain⟨e9a,e9c,rfl⟩:=Vk.form;obtain⟨t9a,t9c,rfl⟩:=Vm.form;obtain⟨w9a,w9c,rfl⟩:=adN.form;obtain⟨bva,bvc,rfl⟩:=hbv.form;have ahu:aq H7 H9 j9:=DA.trans Gp hn8;have Zw:aq H6 H9 DF:=(k7.low (au _)).trans ahu Dz
 repeat' (first|refine aE ?_|(refine bJ ?_ ?_<;>intro h<;>(try simp only[aL]at h))|fail)
 all_goals try (exfalso;omega)
 generalize aap:aC (aC H9 uq _) uq _=DS;have Sv:aq H9 DS uq:=by rw[<-aap];exact(aq.refl.set (au _)).set (au _)
 have k10:ah DS (at_ uq)=some (.cells [.int .i64 ((m+l.length:Nat):Int),.slice e9a ES.length e9c]):=by rw[<-aap];exact aj
 clear aap;have WB:aq H6 DS DF:=Zw.trans Sv V;have B7:∀d,nx<=d->d<bW+1+1->ah DS (at_ d)=ah H4 (at_ d):=λd h1 h2=>(WB d V).trans (adM d h1 h2)
 have adO:=NG.frame (H':=DS) (nx':=uq+1) (λd h1 h2=>(B7 d V V).trans ((sH d V).trans ((de d V).trans (bN d h2)))) V;have adP:=RZ.frame (H':=DS) (nx':=uq+1) (λd h1 h2=>(B7 d V V).trans (sH d h2)) V;have ahv:=DJ.frame (H':=DS) (nx':=uq+1) (λd h1 h2=>(B7 d V V).trans (sH d h2)) V;have adQ:=((hbv.same Gp).same (λd hd=>Sv d V)).up (show RP<=uq+1 by omega);have adR:=(adN.same Sv).up (cE uq);have adS:=(Vk.same Sv).up (cE uq);have adT:=(Vm.same Sv).up (cE uq);have adU:bL DS (uq+1) 2 aW (.slice (some ⟨eb,0,some 2⟩) ES.length ec) ES:=.pre (rest:=[]) (.inl (by rw[gN];exact(B7 eb V V).trans ((sH eb V).trans DG))) V U2 (λ_=>rfl);have WD:=ahv.FW (c:=c3) V;have ahw:=(B7 bW V V).trans k4;rw[NL]at WD;refine WO.cn rfl ?_;refine(ve E.Kw (E.h rfl) adO.sle adQ V).of ?_;rintro _ _ _ ⟨rfl,e1,e2⟩;rw[e1,e2,fB rfl];clear e1 e2;have ahM:=Rd.own ahw;have aiK:=Rd.own k10
 repeat' (first|refine aE ?_|(refine bJ ?_ ?_<;>intro h<;>(try simp only[aL]at h))|fail)
 all_goals try (exfalso;omega)
 refine WO.cn rfl ?_;refine(zC E (n:=((m+l.length:Nat):Int)) adU adS V).of ?_;rintro _ U4 U5 ⟨DI,R2,rfl⟩;have adV:=(WD.same DI).up R2;have adW:=(adT.same DI).up R2
 repeat' (first|refine aE ?_|fail)
 refine WO.cn rfl ?_;refine(zA E adV adW V (λk=>by have:=K4 k;omega)).of ?_;rintro _ H12 R4 ⟨e5',e6',rfl⟩;rw[e5',e6'];clear e5' e6' H12 R4
 repeat' (first|refine aE ?_|fail)
 have adX:=(adP.sle.same DI).up R2;have adY:=(adR.same DI).up R2;refine WO.cn rfl ?_;refine(ve E.Kw (E.h rfl) adX adY V).of ?_;rintro _ H12 R4 ⟨e0,e1,e2⟩;rw[e0,e1,e2,fB rfl];clear e0 e1 e2 H12 R4;have WE:aq H6 U4 DF:=WB.trans DI V;have Sw:∀d,nx<=d->d<bW+1+1->ah U4 (at_ d)=ah H4 (at_ d):=λd h1 h2=>(DI d V).trans (B7 d h1 h2)
 have aiL:=Rd.own ((Sw bW V V).trans k4);have adZ:ah U4 (at_ eb)=some (.cells (ES.flatMap aW)):=(Sw eb V V).trans ((sH eb V).trans DG)
 repeat' (first|refine aE ?_|fail)
 refine WO.cn rfl ?_;refine WF.mW (E.hs _ _ _ eb ⟨_,_,_,_,rfl,adZ,by rw[iB];omega,V⟩) ?_
 repeat' (first|refine aE ?_|fail)
 have hkn:∀x∈kept G8,∀d,bk x=some d->d≠eb:=λx hx d hd e=>by
  obtain⟨i,hi,zP⟩:=kG (rC.1 hx).1;exact(R9 eb rfl).2 i x (by rw[aM hi,zP]) (by rw[hd,e])
 have kl:=(NG.kpt V).low (lo':=nx) (au _);have kw:=RZ.kpt V;have kr:=DJ.kpt (λk=>by have:=K4 k;omega);have kwr:=wm.ahp kw kr aal rfl;have aiM:(kept [Value.slice rla (aT (l.map (· / 2))).length rlc]).length<=1:=Ac _ _;have aiN:(kept [Value.slice Wy (aT (gj (es.length+l.length) (l.length+1))).length Wz]).length<=1:=Ac _ _;have aiO:(kept G8).length<=G8.length:=Ac _ _;have aiP:G8.length=R.length:=DJ.len;have ny:∀d,d<DF->d≠eb->ah (kill U4 eb) (at_ d)=ah H6 (at_ d):=λd h1 h2=>by rw[gC,aw h2];exact WE d h1
 have Hv:∀d,nx<=d->d<bW->d≠eb->ah (kill U4 eb) (at_ d)=ah H3 (at_ d):=λd h1 h2 h3=>by rw[gC,aw h3];exact(Sw d h1 V).trans (sH d h2)
 have o9:∀x∈kept [Value.slice Wy (aT (gj (es.length+l.length) (l.length+1))).length Wz],∀d,bk x=some d->d≠eb:=λx hx d hd e=>by
  have hx1:=fe.1 (rC.1 hx).1;subst hx1;exact hwe d hd (by rw[e];rfl)
 have ahx:=(st6.same WE (show DF<=U5 by omega)).frame (H':=kill U4 eb) (nx':=U5) (by rw[gC,aw (show ¬pb=eb by omega)]) (λd hd=>by
  rw[gC,aw (show ¬d=eb from λe=>by rcases GQ d hd with h|h<;>omega)]) (au _)
 refine GO _ _ _ aX ⟨V,V,λd h1 h2=>?_,B+2700*2+2700*(r.length+l.length),lv6,us++kept [Value.slice rla (aT (l.map (· / 2))).length rlc,.slice Wy (aT (gj (es.length+l.length) (l.length+1))).length Wz]++kept G8,V,ahx,?_,by rw[zN,cm,cm,cm];omega,λx hx d hd e=>?_⟩
 ·rw[ny d V V,aan d V h2 (λe=>by have:=(wT d e).1;omega)];exact hf d h1 h2
 ·rw[zN,jj,jj];refine wm.app (mid:=nx) (kp.frame (λx hx d hd=>?_) V) (wm.app (mid:=nx2) (kl.frame (λx hx d hd=>?_) V) (kwr.frame (λx hx d hd=>?_) V) V (λx hx d hd=>?_)) sQ (λx hx d hd=>(kp.blk hx hd).2)
  ·have h1:=kp.blk hx hd;rw[ny d V V];exact aan d h1.2 V (kT x hx d hd)
  ·have h1:=kl.blk hx hd;rw[Hv d h1.1 V V,de d V];exact bN d h1.2
  ·have h1:=kwr.blk hx hd;refine Hv d V h1.2 ?_;rcases ee.1 hx with h|h
   ·exact o9 x h d hd
   ·exact hkn x h d hd
  ·have:=(kl.blk hx hd).2;omega
 ·rcases ee.1 hx with hx|hx
  ·rcases ee.1 hx with hx|hx
   ·have h1:=kp.blk hx hd;rcases GQ d e with h|h
    ·exact kT x hx d hd h.2.2
    ·omega
   ·rw[zN]at hx;rcases ee.1 hx with hx|hx
    ·have h1:=kl.blk hx hd;rcases GQ d e with h|h<;>omega
    ·have h1:=kw.blk hx hd;rcases GQ d e with h|h<;>omega
  ·have h1:=kr.blk hx hd;rcases GQ d e with h|h<;>omega
end
section
variable {A:aN}{H H':Heap}{nx nx':Nat}{σ:aR}{L:List Value}{Q:cw}
theorem K0.low{α:Type}{lo lo' z:Nat}{enc:α->List Value}{x:α}{v:Value}{xs:List α}(h:K0 H lo nx z enc x v xs)(hl:lo'<=lo):K0 H lo' nx z enc x v xs:=by
 obtain⟨d,rfl,h1,h2,h3⟩:=h;exact⟨d,rfl,V,h2,h3⟩
theorem NP.low{lo lo' b q qc:Nat}{us:List Value}{r:List (List Int)}(h:NP H lo nx b q qc us r)(hl:lo'<=lo):NP H lo' nx b q qc us r:=
 ⟨hX hl h.b1,h.b2,hX hl h.q1,h.q2,h.cells,h.mark,h.len,λi u l hu mR=>(h.row i u l hu mR).low hl⟩
theorem wm.ap{lo pb nx0 B:Nat}{lv:Value}{us:List Value}(h:wm H lo nx us)(st:FL H nx0 nx pb lv us B)(hp:pb<lo)(iF:us.length<=100000)(kT:∀u∈us,∀d,bk u=some d->bk lv≠some d):FD [.pointer (some ⟨pb,0,none⟩)] H nx:=by
 obtain⟨sv,a,s,h1,h2,h3,h4,h5,h6⟩:=st;refine⟨pb,lv,sv,nx0,us,rfl,h1,h2,h5,h6,iF,λi u hu=>?_,λi j u w hu hw he=>?_⟩
 ·have hm:=dM hu;obtain⟨d,c,cs,rfl,g1,g2,g3,g4⟩:=h.row u hm;exact⟨d,0,cs.length,c,cs,rfl,g1,V,g2,g4,V,kT _ hm d rfl⟩
 ·obtain⟨d,c,cs,hue,_⟩:=h.row u (dM hu);have hd:bk u=some d:=by rw[hue];rfl
  obtain⟨hi,rfl⟩:=cS.1 hu;obtain⟨hj,rfl⟩:=cS.1 hw;have G0:=List.pairwise_iff_getElem.1 h.inj;rcases Nat.lt_trichotomy i j with h7|h7|h7
  ·exact absurd (he.symm.trans hd) (G0 i j hi hj h7 d hd)
  ·exact h7
  ·exact absurd hd (G0 j i hj hi h7 d (he.symm.trans hd))
open Classical in
theorem IA(E:eA A){n u v:Int}{ev rv:Value}{es:List Ed}{r:List (List Int)}(he:bL H nx 2 aW ev es)(hr:er H nx 1 aZ rv r)(cD:cR r) :
  WF A 3 [.agg #[.int .i64 n,ev],rv,.int .i64 u,.int .i64 v] H nx λx _ _=>x=.bool true:=by
 obtain⟨base,ec,rfl⟩:=he.form;obtain⟨rb,rc,rfl⟩:=hr.form;refine WF.enter (E.h rfl _ _ _) E.Qo ?_;have bF:aq H (aC H nx [.int .i64 n,.slice base es.length ec]) nx:=aq.refl.set (au _);have g0:Rd (aC H nx [.int .i64 n,.slice base es.length ec]) nx [.int .i64 n,.slice base es.length ec]:=Rd.self
 repeat' (first|refine aE ?_|fail)
 refine WO.cn rfl ?_;refine WF.mW (E.hb _ _) ?_
 repeat' (first|refine aE ?_|fail)
 refine WO.cn rfl ?_;refine(DC E (n:=n) ((he.same bF).up (show nx<=nx+1 by omega)) ((hr.same bF).up V) cD).of ?_;rintro _ H1 aQ ⟨rfl,bt,cH⟩;have bu:=bF.trans bt V;have g1:=bt.rd V g0;by_cases hL:M7 n es r
 rotate_left 1
 ·rw[im hL]
  repeat' (first|refine aE ?_|fail)
  exact aD (vs:=[_]) rfl rfl
 rw[fB hL];obtain⟨⟨⟨dx,_⟩,_,Jj⟩,MI⟩:=hL;have dv:∀k,(r.getD k []).length<=1000:=λk=>by have:=Nj (r:=r) k;omega
 have Jo:aH n es r=0->n<=60/\es.length<=80:=λh=>MI.resolve_left (λh2=>h2 (bR h).1)
 repeat' (first|refine aE ?_|fail)
 refine WO.cn rfl ?_;refine(GH E (n:=n) (u:=u) (v:=v) ((he.same bu).up (show nx<=aQ by omega)) ((hr.same bu).up V) cD).of ?_;rintro _ H2 nx2 ⟨bN,fg,rfl⟩;have bV:=bu.trans bN V;have g2:=bN.rd V g1
 repeat' (first|refine aE ?_|fail)
 refine WO.cn rfl ?_;refine(Jc E (n:=n) ((he.same bV).up (show nx<=nx2 by omega)) V).of ?_;rintro _ H3 bW ⟨de,j8,hv,rfl,ad0⟩;have dZ:=bV.trans de V;have g3:=de.rd V g2;refine WO.cn rfl ?_;refine(Je E ((hr.same dZ).up (show nx<=bW by omega)) V (λk=>by have:=dv k;omega)).of ?_;rintro _ H4 dA ⟨fA,oO,b,q,qc,us0,rfl,ad1⟩;have eW:=dZ.trans fA V;have g4:=fA.rd V g3;have aaq:=ad0.frame (H':=H4) (nx':=dA) (λd _ hd=>fA d hd) oO;obtain⟨hd,rfl,PJ,Jd,RR⟩:=id aaq;generalize hpe:da n es r u v=e
 repeat' (first|refine aE ?_|fail)
 have Nm:aq H4 (aC (aC (aC H4 dA [.int .i64 0,.slice none 0 0]) dA [.int .i64 n,.slice (some ⟨hd,0,some 2⟩) es.length (2*(es.length+1))]) (dA+1) [.slice none 0 0,.int .i64 0]) dA:=((aq.refl.set (au _)).set (au _)).set V;have iy:Rd (aC (aC (aC H4 dA [.int .i64 0,.slice none 0 0]) dA [.int .i64 n,.slice (some ⟨hd,0,some 2⟩) es.length (2*(es.length+1))]) (dA+1) [.slice none 0 0,.int .i64 0]) dA [.int .i64 n,.slice (some ⟨hd,0,some 2⟩) es.length (2*(es.length+1))]:=Rd.skip V Rd.self;have hpp:ah (aC (aC (aC H4 dA [.int .i64 0,.slice none 0 0]) dA [.int .i64 n,.slice (some ⟨hd,0,some 2⟩) es.length (2*(es.length+1))]) (dA+1) [.slice none 0 0,.int .i64 0]) (at_ (dA+1))=some (.cells [.slice none 0 0,.int .i64 0]):=aj;have gb:=Nm.rd V g4;have Wu:=(he.same (eW.trans Nm V)).up (show nx<=dA+1 by omega);have uh:=(hr.same (eW.trans Nm V)).up (show nx<=dA+1 by omega);have aar:=(aaq.frame (nx':=dA+1) (λd _ hd=>Nm d hd) V).low (lo':=nx2) (au _);have aas:=(ad1.frame (nx':=dA+1) (λd _ hd=>Nm d hd) V).low (lo':=nx2) j8;clear g0 g1 g2 g3 g4 bF bt bu bN bV de dZ fA eW ad0 aaq ad1 he hr Nm;obtain⟨Hb,hHb⟩:∃Hb,Hb=aC (aC (aC H4 dA [.int .i64 0,.slice none 0 0]) dA [.int .i64 n,.slice (some ⟨hd,0,some 2⟩) es.length (2*(es.length+1))]) (dA+1) [.slice none 0 0,.int .i64 0]:=⟨_,rfl⟩;rw[<-hHb]at iy hpp gb Wu uh aar aas;have bO:FL Hb (dA+1+1) (dA+1+1) (dA+1) (.slice none 0 0) [] 0:=⟨.int .i64 0,0,0,hpp,.nil,rfl,au _,V,au _⟩;have hF0:Nk (dA+1+1) (dA+1) Hb 0 Hb (dA+1+1):=⟨V,au _,λ_ _ _=>rfl,0,_,[],V,bO,.nil,bS _,λu hu=>by cases hu⟩;refine WC.loop (α:=Nat) (λt=>[(S1,.slice rb r.length rc),(S2,.int .i64 u),(S3,.int .i64 v),(S4,.pointer (some ⟨nx,0,none⟩)),(S9,.int .i64 e),(dQ,.pointer (some ⟨dA,0,none⟩)),(eN,.slice (some ⟨b,0,some 1⟩) r.length (2*(r.length+1))),(jg,.pointer (some ⟨dA+1,0,none⟩)),(ik,.int .i64 ((t:Nat):Int))])
  (λt H' nx'=>Nk (dA+1+1) (dA+1) Hb t H' nx') (λt=>2-t)
  ?_ 0 aX (by rw[hHb]at hF0 ⊢;exact hF0)
 intro t H' nx' hF;by_cases ht:t<2
 ·by_cases h0:e=0
  ·subst h0;have HL:=(qP hpe).1;exact adK E (gb:=nx) (hbx:=dA) (pb:=dA+1) (nxb:=dA+1+1) hpe (Jo HL).1 (Jo HL).2 dv Wu uh aar aas V gb V iy V ht hF (λσ H2 nx2 hσ hF2=>⟨t+1,V,hσ,hF2⟩)
  ·exact adH E (gb:=nx) (hbx:=dA) (pb:=dA+1) (nxb:=dA+1+1) hpe h0 dx V dv Jo Wu uh aar aas V gb V iy V ht hF (λσ H2 nx2 hσ hF2=>⟨t+1,V,hσ,hF2⟩)
 ·obtain⟨DO,sQ,_,B,lv,us,_,st,kp,iF,kT⟩:=hF;have h2:t=2:=V;subst h2
  repeat' (first|refine aE ?_|(refine bJ ?_ ?_<;>intro h<;>(try simp only[aL]at h))|fail)
  ·omega
  refine WO.cn rfl ?_;refine WF.mW (E.ha _ _ _ (kp.ap st V V kT)) ?_
  repeat' (first|refine aE ?_|fail)
  exact aD (vs:=[_]) rfl rfl
end
end Go.Eng
