import Derived.Test.YthbaplapbfbnoaaGreatWe
/- Walks over the program: part 6. -/

set_option maxRecDepth 100000
set_option maxHeartbeats 1000000
namespace Go.Eng
section
variable {A:aN}{H H':Heap}{nx nx':Nat}{σ:aR}{L:List Value}{Q:cw}{P:Program}{ins:List Nat}
theorem dX.RS(hA:GR P ins A){g:FuncId}{vs:List Value}(qU:fI P g)(h:∀(ρ:bY) (us:List Value) (w:World),dJ ρ vs us->HR ρ H nx w.heap->∃GZ H2,dJ ρ GZ us/\HR ρ H2 nx w.heap/\(∀k,mf ρ H2 k->mf ρ H k)/\WF A g GZ H2 nx λv' _ _=>v'=.tuple #[]):dX P g vs H nx (.ok (.tuple #[]) .e nx):=by
 refine⟨qU,au _,λρ us w mS hH=>?_⟩;obtain⟨GZ,H2,g1,g2,g3,g4⟩:=h ρ us w mS hH;obtain⟨m,v',H',nx',fT,rfl⟩:=g4.out;refine(((CO hA m).1 g GZ H2 _ _ fT).2 ρ us w g1 g2).mono λe w' hr=>?_
 obtain⟨u,ρ',q1,q2,q3⟩:=hr;refine⟨u,ρ,q1,?_,⟨⟨(λb k hb=>by cases hb),(λb b' k k' s s' hb=>by cases hb),hH.new⟩,⟨.refl ρ,(λk hk=>by obtain⟨b,x,r,hb,_⟩:=hk;cases hb),(λb x hb=>by cases hb),(λk hk hn=>q3.iw.frame k hk λho=>hn (g3 k ho)),q3.iw.size,q3.iw.os,q3.iw.tape,q3.iw.output⟩,au _,λ_ _=>rfl⟩⟩;have:u=.tuple #[]:=by
  generalize hq:Value.tuple #[]=t at q2;cases q2 with
  | sc hs=>rw[<-hq]at hs;try cases hs
  | @tuple vs us mS=>
   have h0:vs=[]:=by
    have:=Value.tuple.inj hq;exact(congrArg Array.toList this).symm
   subst h0;cases mS;rfl
  | _=>cases hq
 rw[this];exact VR.undef
theorem Jf{g:FuncId}(hf:A.funcs g=some Qj)(h41:A.funcs 38=some tF)(hh:zhN A g)(ZA:zhN A 38){b l c:Nat}{n:Value}{cs:List Value}(hb:ah H (at_ b)=some (.cells cs))(o9:b<nx)(oG:cs.length=2*l)(hl:l<=4000)(hlc:l<=c)(hc:c<=ft) :
  WF A g [.agg #[n,.slice (some ⟨b,0,some 2⟩) l (2*c+1)]] H nx λv _ _=>v=.tuple #[]:=by
 have hcm:c<=9223372036854775807:=hc;have hso:=bU c;refine WF.enter (hh _ _ _) hf ?_
 repeat' (first|refine aE ?_|fail)
 refine WO.n rfl ?_;refine bG.of (Act.Xz rfl (u3 c)) ?_;rw[hso];refine WO.cn rfl ?_;refine(yO h41 ZA (n:=l) (c:=c) V).of ?_;rintro _ H1 aQ ⟨e1,e2,rfl⟩;rw[e1,e2]
 repeat' (first|refine aE ?_|fail)
 refine WC.loop (α:=Nat) (λ_=>[(S1,.pointer (some ⟨nx,0,none⟩)),(S2,.int .i64 ((min c (l+2000):Nat):Int))])
  (λk H' nx'=>l+k<=min c (l+2000)/\nx+1<=nx'/\ah H' (at_ nx)=some (.cells [n,.slice (some ⟨b,0,some 2⟩) (l+k) (2*c+1)])/\∃cs',ah H' (at_ b)=some (.cells cs')/\cs'.length=2*(l+k)) (λk=>min c (l+2000)-(l+k))
  ?_ 0 aX ⟨V,au _,aj,cs,ay V hb,oG⟩
 rintro k H2 nx2 ⟨hk,fg,hp,kf,k9,nc⟩
 repeat' (first|refine aE ?_|(refine bJ ?_ ?_<;>intro h<;>(try simp only[aL]at h))|fail)
 ·have bF:aF (2*c+1)=c:=hso;refine WO.n rfl ?_;refine bG.of (Act.pk (l:=kf++[.int .i64 0,.int .i64 0]) rfl rfl (nH (x:=0) (y:=0) Rd.self) (by show 1≠0;omega) V rfl (ay V k9) (by rw[bF];show l+k+1<=c;omega) (By (by intro h;cases h) V)) ?_
  repeat' (first|refine aE ?_|fail)
  refine⟨k+1,V,aX,V,V,aj,kf++[.int .i64 0,.int .i64 0],?_,by rw[cm,nc];show _+2=_;omega⟩;rw[ak,aw V];exact aj
 ·have CI:l+k=min c (l+2000):=V;refine WC.loop (α:=Nat) (λi=>[(S1,.pointer (some ⟨nx,0,none⟩)),(S3,.int .i64 ((i:Nat):Int))])
   (λi H' nx'=>i<=l+k/\nx+1<=nx'/\ah H' (at_ nx)=some (.cells [n,.slice (some ⟨b,0,some 2⟩) (l+k) (2*c+1)])/\∃cs',ah H' (at_ b)=some (.cells cs')/\cs'.length=2*(l+k)) (λi=>l+k-i)
   ?_ 0 aX ⟨bS _,fg,hp,kf,k9,nc⟩
  rintro i H3 bW ⟨hi,j8,hp3,cs3,MP,YM⟩
  repeat' (first|refine aE ?_|(refine bJ ?_ ?_<;>intro h<;>(try simp only[aL]at h))|fail)
  ·refine⟨i+1,V,aX,V,V,ay V hp3,_,aj,?_⟩;simp only[cm,iZ,pf,hO,gp];omega
  ·exact jU (vs:=[]) rfl rfl
theorem Ix(hA:GR P ins A){g:FuncId}(qU:fI P g)(hf:A.funcs g=some Qj)(h41:A.funcs 38=some tF)(hh:zhN A g)(ZA:zhN A 38){vs:List Value}{b:Nat}(hp:yJ vs H b):dX P g vs H nx (.ok (.tuple #[]) (kill H b) nx):=by
 obtain⟨n,l,c,cs,rfl,hb,oG,hl⟩:=hp;have HA:dX P g [.agg #[n,.slice (some ⟨b,0,some 2⟩) l c]] (aC .e b cs) nx (.ok (.tuple #[]) .e nx):=by
  refine dX.RS hA qU λρ us w hv hH=>?_
  have o9:b<nx:=by
   apply Classical.byContradiction;intro h;obtain⟨r,hr,_⟩:=hH.blk b _ aj;rw[hH.new b V]at hr;cases hr
  cases hv with
  | cons h1 h2=>
   cases h2;generalize hq:Value.agg #[n,.slice (some ⟨b,0,some 2⟩) l c]=t at h1;cases h1 with
   | agg agn=>
    have e:=congrArg Array.toList (Value.agg.inj hq);simp only at e;subst e;cases agn with
    | cons hn bN=>
    cases bN with
    | cons vh ago=>
    cases ago;obtain⟨u2,ql,J4⟩:=vh.roomy;obtain⟨c',rfl,ru,DP⟩:=ql.1 b 0 2 l c rfl;exact⟨[.agg #[n,.slice (some ⟨b,0,some 2⟩) l (2*c'+1)]],_,.cons (.agg (.cons hn (.cons J4 .nil))) .nil,hH,λ_ h=>h,Jf hf h41 hh ZA aj o9 oG hl ru DP⟩
   | sc hs=>rw[<-hq]at hs;try cases hs
   | _=>cases hq
 exact HA.frame (λb' k hk=>by
  rw[ak]at hk;split at hk
  ·rename_i e;rw[e,hb];exact hk
  ·cases hk) (λb' k hk=>.inr (by
  rw[gC]at hk;split at hk
  ·cases hk
  ·rename_i cG;exact⟨by rw[ak,aw cG];rfl,hk⟩))
end
section
variable {A:aN}{H H':Heap}{nx nx':Nat}{σ:aR}{L:List Value}{Q:cw}
structure Jg(es:List Ed)(r:List (List Int))(v a f:Nat):Prop where
 vl:v<r.length
 al:a<2*es.length
 at_:∃k b:Nat,(r.getD v [])[k]?=some (a:Int)/\(r.getD v [])[(k+1)%(r.getD v []).length]?=some (b:Int)/\b<2*es.length/\fa (aG es r) b=f
theorem Jg.mem{es:List Ed}{r:List (List Int)}{v a f:Nat}(h:Jg es r v a f):(a:Int)∈r.getD v []:=by
 obtain⟨k,b,h1,_⟩:=h.at_;exact dM h1
theorem gW.cor{n:Int}{es:List Ed}{r:List (List Int)}{w y:Nat}(h0:aH n es r=0)(hy:y<2*es.length)(h:gW es r w y):∃a:Nat,rB (aG es r) (r.getD w []) (fa (aG es r) y)=(a:Int)/\Jg es r w a (fa (aG es r) y):=by
 obtain⟨a,e,h1,h2,h3,h4,h5,h6,h7,h8⟩:=h.RJ h0 hy;have iu:0<(r.getD w []).length:=List.length_pos_iff.2 h5;have hm:=Nat.mod_lt (nL (aG es r) (r.getD w []) (fa (aG es r) y)+1) iu;obtain⟨b,eb,hb,_⟩:=dw h0 h.1 (jE hm);have hg:=aM hm;rw[eb]at hg;refine⟨a,e,h.1,h3,_,b,h1,hg,hb,?_⟩;unfold hC at h7;rw[aY,hg]at h7;have:=of_decide_eq_true h7
 simpa using this
theorem RT{n:Int}{es:List Ed}{r:List (List Int)}{h k:Nat}(h0:aH n es r=0)(hh:h<2*es.length)(H:Fc (bg es r) (2*es.length) h k):Reach es (bZ es h).toNat (bZ es k).toNat:=by
 have step:∀q,q<2*es.length->Reach es (bZ es q).toNat (bZ es (bg es r q)).toNat:=λq hq=>by
  obtain⟨v,hv,hs⟩:=vp h0 hq;obtain⟨a,ea,ha1,VN⟩:=dw h0 hv hs.mem.1;obtain⟨b,eb,dS,k9⟩:=dw h0 hv hs.mem.2;obtain rfl:aU q=a:=V;obtain rfl:bg es r q=b:=V;obtain⟨u,hu,e,_⟩:=xu h0 hq;rw[k9,e];simp only[eE];exact .step .here ⟨q,hq,e,VN⟩
 induction H with
 | here=>exact .here
 | nx H ih=>exact ih.trans (step _ (H.lt (gU h0) hh))
 | pv hk H ih=>exact ih.trans (step _ hk).symm
theorem Jg.reach{n:Int}{es:List Ed}{r:List (List Int)}{v w a b f:Nat}(h0:aH n es r=0)(h:Jg es r v a f)(h':Jg es r w b f):Reach es v w:=by
 obtain⟨hv,_,k,x,_,x2,x3,x4⟩:=h;obtain⟨hw,_,j,y,_,y2,y3,y4⟩:=h';have H:=RT h0 x3 ((wh h0 x3 y3).1 (x4.trans y4.symm));obtain⟨x',e1,_,e2⟩:=dw h0 hv (dM x2);obtain⟨y',e3,_,e4⟩:=dw h0 hw (dM y2);obtain rfl:x=x':=V;obtain rfl:y=y':=V
 rwa [e2,e4,eE,eE]at H
theorem RU{l:List Int}{x:Int}{i:Nat}(h:l[i]?=some x)(hn:∀j,j<i->l[j]?≠some x):l.idxOf x=i:=by
 obtain⟨hi,e⟩:=cS.1 h;unfold List.idxOf;rw[List.findIdx_eq hi];refine⟨by rw[e];simp,λj hj=>?_⟩;have hjl:j<l.length:=V;have:=hn j hj;rw[aM hjl]at this
 simpa using λe=>this (by rw[e])
theorem qf{l:List Int}(h:l.Nodup){i j:Nat}{x:Int}(hi:l[i]?=some x)(hj:l[j]?=some x):i=j:=by
 obtain⟨h1,e1⟩:=cS.1 hi;obtain⟨h2,e2⟩:=cS.1 hj;rcases Nat.lt_trichotomy i j with c|c|c
 ·exact absurd (e1.trans e2.symm) (List.pairwise_iff_getElem.1 h i j h1 h2 c)
 ·exact c
 ·exact absurd (e2.trans e1.symm) (List.pairwise_iff_getElem.1 h j i h2 h1 c)
theorem Gx(E:eA A){lv:Value}{l:List Int}{x:Int}{k:Nat}(hl:bL H nx 1 aZ lv l)(hm:l.length<=1048576)(hn:l.Nodup)(hk:l[k]?=some x) :
  WF A 32 [lv,.int .i64 x] H nx λv H' nx'=>H'=H/\nx'=nx/\v=.int .i64 (k:Int):=by
 refine(j4 E hl hm).of ?_;rintro _ _ _ ⟨rfl,rfl,⟨i,rfl,h1,_⟩|⟨_,gu⟩⟩
 ·rw[qf hn h1 hk];exact⟨rfl,rfl,rfl⟩
 ·exact absurd (dM hk) gu
theorem tZ(E:eA A){n:Int}{v a f:Nat}{ev rv:Value}{es:List Ed}{r:List (List Int)}(hr:er H nx 1 aZ rv r)(cD:cR r)(hl:(r.length:Int)=n)(c:Jg es r v a f) :
  WF A 70 [.agg #[.int .i64 n,ev],rv,.agg #[.int .i64 (v:Int),.int .i64 (a:Int)]] H nx λx H' nx'=>aq H H' nx/\nx<=nx'/\x=.bool true:=by
 obtain⟨rb,rc,rfl⟩:=hr.form;have hv:=c.vl;have rO:=c.mem;have oY:=cD.1;have kE:r.getD v []=r[v]:=by rw[aY,aM hv];rfl
 have wP:=cD.row v;refine WF.enter (E.h rfl _ _ _) E.Kp ?_;obtain⟨bb,bo,tN,ib,ic,rfl,iy,jz,bH,hi⟩:=hr.at hv;rw[<-kE]at bH hi;have bF:aq H (aC (aC H nx [.int .i64 n,ev]) (nx+1) [.int .i64 (v:Int),.int .i64 (a:Int)]) nx:=(aq.refl.set (au _)).set V;have ZB:=bF.rd iy jz;have BA:=(hi.same bF).up (show nx<=nx+1+1 by omega);have iu:0<(r.getD v []).length:=List.length_pos_of_mem rO;generalize hg:r.getD v []=l at *
 repeat' (first|refine aE ?_|(refine bJ ?_ ?_<;>intro h<;>(try simp only[aL]at h))|fail)
 all_goals try (exfalso;omega)
 ·refine WO.cn rfl ?_;refine(AQ E (x:=(a:Int)) BA wP rO).of ?_;rintro _ _ _ ⟨rfl,rfl,rfl⟩
  repeat' (first|refine aE ?_|fail)
  exact aD (vs:=[_]) rfl ⟨bF,V,rfl⟩
theorem BY(E:eA A){n:Int}{v a f ob oc:Nat}{rv sv:Value}{es:List Ed}{r:List (List Int)}(h0:aH n es r=0)(hr:er H nx 1 aZ rv r)(si:ob<nx)(mK:aB H ob (aG es r))(uj:2*es.length<=aF oc)(c:Jg es r v a f) :
  WF A 72 [rv,.slice (some ⟨ob,0,some 1⟩) (2*es.length) oc,sv,.agg #[.int .i64 (v:Int),.int .i64 (a:Int)]] H nx λx H' nx'=>aq H H' nx/\nx<=nx'/\x=.int .i64 (f:Int):=by
 obtain⟨rb,rc,rfl⟩:=hr.form;have cD:=cC h0;obtain⟨hv,qi,k,b,hk,hb,pI,hf⟩:=c;have oY:=cD.1;have kE:r.getD v []=r[v]:=by rw[aY,aM hv];rfl
 have wP:=cD.row v;have Fb:=iY h0 hv;obtain⟨ho,qo⟩:=gZ h0;have wZ:=(bR h0).1.2.2.1;refine WF.enter (E.h rfl _ _ _) E.V1 ?_;obtain⟨bb,bo,tN,ib,ic,rfl,iy,jz,bH,hi⟩:=hr.at hv;rw[<-kE]at bH hi;have bF:aq H (aC H nx [.int .i64 (v:Int),.int .i64 (a:Int)]) nx:=aq.refl.set (au _);have ZB:=bF.rd iy jz;have BA:=(hi.same bF).up (show nx<=nx+1 by omega);have agp:ah (aC H nx [.int .i64 (v:Int),.int .i64 (a:Int)]) (at_ ob)=some (.cells ((aG es r).map (.int .i64))):=(bF ob si).trans mK;have bQ:k<(r.getD v []).length:=(cS.1 hk).1;have iu:0<(r.getD v []).length:=V;have q2:=aB.cell (ho.get (show b<(aG es r).length by omega));rw[hf]at q2;generalize hg:r.getD v []=l at *
 obtain⟨lb,lo,lcs,rfl,tY,_,_,sr,VF⟩:=hi.at (λe=>by rw[e]at iu;simp at iu);have q1:=cX (v:=.int .i64 (b:Int)) (VF _ _ hb);have aic:=bF.rd tY sr;have yC:=Nat.mod_lt (k+1) iu
 repeat' (first|refine aE ?_|(refine bJ ?_ ?_<;>intro h<;>(try simp only[aL]at h))|fail)
 all_goals try (exfalso;omega)
 ·refine WO.cn rfl ?_;refine(Gx E (x:=(a:Int)) (k:=k) BA wP Fb hk).of ?_;rintro _ _ _ ⟨rfl,rfl,rfl⟩
  repeat' (first|refine aE ?_|fail)
  exact aD (vs:=[_]) rfl ⟨bF,V,rfl⟩
theorem Act.ZC{lo b hb hc j:Nat}{s i x:Od}{u:Value}{l:List Int}{h:Int}(hu:o7 H lo nx b u l)(h0:l≠[])(hs:ev σ L s=some u)(hi:ev σ L i=some (.int .i64 (j:Int)))(hj:j<=l.length)(hx:ev σ L x=some (.slice (some ⟨hb,0,some 1⟩) 1 hc))(UY:ah H (at_ hb)=some (.cells [.int .i64 h]))(cG:bk u≠some hb)(hm:l.length<=1048576) :
  ∃H',Act A (.ins 1 8 s i x) σ L H nx (.slice (some ⟨nx,0,some 1⟩) (l.length+1) (2*(l.length+1))) H' (nx+1)/\ah H' (at_ nx)=some (.cells (mi (l.take j++h::l.drop j)))/\∀d,d<nx->bk u≠some d->ah H' (at_ d)=ah H (at_ d):=by
 rcases hu with⟨rfl,rfl⟩|⟨d,c,rfl,g1,g2,g3,h1,h2,h3,h4⟩
 ·exact absurd rfl h0
 ·have hlen:=mY l;have hh:=Act.abv (A:=A) (σ:=σ) (L:=L) (nx:=nx) (by_:=8) (j:=j) (cs:=mi l) (new:=[.int .i64 h]) (c:=c) (c2:=hc) (by rw[hlen];exact hs) hi hx h4 UY (λe=>cG (by rw[e];rfl)) (by show 0<1;omega) (by rw[hlen];exact hj) (IY _) rfl
   (by rw[hlen];show (l.length+1)*8<=small;unfold small;omega) (by rw[hlen];show l.length+1<=small;unfold small;omega)
  rw[hlen]at hh;refine⟨_,hh,?_,λe he IG=>?_⟩
  ·rw[aj];unfold mi;rw[jG,List.map_cons,List.map_take,List.map_drop];rfl
  ·rw[ak,aw V,gC,aw (λe'=>IG (by rw[e'];rfl))]
theorem WO.ZC{p:Option (List Bool)}{ag:List cz}{ops:List (AO×List cz)}{lo b hb hc j:Nat}{s i x:Od}{u:Value}{l:List Int}{h:Int}(hu:o7 H lo nx b u l)(h0:l≠[])(hs:ev σ L s=some u)(hi:ev σ L i=some (.int .i64 (j:Int)))(hj:j<=l.length)(hx:ev σ L x=some (.slice (some ⟨hb,0,some 1⟩) 1 hc))(UY:ah H (at_ hb)=some (.cells [.int .i64 h]))(cG:bk u≠some hb)(hm:l.length<=1048576)(hK:∀H',ah H' (at_ nx)=some (.cells (mi (l.take j++h::l.drop j)))->(∀d,d<nx->bk u≠some d->ah H' (at_ d)=ah H (at_ d))->bB A (oW p (.slice (some ⟨nx,0,some 1⟩) (l.length+1) (2*(l.length+1))) σ) (.slice (some ⟨nx,0,some 1⟩) (l.length+1) (2*(l.length+1))::L) H' ag/\WO A ops (oW p (.slice (some ⟨nx,0,some 1⟩) (l.length+1) (2*(l.length+1))) σ) (.slice (some ⟨nx,0,some 1⟩) (l.length+1) (2*(l.length+1))::L) H' (nx+1) Q) :
  WO A ((⟨p,none,.ins 1 8 s i x⟩,ag)::ops) σ L H nx Q:=by
 obtain⟨H',h1,h2,h3⟩:=Act.ZC (A:=A) (σ:=σ) (L:=L) hu h0 hs hi hj hx UY cG hm;obtain⟨k1,k2⟩:=hK H' h2 h3;exact .ins h1 k1 k2
theorem BZ(E:eA A){lo b c v hb hc':Nat}{us:List Value}{r:List (List Int)}{a h:Int}(hu:dK H lo nx b us r)(cD:cR r)(hc:r.length<=aF c)(hv:v<r.length)(ha:a∈r.getD v [])(o9:hb<nx)(UY:ah H (at_ hb)=some (.cells [.int .i64 h]))(kT:∀(i:Nat) (u:Value),us[i]?=some u->bk u≠some hb)(vF:lo<=nx) :
  WF A 73 [.slice (some ⟨b,0,some 1⟩) r.length c,.agg #[.int .i64 (v:Int),.int .i64 a],.slice (some ⟨hb,0,some 1⟩) 1 hc'] H nx λ_ H' nx'=>aq H H' lo/\nx<=nx'/\∃us',dK H' lo nx' b us' (ji r v a h):=by
 have oY:=cD.1;have wP:=cD.row v;refine WF.enter (E.h rfl _ _ _) E.acg ?_;have bF:aq H (aC H nx [.int .i64 (v:Int),.int .i64 a]) nx:=aq.refl.set (au _);have hu0:=hu.same bF (cE nx);have hbR:=Rd.own hu.cells;have Bu:=hu.h2;have aid:=hu.h1;have iF:=hu.len;obtain⟨u,hg,Nu,dv⟩:=hu0.at hv;have cG:=kT v u hg;have agq:=(bF hb o9).trans UY;obtain⟨ua,uc,rfl⟩:=dv.form;have iu:0<(r.getD v []).length:=List.length_pos_of_mem ha;have hpa:putAt (r.getD v []) a h=(r.getD v []).take ((r.getD v []).idxOf a+1)++h::(r.getD v []).drop ((r.getD v []).idxOf a+1):=rfl;have qk:=BT (r.getD v []) a h;have jT:(r.getD v []).idxOf a<(r.getD v []).length:=List.idxOf_lt_length_of_mem ha
 repeat' (first|refine aE ?_|fail)
 refine WO.cn rfl ?_;refine(j4 E dv.sle wP).of ?_;rintro _ _ _ ⟨rfl,rfl,⟨i,rfl,xr,KD⟩|⟨_,gu⟩⟩
 case inr=>exact absurd ha gu
 have ZD:=RU xr KD;rw[ZD]at hpa jT
 repeat' (first|refine aE ?_|fail)
 refine WO.ZC (j:=i+1) (h:=h) dv (λe=>by rw[e]at iu;simp at iu) rfl (by show some (Value.int .i64 ((i:Int)+1))=_;congr 2) V rfl agq cG wP (λH2 vE kH=>?_);have As:∀d,bk (.slice ua (r.getD v []).length uc)=some d->lo<=d/\d<nx+1/\d≠b:=λd hd=>dv.blk hd
 have SE:ah H2 (at_ nx)=some (.cells [.int .i64 (v:Int),.int .i64 a]):=(kH nx V (λe=>by
  have h1:=(hu.at hv);obtain⟨w,g1,_,g3⟩:=h1;rw[hg]at g1;cases g1;have:=(g3.blk e).2.1;omega)).trans aj
 have hbc:ah H2 (at_ b)=some (.cells us):=(kH b V (λe=>(As b e).2.2 rfl)).trans hu0.cells;have agr:=Rd.own SE;refine⟨bB.look rfl agr rfl rfl (by simp[mc,ff]) .nil,?_⟩
 repeat' (first|refine aE ?_|fail)
 refine jU (vs:=[]) rfl ⟨λd hd=>?_,V,us.set v (.slice (some ⟨nx+1,0,some 1⟩) ((r.getD v []).length+1) (2*((r.getD v []).length+1))),?_⟩
 ·rw[ak,aw V,kH d V (λe=>by have:=(As d e).1;omega)];exact bF d V
 ·rw[show 0+v*1=v by omega];unfold ji;refine hu0.put hg (show nx+1<=nx+1+1 by omega) (λd h1 h2 h3 h4=>?_) (.inr ⟨nx+1,_,by rw[qk],V,by rw[qk,bT];exact au _,by rw[bT];omega,V,V,V,?_⟩) (λd hd=>by cases hd;omega) aj
  ·rw[ak,aw h3,kH d V h4]
  ·rw[ak,aw V,hpa];exact vE
end
section
variable {A:aN}{H H':Heap}{nx nx':Nat}{σ:aR}{L:List Value}{Q:cw}
theorem UZ{a b:Int}:mc (.agg ⟨[.int .i64 a,.int .i64 b]⟩) (.agg ⟨[.int .i64 a,.int .i64 b]⟩)=true:=by
 show (ff (.int .i64 a) (.int .i64 a)&&(ff (.int .i64 b) (.int .i64 b)&&true))=true;simp[ff]
theorem bB.acL{L:List Value}{x:Od}{g:Option Nat}{w d b o:Nat}{cs:List Value}{v:Value}{ag:List cz}(hx:ev σ L x=some (.pointer (some ⟨b,o,none⟩)))(hr:Rd H b cs)(hv:partOf cs o g=some v)(hw:L[w]?=some (.bool true))(hd:L[d]?=some v)(hq:mc v v=true)(OZ:bB A σ L H ag):bB A σ L H (⟨some (w,true),.an x g,d⟩::ag):=by
 refine⟨λT hT X=>?_⟩;have h1:wanted L (some (w,true))=true:=by
  show D4 true (Lc L w)=true;rw[wW,hw];rfl
 show cond (wanted L (some (w,true))) (e7 (.an x g) A.P T L H λv=>Af L d λu=>cond (mc u v) (jJ A.P T L H ag X) none) _=X;rw[h1];exact(bB.look hx hr hv hd hq OZ).reads T hT X
theorem M9(E:eA A){n:Int}{m v w a b f:Nat}{ev rv:Value}{es:List Ed}{r:List (List Int)}(h0:aH n es r=0)(iL:n=(m:Int))(he:bL H nx 2 aW ev es)(hr:er H nx 1 aZ rv r)(ka:Jg es r v a f)(kb:Jg es r w b f)(cG:v≠w)(dx:es.length<3072) :
  WF A 36 [.agg #[.int .i64 n,ev],rv,.agg #[.int .i64 (v:Int),.int .i64 (a:Int)],.agg #[.int .i64 (w:Int),.int .i64 (b:Int)]] H nx λx H' nx'=>aq H H' nx/\nx<=nx'/\∃oA rb c us,x=oneOf [.agg #[.int .i64 n,oA],.slice (some ⟨rb,0,some 1⟩) r.length c,.int .i64 0]/\r.length<=aF c/\Aa H' nx nx' oA (es++[((v:Int),(w:Int))])/\dK H' nx nx' rb us (oD es.length r v (a:Int) w (b:Int))/\SJ rb us oA:=by
 obtain⟨base,ec,rfl⟩:=he.form;obtain⟨rb,rc,rfl⟩:=hr.form;have cD:=cC h0;obtain⟨hm,hl,_⟩:=bR h0;have BL:=hm.2.1;have ok:=iN h0;subst iL;have oY:r.length=m:=V;refine WF.enter (E.h rfl _ _ _) E.aca ?_;have hv:v<m:=by have:=ka.vl;omega
 have hw:w<m:=by have:=kb.vl;omega
 have bF:aq H (aC (aC (aC (aC H nx [.int .i64 (m:Int),.slice base es.length ec]) (nx+1) [.int .i64 (v:Int),.int .i64 (a:Int)]) (nx+1+1) [.int .i64 (w:Int),.int .i64 (b:Int)]) (nx+1+1+1) [.int .i64 0,.slice none 0 0]) nx:=(((aq.refl.set (au _)).set V).set V).set V;have bx0:=Bx.of (H:=H) (nx:=nx) (a:=[.int .i64 (m:Int),.slice base es.length ec]) (b:=[.int .i64 (v:Int),.int .i64 (a:Int)]) (c:=[.int .i64 (w:Int),.int .i64 (b:Int)]) (d:=[.int .i64 0,.slice none 0 0])
 repeat' (first|refine aE ?_|fail)
 refine WO.cn rfl ?_;refine(E.Ga (n:=(m:Int)) h0 ((he.same bF).up V) ((hr.same bF).up V) cD).of ?_;rintro _ H1 aQ ⟨Zo,nf,rfl,jP,kH,hL,bt⟩;have ZE:=bx0.same bt V;have bu:=bF.trans bt V;obtain⟨r4,r6,r7,r8⟩:=id ZE;obtain⟨fb,fc,rfl⟩:=hL.form
 repeat' (first|refine aE ?_|(refine bJ ?_ ?_<;>intro h<;>(try simp only[aL]at h))|fail)
 ·omega
 refine WO.cn rfl ?_;refine(tZ E (v:=v) ((hr.same bu).up V) cD hl ka).of ?_;rintro _ H2 nx2 ⟨bN,fg,rfl⟩;have ZF:=ZE.same bN V;have bV:=bu.trans bN V;have MI:=hL.vX (λb _ hb=>bN b hb) fg;clear r4 r6 r7 r8;obtain⟨r4,r6,r7,r8⟩:=id ZF
 repeat' (first|refine aE ?_|fail)
 refine WO.cn rfl ?_;refine(tZ E (v:=w) ((hr.same bV).up V) cD hl kb).of ?_;rintro _ H3 bW ⟨de,j8,rfl⟩;have ZG:=ZF.same de V;have dZ:=bV.trans de V;have KG:=MI.vX (λb _ hb=>de b hb) j8;clear r4 r6 r7 r8;obtain⟨r4,r6,r7,r8⟩:=id ZG
 repeat' (first|refine aE ?_|(refine bJ ?_ ?_<;>intro h<;>(try simp only[aL]at h))|fail)
 ·omega
 refine WO.cn rfl ?_;refine(E.Rr (n:=(m:Int)) h0 ((he.same dZ).up V) ((hr.same dZ).up V) cD).of ?_;rintro _ H4 dA ⟨ofb,ofc,rfl,acM,F6,G5,acN,fA,oO⟩;have ZH:=ZG.same fA V;have eW:=dZ.trans fA V;have NI:=KG.vX (λb _ hb=>fA b hb) oO;clear r4 r6 r7 r8;obtain⟨r4,r6,r7,r8⟩:=id ZH
 repeat' (first|refine aE ?_|fail)
 refine WO.cn rfl ?_;refine(E.Rp (n:=(m:Int)) hm rfl ((he.same eW).up V)).of ?_;rintro _ H5 fy ⟨pb,pc,c,rfl,XF,GY,G0,kI,AP,jD,wj⟩;have U0:=ZH.same jD V;have j6:=eW.trans jD V;have hL5:=NI.vX (λb _ hb=>jD b hb) wj;clear r4 r6 r7 r8;obtain⟨r4,r6,r7,r8⟩:=id U0;have hb5:nx+1+1+1+1<=fy:=V;clear bF bx0 bt ZE bu bN ZF bV de ZG dZ fA ZH eW hL MI KG NI jP kH fg j8 F6 oO GY;obtain⟨x,hx⟩:=p9 AP.len hv;obtain⟨y,hy⟩:=p9 AP.len hw;have oT:x=y:=by
  have:=AP.DB hv hw (ka.reach h0 kb);rw[hx,hy]at this;exact jk this
 subst oT;have M5:aB H5 ofb (aG es r):=(jD ofb G5).trans acN;have DQ:=aB.cell hx;have hcy:=aB.cell hy;have Wk:ah H5 (at_ pb)=some (.cells (c.map (.int .i64))):=kI
 repeat' (first|refine aE ?_|fail)
 refine WO.cn rfl ?_;refine(Dr E hL5.FW (by have:=ok.YQ;omega) (λk=>by have:=ok.row k;omega)).of ?_;rintro _ H5' aie ⟨e1,e2,fk,rfl⟩;rw[e1,e2]
 repeat' (first|refine aE ?_|(refine bJ ?_ ?_<;>intro h<;>(try simp only[aL]at h))|fail)
 rotate_left
 ·exact absurd trivial (by assumption)
 refine WO.ca rfl ?_;refine(BY E h0 ((hr.same j6).up (show nx<=fy by omega)) V M5 acM ka).of ?_;rintro _ H51 ags ⟨U1,agt,rfl⟩;have ZI:=U0.same U1 V;have RV:=j6.trans U1 V;have q7:=Rd.own ZI.r7;refine⟨bB.acL rfl q7 rfl rfl rfl UZ .nil,?_⟩;refine WO.aeU rfl ?_;refine WO.cn rfl ?_;refine(BY E h0 ((hr.same RV).up (show nx<=ags by omega)) V (by exact(U1 ofb V).trans M5) acM kb).of ?_;rintro _ H52 RW ⟨ZJ,agu,rfl⟩;have acO:=ZI.same ZJ V;have acP:=RV.trans ZJ V;have agv:nx+1+1+1+1<=RW:=V;have agw:pb<RW:=V;clear ZI RV U1 ZJ agt agu U0 j6 M5 q7 r4 r6 r7 r8 hb5 e1 e2 jD wj Wk kI G0;obtain⟨r4,r6,r7,r8⟩:=id acO;have U0:=acO;have j6:=acP;have hb5:=agv;have G0:=agw
 repeat' (first|refine aE ?_|(refine bJ ?_ ?_<;>intro h<;>(try simp only[aL]at h))|fail)
 ·exact absurd rfl (by assumption)
 have he5:=(he.same j6).up (show nx<=RW by omega);refine WO.na rfl ?_;refine bP.more (l:=[]) (m:=es) rfl rfl .nil (he5.src (λ_=>rfl)) (au _) V (by simp only[gp];omega) ?_;intro v6 H6 DF Wn ZK G7;have ZL:=U0.same G7 V;have wR:=j6.trans G7 V;clear r4 r6 r7 r8;obtain⟨r4,r6,r7,r8⟩:=id ZL;have q4:=Rd.own r4;have q6:=Rd.own r6;have q7:=Rd.own r7;rw[qQ]at ZK;refine⟨bB.look rfl q7 rfl rfl (by simp[mc,ff]) (bB.look rfl q6 rfl rfl (by simp[mc,ff]) (bB.look rfl q4 rfl rfl (by simp[mc,ff]) .nil)),?_⟩
 repeat' (first|refine aE ?_|fail)
 refine WO.na rfl ?_;have acQ:=ZK.same (aq.refl.set (cs:=[.int .i64 (v:Int),.int .i64 (w:Int)]) (au DF)) (cE DF);refine bP.more (l:=es) (m:=[((v:Int),(w:Int))]) rfl rfl acQ (nH Rd.self) V V (by show es.length+1<=_;omega) ?_;intro v7 H7 j9 Dz AR k7;have ZM:aq H6 H7 RW:=(aq.refl.set V).trans k7 (au _);have ZN:=ZL.same ZM V;have Gy:=wR.trans ZM V;have ed7:=AR.edf (by rw[cm];show 0<_+1;omega);clear r4 r6 r7 r8 q4 q6 q7;obtain⟨r4,r6,r7,r8⟩:=id ZN;have q4:=Rd.own r4;refine⟨bB.look rfl q4 rfl rfl (by simp[mc,ff]) .nil,?_⟩;obtain⟨eb,ec',rfl,U2,ZO,RX,DG⟩:=id ed7
 repeat' (first|refine aE ?_|fail)
 have DH:aq H7 (aC (aC H7 j9 [.int .i64 0,.slice none 0 0]) j9 [.int .i64 (m:Int),.slice (some ⟨eb,0,some 2⟩) (es++[((v:Int),(w:Int))]).length ec']) j9:=(aq.refl.set (au _)).set (au _);have Jh:=Gy.trans DH V;refine WO.cn rfl ?_;refine(Gb E ((hr.same Jh).up V) cD).of ?_;rintro _ H9 uq ⟨Gp,hn9,cb,cc,us,rfl,zS,hu⟩;have bx9:=(ZN.same DH V).same Gp V;have U3:=Jh.trans Gp V;have n9:ah H9 (at_ j9)=some (.cells [.int .i64 (m:Int),.slice (some ⟨eb,0,some 2⟩) (es++[((v:Int),(w:Int))]).length ec']):=(Gp j9 V).trans aj;have ed9:ah H9 (at_ eb)=some (.cells ((es++[((v:Int),(w:Int))]).flatMap aW)):=(Gp eb V).trans ((DH eb RX).trans DG);clear r4 r6 r7 r8 q4;obtain⟨r4,r6,r7,r8⟩:=id bx9;have hb7:RW<=j9:=V;clear G7 ZL wR ZK acQ k7 ZM ZN Gy AR ed7 DG DH Jh Gp AP hx hy DQ hcy he5 hL5 ok U0 j6 Wn Dz G0
 repeat' (first|refine aE ?_|fail)
 refine WO.k rfl ?_;refine bG.of (Act.XC E.q57 rfl rfl) ?_;rw[im (λe=>cG (by
  have:=congrArg Prod.fst e;simp only at this;omega))]
 repeat' (first|refine aE ?_|fail)
 have hub:=hu.h1;have aif:=hu.h2;have ZP:aq H9 (aC H9 uq [.int .i64 ((2*es.length:Nat):Int)]) uq:=aq.refl.set (au _);refine WO.cn rfl ?_;refine(BZ E (v:=v) (a:=(a:Int)) (h:=((2*es.length:Nat):Int)) (hu.same ZP (cE _)) cD zS V ka.mem (K7 _) aj (hu.off (ev:=.slice (some ⟨uq,0,some 1⟩) 1 3) (λd hd=>by cases hd;exact .inr (au _)) _ rfl).2 V).of ?_;rintro _ DS Na ⟨Gw,agx,us1,sF⟩;have oQ:aq H9 DS (j9+1):=(ZP.low V).trans Gw (au _);have RY:=bx9.same oQ V;have Wo:=U3.trans oQ V;have n10:=(oQ j9 V).trans n9;have acR:=(oQ eb V).trans ed9;clear r4 r6 r7 r8 ZP Gw bx9 U3 n9 ed9 hu oQ;obtain⟨r4,r6,r7,r8⟩:=id RY;have RZ:(ji r v (a:Int) ((2*es.length:Nat):Int)).getD w []=r.getD w []:=by rw[gV V,aw (λe=>cG e.symm)]
 have qk:=dn r v (a:Int) ((2*es.length:Nat):Int);have acS:cR (ji r v (a:Int) ((2*es.length:Nat):Int)):=by
  refine⟨V,λl mR=>?_⟩;obtain⟨i,hi,rfl⟩:=kG mR;have h1:=gV (r:=r) (v:=v) (u:=i) (a:=(a:Int)) (h:=((2*es.length:Nat):Int)) V;rw[aY,aM hi]at h1;simp only[wB]at h1;rw[h1];have h2:=jw h0 i;have h3:=jw h0 v;split
  ·rw[BT];omega
  ·omega
 repeat' (first|refine aE ?_|fail)
 have R1:aq DS (aC DS Na [.int .i64 ((2*es.length+1:Nat):Int)]) Na:=aq.refl.set (au _);have zQ:=BZ E (v:=w) (a:=(b:Int)) (c:=cc) (hc':=2*1+1) (h:=((2*es.length+1:Nat):Int)) (sF.same R1 (cE _)) acS (by rw[qk];exact zS) V (by rw[RZ];exact kb.mem) (K7 _) aj (sF.off (ev:=.slice (some ⟨Na,0,some 1⟩) 1 3) (λd hd=>by cases hd;exact .inr (au _)) _ rfl).2 V;rw[qk]at zQ;refine WO.cn rfl ?_;refine zQ.of ?_;rintro _ U4 U5 ⟨DI,R2,us2,Wb⟩;have zF:aq DS U4 (j9+1):=(R1.low V).trans DI (au _);have U6:=RY.same zF V;have R3:=Wo.trans zF V;have n11:=(zF j9 V).trans n10;have acT:=(zF eb V).trans acR;clear r4 r6 r7 r8 R1 DI zF RY Wo n10 acR sF zQ RZ acS;obtain⟨r4,r6,r7,r8⟩:=id U6;have hpr:=tV (v:=v) (w:=w) (a:=(a:Int)) (b:=(b:Int)) h0 V V dx;have vh:=Wb.FW (c:=cc) (by rw[dn,qk];exact zS);rw[dn,qk]at vh;have FQ:bL U4 U5 2 aW (.slice (some ⟨eb,0,some 2⟩) (es++[((v:Int),(w:Int))]).length ec') (es++[((v:Int),(w:Int))]):=.pre (rest:=[]) (.inl (by rw[gN];exact acT)) V U2 (λ_=>rfl)
 repeat' (first|refine aE ?_|fail)
 have oG:=sm E hpr FQ vh (cC hpr);refine WO.cn rfl ?_;refine oG.of ?_;rintro _ H12 R4 ⟨p7,acU,b3,c3,G8,rfl,q8,DJ⟩;rw[dn,qk]at q8;have ZQ:=U6.same p7 V;have acV:=R3.trans p7 V;have n12:=(p7 j9 V).trans n11;have agy:=(p7 eb V).trans acT;clear r4 r6 r7 r8;obtain⟨r4,r6,r7,r8⟩:=id ZQ
 repeat' (first|refine aE ?_|fail)
 refine qK rfl aj rfl rfl rfl ⟨acV.set V,V,_,b3,c3,G8,by rw[dn,qk];rfl,q8,⟨eb,ec',rfl,U2,V,V,?_⟩,(DJ.frame (λd h1 h2=>by rw[ak,aw V]) (au _)).low V,DJ.off (λd hd=>by cases hd;exact .inl V)⟩;rw[ak,aw V];exact agy
end
section
variable {A:aN}{H H':Heap}{nx nx':Nat}{σ:aR}{L:List Value}{Q:cw}
theorem ud(E:eA A){n:Int}{m v y:Nat}{ev rv:Value}{es:List Ed}{r:List (List Int)}(h0:aH n es r=0)(iL:n=(m:Int))(he:bL H nx 2 aW ev es)(hr:er H nx 1 aZ rv r)(hy:y<2*es.length)(hF:gW es r v y) :
  WF A 35 [.agg #[.int .i64 n,ev],rv,.int .i64 (v:Int),.int .i64 (y:Int)] H nx λx H' nx'=>aq H H' nx/\nx<=nx'/\x=.agg #[.int .i64 (v:Int),.int .i64 (rB (aG es r) (r.getD v []) (fa (aG es r) y))]:=by
 obtain⟨base,ec,rfl⟩:=he.form;obtain⟨rb,rc,rfl⟩:=hr.form;have cD:=cC h0;obtain⟨hm,hl,_⟩:=bR h0;obtain⟨m0,m1,m2,_⟩:=id hm;obtain⟨ho,qo⟩:=gZ h0;subst iL;have hv:=hF.1;have kE:r.getD v []=r[v]:=by rw[aY,aM hv];rfl
 have wP:=cD.row v;have oY:=cD.1;have Fb:=iY h0 hv;have dv:=λx hx=>dw h0 hv (x:=x) hx
 obtain⟨a,ea,a1,a2,a3,a4,a5,a6,a7,a8⟩:=hF.RJ h0 hy;rw[ea];obtain⟨bb,bo,tN,ib,ic,rfl,iy,jz,bH,hi⟩:=hr.at hv;rw[<-kE]at bH hi;generalize r.getD v []=l at *
 generalize nL (aG es r) l (fa (aG es r) y)=K at *
 refine WF.enter (E.h rfl _ _ _) E.FF ?_;have bF:aq H (aC (aC H nx [.int .i64 (m:Int),.slice base es.length ec]) (nx+1) [.int .i64 0,.int .i64 0]) nx:=(aq.refl.set (au _)).set V
 repeat' (first|refine aE ?_|fail)
 refine WO.cn rfl ?_;refine(E.Rr (n:=(m:Int)) h0 ((he.same bF).up V) ((hr.same bF).up V) cD).of ?_;rintro _ H1 aQ ⟨ob,oc,rfl,uj,F6,G5,mK,bt,cH⟩;have bu:=bF.trans bt V;have c8:ah H1 (at_ (nx+1))=some (.cells [.int .i64 0,.int .i64 0]):=(bt (nx+1) V).trans aj;have fU:=bu.rd iy jz
 repeat' (first|refine aE ?_|fail)
 refine WC.loop (α:=Nat) (λk=>[(S1,.slice (some ⟨bb,bo,some 1⟩) r.length rc),(S2,.int .i64 (v:Int)),(S3,.int .i64 (y:Int)),(S8,.pointer (some ⟨nx+1,0,none⟩)),(S9,.slice (some ⟨ob,0,some 1⟩) (2*es.length) oc),(oq,.slice ib l.length ic),(vY,.int .i64 ((l.length:Nat):Int)),(tC,.int .i64 ((k:Nat):Int))])
  (λk H' nx'=>k<=K/\aq H1 H' aQ/\aQ<=nx') (λk=>l.length-k)
  ?_ 0 aX ⟨bS _,.refl,au _⟩
 rintro k H2 nx2 ⟨hk,bN,fg⟩;have bQ:k<l.length:=V;have mh:=bN.rd V fU;have bV:=bu.trans bN V;obtain⟨lb,lo,lcs,rfl,tY,_,_,sr,jC⟩:=hi.at (by intro e;rw[e]at bQ;simp at bQ);have kF:=aM bQ;obtain⟨x,ex,V6,_⟩:=dv _ (dM kF);rw[ex]at kF;have yC:=Nat.mod_lt (k+1) (show 0<l.length by omega);have Ht:=aM yC;obtain⟨b,eb,pI,_⟩:=dv _ (dM Ht);rw[eb]at Ht;have q1:=cX (v:=.int .i64 (x:Int)) (jC k _ kF);have q2:=cX (v:=.int .i64 (b:Int)) (jC _ _ Ht);have Nb:=bV.rd tY sr;have U7:ah H2 (at_ ob)=some (.cells ((aG es r).map (.int .i64))):=(bN ob G5).trans mK;have q3:=aB.cell (ho.get (show b<(aG es r).length by omega));have q4:=aB.cell (ho.get (show y<(aG es r).length by omega));have hcP:hC (aG es r) l (fa (aG es r) y) k=decide (fa (aG es r) b=fa (aG es r) y):=by
  unfold hC;rw[aY,Ht];simp
 repeat' (first|refine aE ?_|(refine bJ ?_ ?_<;>intro h<;>(try simp only[aL]at h))|fail)
 ·generalize SL:aC (aC H2 nx2 _) _ _=H3;have de:aq H2 H3 nx2:=by rw[<-SL];exact(aq.refl.set (au _)).set V
  have q8:ah H3 (at_ nx2)=some (.cells [.int .i64 (v:Int),.int .i64 (x:Int)]):=by rw[<-SL];exact aj
  have agz:=de.rd V Nb;have Q4:=de.rd V mh;have ZR:=(de ob V).trans U7;have c83:=(de (nx+1) V).trans ((bN (nx+1) V).trans c8);have dZ:=bV.trans de V;have hi3:=(hi.same dZ).up (show nx<=nx2+1 by omega);refine WO.ca rfl ?_;refine(Gx E (x:=(x:Int)) (k:=k) hi3 wP Fb kF).of ?_;rintro _ _ _ ⟨rfl,rfl,rfl⟩;refine⟨bB.look rfl Q4 (gD bH) rfl eO (bB.look rfl Q4 (gD bH) rfl eO .nil),?_⟩
  repeat' (first|refine aE ?_|(refine bJ ?_ ?_<;>intro h<;>(try simp only[aL]at h))|fail)
  ·have CI:k=K:=by
    rcases(show k<K\/k=K by omega)with c|c
    ·have:=a8 k c;rw[hcP,fB (show fa (aG es r) b=fa (aG es r) y by omega)]at this;cases this
    ·exact c
   subst CI;rw[kF]at a1;have hxa:(x:Int)=(a:Int):=jk a1;rw[hxa]at q8 ⊢;refine kA rfl aj rfl ⟨dZ.set V,V,rfl⟩
  ·have CI:k≠K:=by
    intro c;subst c;rw[hcP,im (show ¬fa (aG es r) b=fa (aG es r) y by omega)]at a7;cases a7
   exact⟨k+1,V,aX,V,bN.trans de fg,V⟩
 ·exfalso;omega
end
section
variable {A:aN}{H H':Heap}{nx nx':Nat}{σ:aR}{L:List Value}{Q:cw}
theorem B1{p q:List Bool}{agg:Option Nat}{b o:Nat}{cs:List Value}{v u:Value}{Q:Value->Heap->Nat->Prop}(h1:sl σ p=some (.pointer (some ⟨b,o,none⟩)))(h2:ah H (at_ b)=some (.cells cs))(h3:partOf cs o agg=some v)(h4:sl σ q=some u)(hq:Q (oneOf [v,u]) H nx):gR [(.var p,some agg),(.var q,none)] Q .ret σ H nx:=by
 refine⟨[v,u],?_,hq⟩;have e1:tr σ H (.var p,some agg)=some v:=by
  show (match sl σ p with
   | some (.pointer (some ⟨b,o,none⟩))=>match ah H (at_ b)with
    | some (.cells cs)=>partOf cs o agg
    | _=>none
   | _=>none)=_
  rw[h1];simp only[h2];exact h3
 have e2:tr σ H (.var q,none)=some u:=h4;unfold gB;rw[e1];unfold gB;rw[e2];rfl
theorem eA.agA(E:eA A){n:Int}{ev:Value}{es:List Ed}(he:bL H nx 2 aW ev es) :
  WF A 53 [.agg #[.int .i64 n,ev]] H nx λv H' nx'=>v=.bool (decide (kK n es))/\aq H H' nx/\nx<=nx':=qC E.yL (E.h rfl) he
theorem Act.room{by_ b c:Nat}{zero:List Value}{s x:Od}{xv:Value}{l m:List Ed}{rest:List Value}(hs:ev σ L s=some (.slice (some ⟨b,0,some 2⟩) l.length c))(hx:ev σ L x=some xv)(eJ:pN H 2 xv m.length (m.flatMap aW))(hm:m≠[])(hr:ah H (at_ b)=some (.cells (l.flatMap aW++rest)))(hl:2*m.length<=rest.length)(hc:l.length+m.length<=aF c) :
  Act A (.app 2 by_ zero s x false) σ L H nx (.slice (some ⟨b,0,some 2⟩) (l++m).length c) (aC H b ((l++m).flatMap aW++rest.drop (2*m.length))) nx:=by
 have Xq:=List.length_pos_iff.2 hm;have h1:=iB l;have h2:=iB m;rw[cm];refine Act.pk hs hx eJ V V (nG _) hr hc ?_;unfold mm;rw[Nat.zero_add,tw _ _ _ (by rw[cm];omega)];show some _=some _
 congr 1
 have e1:(l.flatMap aW++rest).take (l.length*2)=l.flatMap aW:=by rw[<-h1,List.take_left]
 have e2:(l.flatMap aW++rest).drop (l.length*2+(m.flatMap aW).length)=rest.drop (2*m.length):=by
  rw[<-h1,<-List.drop_drop,List.drop_left,h2];congr 1;omega
 rw[e1,e2,List.flatMap_append]
theorem Gz{es:List Ed}{e:Nat}{a y x:Int}{rest:List Value}(h:es[e]?=some (a,y)):(es.flatMap aW++rest)[0+e*2+1*1]?=some (.int .i64 y)/\(es.flatMap aW++rest).set (0+e*2+1*1) (.int .i64 x)=(es.set e (a,x)).flatMap aW++rest:=by
 induction es generalizing e with
 | nil=>cases h
 | cons p es ih=>
  cases e with
  | zero=>
   cases h;exact⟨rfl,rfl⟩
  | succ e=>
   have h':es[e]?=some (a,y):=h;obtain⟨h1,h2⟩:=ih h';rw[show 0+(e+1)*2+1*1=(0+e*2+1*1)+1+1 by omega];refine⟨h1,?_⟩;show Value.int .i64 p.1::Value.int .i64 p.2::(es.flatMap aW++rest).set _ _=_;rw[h2];rfl
theorem GA(E:eA A){n:Int}{e:Nat}{ev:Value}{es:List Ed}(hm:kK n es)(he:bL H nx 2 aW ev es)(oX:e<es.length)(hn:n<1024)(dx:es.length<3072) :
  WF A 68 [.agg #[.int .i64 n,ev],.int .i64 (e:Int)] H nx λx H' nx'=>aq H H' nx/\nx<=nx'/\∃oA,x=oneOf [.agg #[.int .i64 (n+1),oA],.int .i64 0]/\Aa H' nx nx' oA (dW n es e):=by
 obtain⟨base,ec,rfl⟩:=he.form;obtain⟨m0,m1,m2,_⟩:=id hm;have cG:es≠[]:=λh=>by subst h;simp at oX
 have SB:=aM oX;generalize hpe:es[e]=pe at SB;obtain⟨a,y⟩:=pe;have m9:es.getD e (0,0)=(a,y):=by rw[aY,SB];rfl
 refine WF.enter (E.h rfl _ _ _) E.Kk ?_;have bF:aq H (aC (aC H nx [.int .i64 n,.slice base es.length ec]) (nx+1) [.int .i64 0,.slice none 0 0]) nx:=(aq.refl.set (au _)).set V
 repeat' (first|refine aE ?_|fail)
 refine WO.cn rfl ?_;refine(E.agA ((he.same bF).up V)).of ?_;rintro _ H1 aQ ⟨rfl,bt,cH⟩;rw[fB hm];have bu:=bF.trans bt V;have a4:ah H1 (at_ nx)=some (.cells [.int .i64 n,.slice base es.length ec]):=(bt nx V).trans (ay V aj);have a5:ah H1 (at_ (nx+1))=some (.cells [.int .i64 0,.slice none 0 0]):=(bt (nx+1) V).trans aj
 repeat' (first|refine aE ?_|(refine bJ ?_ ?_<;>intro h<;>(try simp only[aL]at h))|fail)
 all_goals try (exfalso;omega)
 have MX:=(he.same bu).up (show nx<=aQ by omega);have hcp:WF A 94 [.agg #[.int .i64 n,.slice base es.length ec]] H1 aQ λx H' nx'=>aq H1 H' aQ/\aQ<=nx'/\∃b,x=.agg #[.int .i64 n,.slice (some ⟨b,0,some 2⟩) es.length (2*(es.length+1)+1)]/\aQ<=b/\b<nx'/\∃rest,rest.length=2/\ah H' (at_ b)=some (.cells (es.flatMap aW++rest)):=by
  refine WF.enter (E.h rfl _ _ _) E.FH ?_;have bN:aq H1 (aC (aC H1 aQ [.int .i64 n,.slice base es.length ec]) (aQ+1) [.int .i64 0,.slice none 0 0]) aQ:=(aq.refl.set (au _)).set V;have b0:Rd (aC (aC H1 aQ [.int .i64 n,.slice base es.length ec]) (aQ+1) [.int .i64 0,.slice none 0 0]) aQ [.int .i64 n,.slice base es.length ec]:=Rd.skip V Rd.self
  repeat' (first|refine aE ?_|fail)
  have de:=bN.set (cs:=bj [Value.int .i64 (0:Int),.int .i64 0] (es.length+1)) (show aQ<=aQ+1+1 by omega);have b1:=Rd.skip (b:=aQ) (c:=aQ+1+1) (ds:=bj [Value.int .i64 (0:Int),.int .i64 0] (es.length+1)) V b0;have he3:=(MX.same de).up (show aQ<=aQ+1+1+1 by omega);have oY:(bj [Value.int .i64 (0:Int),.int .i64 0] (es.length+1)).length=(es.length+1)*2:=dE _ _;refine WO.na rfl ?_;refine bG.of (Act.room (l:=[]) (m:=es) (rest:=bj [Value.int .i64 (0:Int),.int .i64 0] (es.length+1)) rfl rfl (he3.src (λ_=>rfl)) cG aj V (by rw[bU];simp only[gp];omega)) ?_;rw[qQ];have b2:=Rd.skip (b:=aQ) (c:=aQ+1+1) (ds:=es.flatMap aW++(bj [Value.int .i64 (0:Int),.int .i64 0] (es.length+1)).drop (2*es.length)) V b1;refine⟨bB.look rfl b2 rfl rfl (by simp[mc,ff]) .nil,?_⟩
  repeat' (first|refine aE ?_|fail)
  refine kA rfl aj rfl ⟨((de.set V).set V),V,aQ+1+1,rfl,V,V,(bj [Value.int .i64 (0:Int),.int .i64 0] (es.length+1)).drop (2*es.length),by rw[pf];omega,ay V aj⟩
 refine WO.cn rfl ?_;refine hcp.of ?_;rintro _ H2 nx2 ⟨bN,fg,b,rfl,dS,k9,rest,s8,bH⟩;have bV:=bu.trans bN V;have a42:=(bN nx V).trans a4;have a52:=(bN (nx+1) V).trans a5;have hf:=Gz (rest:=rest) (x:=n) SB;obtain⟨jP,kH⟩:=hf;have hlen:=iB es;have kI:(es.flatMap aW++rest).length=es.length*2+2:=by rw[cm];omega
 have Ra:=Rd.own bH;have U8:(es.set e (a,n)).length=es.length:=by simp
 repeat' (first|refine aE ?_|fail)
 refine WO.n rfl ?_;refine bG.of (Act.room (b:=b) (l:=es.set e (a,n)) (m:=[(n,y)]) (rest:=rest) (by rw[U8];rfl) rfl (nH Rd.self) (by simp) (ay V (by rw[<-kH];exact aj)) (by simp only[hO,gp];omega) (by rw[bU];simp only[hO,gp];omega)) ?_;have AF:es.set e (a,n)++[(n,y)]=dW n es e:=by unfold dW;rw[m9]
 rw[AF];have hdr:rest.drop (2 * [(n,y)].length)=[]:=by rw[List.drop_eq_nil_iff];simp only[hO,gp];omega
 rw[hdr,gN];have dZ:∀X1 X2 X3 X4:List Value,aq H (aC (aC (aC (aC (aC H2 nx2 X1) nx2 X2) b X3) (nx2+1) X4) b ((dW n es e).flatMap aW)) nx:=λX1 X2 X3 X4=>((((bV.set V).set V).set V).set V).set V
 generalize hH:aC (aC (aC _ _ _) _ _) b _=H3;have g1:ah H3 (at_ nx2)=some (.cells [.int .i64 n,.slice (some ⟨b,0,some 2⟩) es.length (2*(es.length+1)+1)]):=by
  rw[<-hH];exact ay V (ay V (ay V aj))
 have g2:ah H3 (at_ b)=some (.cells ((dW n es e).flatMap aW)):=by rw[<-hH];exact aj
 have de:aq H H3 nx:=by rw[<-hH];exact dZ _ _ _ _
 have g3:ah H3 (at_ (nx+1))=some (.cells [.int .i64 0,.slice none 0 0]):=by
  rw[<-hH];exact ay V (ay V (ay V (ay V (ay V a52))))
 clear hH dZ
 repeat' (first|refine aE ?_|fail)
 refine B1 rfl aj rfl rfl ⟨((de.set V).set V).set V,V,_,rfl,b,_,rfl,by rw[jx,bU];omega,V,V,ay V (ay V (ay V g2))⟩
theorem dK.ZS{lo b w d c:Nat}{us:List Value}{r:List (List Int)}{l':List Int}(h:dK H lo nx b us r)(hw:us[w]?=some (.slice (some ⟨d,0,some 1⟩) l'.length c))(hl:l'.length=(r.getD w []).length)(hwr:w<r.length)(hd:d≠b) :
  dK (aC H d (mi l')) lo nx b us (r.set w l'):=by
 obtain⟨h1,h2,h3,h4,h5,h6⟩:=h;have ZT:r[w]?=some (r.getD w []):=by rw[aY,aM hwr];rfl
 refine⟨h1,h2,ay (λe=>hd e.symm) h3,by rw[iq];exact h4,λi u l hu mR=>?_,h6⟩;by_cases c1:w=i
 ·subst c1;rw[fZ,aJ rfl,aJ hwr]at mR;cases mR;rw[hl]at hw;rw[hw]at hu;cases hu;rcases h5 w _ _ hw ZT with⟨e,_⟩|⟨q,c2,e,g1,g2,g3,g4,g5,g6,g7⟩
  ·cases e
  ·cases e;exact .inr ⟨d,c,by rw[hl],V,V,g3,g4,g5,g6,aj⟩
 ·rw[fZ,aw c1]at mR;exact(h5 i u l hu mR).frame (λq _ _ hq=>ay (λe=>c1 (h6 w i _ _ q hw hu (by rw[e];rfl) hq)) rfl) (au _)
theorem R5{n:Int}{es:List Ed}{r:List (List Int)}{e w i:Nat}(h0:aH n es r=0)(hw:w<r.length)(hi:(r.getD w [])[i]?=some ((2*e+1:Nat):Int)):r.set w ((r.getD w []).set i ((2*es.length+1:Nat):Int))=r.map (λl=>l.map (mZ e es.length)):=by
 have gu:∀v,v<r.length->v≠w->∀x∈r.getD v [],mZ e es.length x=x:=λv hv hvw x hx=>by
  unfold mZ;rw[aw];intro c;obtain⟨a,ea,_,e1⟩:=dw h0 hv hx;obtain⟨b,eb,_,e2⟩:=dw h0 hw (dM hi);have:a=b:=V;subst this;omega
 have Fb:=iY h0 hw;obtain⟨jT,hie⟩:=cS.1 hi;apply mb;intro v;rw[fZ,eD];by_cases c:w=v
 ·subst c;have hg:r[w]?=some (r.getD w []):=by rw[aY,aM hw];rfl
  rw[aJ rfl,aJ hw,hg];show some _=some _
  congr 1
  generalize r.getD w []=l at *
  apply mb;intro j;rw[fZ,eD];by_cases c2:i=j
  ·subst c2;rw[aJ rfl,aJ jT,hi];show some _=some _;unfold mZ;rw[aJ rfl]
  ·rw[aw c2];cases hj:l[j]? with
   | none=>rfl
   | some x=>
    show some x=some (mZ e es.length x);unfold mZ;rw[aw];intro e';subst e';exact c2 (qf Fb hi hj)
 ·rw[aw c];by_cases hv:v<r.length
  ·have hg:r[v]?=some (r.getD v []):=by rw[aY,aM hv];rfl
   rw[hg];show some _=some ((r.getD v []).map (mZ e es.length))
   congr 1
   have:=List.map_congr_left (f:=mZ e es.length) (g:=id) (l:=r.getD v []) (λx hx=>gu v hv (λe=>c e.symm) x hx);rw[this,List.map_id]
  ·rw[gx V];rfl
theorem dK.push{lo b q c1:Nat}{us:List Value}{r:List (List Int)}{l:List Int}(h:dK H lo nx b us r)(hq:ah H (at_ q)=some (.cells (mi l)))(hqn:q<nx)(hl:l.length<=aF c1)(hb:ah H' (at_ nx)=some (.cells (us++[.slice (some ⟨q,0,some 1⟩) l.length c1])))(hs:aq H H' nx) :
  er H' (nx+1) 1 aZ (.slice (some ⟨nx,0,some 1⟩) (r.length+1) (2*(r.length+1))) (r++[l]):=by
 refine⟨us++[.slice (some ⟨q,0,some 1⟩) l.length c1],by simp[h.len],?_,λi u f hu hf=>?_⟩
 ·have:=bL.pre (H:=H') (nx:=nx+1) (z:=1) (enc:=Ft) (xs:=us++[.slice (some ⟨q,0,some 1⟩) l.length c1]) (b:=nx) (c:=2*(r.length+1)) (rest:=[]) (.inl (by rw[ln,gN];exact hb)) V (by rw[bT];simp[h.len]) (λ_=>rfl);rw[cm,h.len]at this;exact this
 ·rcases rD i us.length with c|c
  ·rw[eC c]at hu;rw[eC (by rw[<-h.len];exact c)]at hf;exact((h.row i u f hu hf).sle.same hs).up (cE _)
  ·rw[aiQ c]at hu;rw[aiQ (by rw[<-h.len];exact c)]at hf;have BA:i-us.length=0:=by
    cases h9:i-us.length with
    | zero=>rfl
    | succ m=>rw[h9]at hu;simp at hu
   rw[BA]at hu;rw[show i-r.length=0 by rw[<-h.len];exact BA]at hf;cases hu;cases hf;have:=bL.pre (H:=H') (nx:=nx+1) (z:=1) (enc:=aZ) (xs:=l) (b:=q) (c:=c1) (rest:=[]) (.inl (by rw[gN,fj];exact(hs q hqn).trans hq)) V hl (λ_=>rfl);exact this
theorem GB(E:eA A){n:Int}{m e:Nat}{ev rv:Value}{es:List Ed}{r:List (List Int)}(h0:aH n es r=0)(iL:n=(m:Int))(he:bL H nx 2 aW ev es)(hr:er H nx 1 aZ rv r)(oX:e<es.length)(hn:n<1024)(dx:es.length<3072) :
  WF A 34 [.agg #[.int .i64 n,ev],rv,.int .i64 (e:Int)] H nx λx H' nx'=>aq H H' nx/\nx<=nx'/\∃oA b c us,x=oneOf [.agg #[.int .i64 (n+1),oA],.slice (some ⟨b,0,some 1⟩) (r.length+1) c,.int .i64 0]/\r.length+1<=aF c/\Aa H' nx nx' oA (dW n es e)/\dK H' nx nx' b us (kC es.length e r)/\SJ b us oA:=by
 obtain⟨base,ec,rfl⟩:=he.form;obtain⟨rb,rc,rfl⟩:=hr.form;have cD:=cC h0;obtain⟨hm,hl,_⟩:=bR h0;obtain⟨m0,m1,m2,_⟩:=id hm;have oY:=cD.1;have ahC:r.length<=1024:=V;subst iL;obtain⟨w,hw,hwe,IN⟩:=xu h0 (h:=2*e+1) V;have U9:=tW h0 oX hn dx;obtain⟨y,y1,y2⟩:∃y:Int×Int,es[e]?=some y/\y.2=(w:Int):=by
  refine⟨es[e],aM oX,?_⟩;unfold bZ at hwe;rw[aw V,show (2*e+1) / 2=e by omega,aY,aM oX]at hwe;exact hwe
 obtain⟨ya,yw⟩:=y;simp only at y2;subst y2;refine WF.enter (E.h rfl _ _ _) E.Kh ?_;have bF:aq H (aC (aC H nx [.int .i64 (m:Int),.slice base es.length ec]) (nx+1) [.int .i64 0,.slice none 0 0]) nx:=(aq.refl.set (au _)).set V
 repeat' (first|refine aE ?_|fail)
 refine WO.cn rfl ?_;refine(E.Rt (n:=(m:Int)) ((he.same bF).up V) ((hr.same bF).up V) cD).of ?_;rintro _ H1 aQ ⟨rfl,bt,cH⟩;have bu:=bF.trans bt V;have a4:ah H1 (at_ nx)=some (.cells [.int .i64 (m:Int),.slice base es.length ec]):=(bt nx V).trans (ay V aj);have a5:ah H1 (at_ (nx+1))=some (.cells [.int .i64 0,.slice none 0 0]):=(bt (nx+1) V).trans aj;rw[h0]
 repeat' (first|refine aE ?_|(refine bJ ?_ ?_<;>intro h<;>(try simp only[aL]at h))|fail)
 all_goals try (exfalso;omega)
 refine WO.cn rfl ?_;refine(GA E hm ((he.same bu).up V) oX hn dx).of ?_;rintro _ H2 nx2 ⟨bN,fg,ev2,rfl,FQ⟩;have bV:=bu.trans bN V;have b4:=(bN nx V).trans a4;have b5:=(bN (nx+1) V).trans a5;obtain⟨eb,ec2,rfl,U2,ZO,RX,DG⟩:=FQ
 repeat' (first|refine aE ?_|(refine bJ ?_ ?_<;>intro h<;>(try simp only[aL]at h))|fail)
 all_goals try (exfalso;omega)
 generalize SL:aC (aC H2 nx2 _) nx2 _=H3;have n3:ah H3 (at_ nx2)=some (.cells [.int .i64 ((m:Int)+1),.slice (some ⟨eb,0,some 2⟩) (dW (m:Int) es e).length ec2]):=by rw[<-SL];exact aj
 have B2:aq H2 H3 nx2:=by rw[<-SL];exact(aq.refl.set (au _)).set (au _)
 clear SL;have dZ:=bV.trans B2 V;have aih:=(he.same dZ).up (show nx<=nx2+1 by omega);refine WO.cn rfl ?_;refine(tT E ((hr.same dZ).up (show nx<=nx2+1 by omega)) cD).of ?_;rintro _ H4 dA ⟨fA,oO,cb,us,rfl,hu⟩;have eW:=dZ.trans fA V;have c4:=(fA nx V).trans ((B2 nx V).trans b4);have c5:=(fA (nx+1) V).trans ((B2 (nx+1) V).trans b5);have n4:=(fA nx2 V).trans n3;have ed4:=(fA eb V).trans ((B2 eb RX).trans DG);obtain⟨u,hg,Nu,dv⟩:=hu.at hw;have iu:0<(r.getD w []).length:=List.length_pos_of_mem IN;have aii:=jw h0 w;obtain⟨d,dc,rfl,hd0,PJ,Jd,RR,hd4,hd5,hd6⟩:∃d c,u=.slice (some ⟨d,0,some 1⟩) (r.getD w []).length c/\0<(r.getD w []).length/\(r.getD w []).length<=aF c/\aF c<=9223372036854775807/\nx2+1<=d/\d<dA/\d≠cb/\ah H4 (at_ d)=some (.cells (mi (r.getD w []))):=by
  rcases id dv with⟨_,e⟩|h
  ·rw[e]at iu;simp at iu
  ·exact h
 have LC:=hu.cells;have aij:=hu.h2;have F5:=hu.h1;obtain⟨gb,go,gcs,rfl,G6,_,_,ZT,m9⟩:=he.at (by intro h;rw[h]at oX;simp at oX);obtain⟨_,q2⟩:=J2 (v:=.int .i64 ya) (u:=.int .i64 (w:Int)) (m9 e _ y1);have q2':gcs[go+e*2+1*1]?=some (.int .i64 (w:Int)):=q2;have aik:=eW.rd G6 ZT;have ail:=Rd.own LC
 repeat' (first|refine aE ?_|fail)
 refine WO.cn rfl ?_;refine(j4 E (x:=((2*e+1:Nat):Int)) dv.sle V).of ?_;rintro _ H4' acW ⟨e1,e2,⟨i,rfl,xr,_⟩|⟨_,gu⟩⟩
 case inr=>exact absurd IN gu
 rw[e1,e2];clear e1 e2 H4' acW;have jT:i<(r.getD w []).length:=(cS.1 xr).1;have aim:(mi (r.getD w [])).length=(r.getD w []).length:=mY _;have acX:=R5 h0 hw xr;have Pk:(mi (r.getD w [])).set (0+i*1) (.int .i64 ((2*es.length+1:Nat):Int))=mi ((r.getD w []).set i ((2*es.length+1:Nat):Int)):=by
  unfold mi;rw[show 0+i*1=i by omega,List.map_set]
 repeat' (first|refine aE ?_|fail)
 rw[Pk];have hl5:((r.getD w []).set i ((2*es.length+1:Nat):Int)).length=(r.getD w []).length:=iq ..;have hu5:=hu.ZS (w:=w) (d:=d) (c:=dc) (l':=(r.getD w []).set i ((2*es.length+1:Nat):Int)) (by rw[hl5];exact hg) hl5 hw hd5;rw[acX]at hu5;have s45:∀x,x<nx2+1->ah (aC H4 d (mi ((r.getD w []).set i ((2*es.length+1:Nat):Int)))) (at_ x)=ah H4 (at_ x):=λx hx=>by rw[ak,aw V]
 generalize aC H4 d (mi ((r.getD w []).set i ((2*es.length+1:Nat):Int)))=H5 at *
 have j6:aq H H5 nx:=λx hx=>(s45 x V).trans (eW x hx)
 generalize Jb:aC (aC H5 dA _) (dA+1) _=H6;have Wp:aq H5 H6 dA:=by rw[<-Jb];exact(aq.refl.set (au _)).set V
 have k1:ah H6 (at_ dA)=some (.cells (mi [((2*e+1:Nat):Int),((2*es.length:Nat):Int)])):=by rw[<-Jb];exact ay V aj
 have k2:ah H6 (at_ (dA+1))=some (.cells [.slice (some ⟨dA,0,some 1⟩) 2 (2*2+1)]):=by rw[<-Jb];exact aj
 clear Jb;have NQ:=hu5.same Wp (show dA<=dA+1+1 by omega);have iF:us.length=r.length:=hu.len;have Tm:(r.map (λl=>l.map (mZ e es.length))).length=r.length:=by simp
 refine WO.n rfl ?_;refine bG.of (Act.tx (cs:=us) (old:=us) rfl rfl (dL (Rd.own k2) rfl) V V rfl NQ.cells (by rw[Nat.mul_one,NZ,take?_of _ _ V,<-iF,iJ]) (by rw[bU];omega) (u3 _) (by unfold small;omega) (by unfold small;omega)) ?_;have zG:=NQ.push (H':=aC H6 (dA+1+1) (us++[.slice (some ⟨dA,0,some 1⟩) 2 (2*2+1)])) (q:=dA) (c1:=2*2+1) (l:=[((2*e+1:Nat):Int),((2*es.length:Nat):Int)]) k1 V (by show 2<=5 / 2;decide) aj (aq.refl.set (au _));rw[Tm]at zG;have wR:aq H (aC H6 (dA+1+1) (us++[.slice (some ⟨dA,0,some 1⟩) 2 (2*2+1)])) nx:=(j6.trans Wp V).set V;have s67:∀x,x<nx2+1->ah (aC H6 (dA+1+1) (us++[.slice (some ⟨dA,0,some 1⟩) 2 (2*2+1)])) (at_ x)=ah H4 (at_ x):=λx hx=>by rw[ak,aw V];exact(Wp x V).trans (s45 x hx)
 generalize aC H6 (dA+1+1) (us++[.slice (some ⟨dA,0,some 1⟩) 2 (2*2+1)])=H7 at *
 have c57:=(s67 (nx+1) V).trans c5;have n7:=(s67 nx2 V).trans n4;have ed7:=(s67 eb V).trans ed4;have R6:bL H7 (dA+1+1+1) 2 aW (.slice (some ⟨eb,0,some 2⟩) (dW (m:Int) es e).length ec2) (dW (m:Int) es e):=.pre (rest:=[]) (.inl (by rw[gN];exact ed7)) V U2 (λ_=>rfl);have oG:=sm E U9 R6 zG (cC U9)
 repeat' (first|refine aE ?_|fail)
 refine WO.cn rfl ?_;refine oG.of ?_;rintro _ H8 RP ⟨DA,hn8,b3,c3,G8,rfl,q8,DJ⟩;have Wq:(lU es.length e r).length=r.length+1:=j5 _ _ _;have c58:=(DA (nx+1) V).trans c57;have n8:=(DA nx2 V).trans n7;have ed8:=(DA eb V).trans ed7
 repeat' (first|refine aE ?_|fail)
 refine qK rfl aj rfl rfl rfl ⟨(wR.trans DA V).set V,V,_,b3,c3,G8,by rw[Wq];rfl,by rw[<-Wq];exact q8,⟨eb,ec2,rfl,U2,V,V,ay V ed8⟩,(DJ.frame (λx h1 h2=>by rw[ak,aw V]) (au _)).low V,DJ.off (λx hx=>by cases hx;exact .inl V)⟩
end
section
variable {A:aN}{H H':Heap}{nx nx':Nat}{σ:aR}{L:List Value}{Q:cw}
def K1(n u i:Nat):List Nat:=u::(List.range i).map (λj=>n+j)
theorem R7(n u i:Nat):K1 n u (i+1)=K1 n u i++[n+i]:=by unfold K1;rw[K8,jG];rfl
theorem DK(n u i:Nat):(K1 n u i).length=i+1:=by unfold K1;simp
theorem GC(n u v k:Nat):stops n u v k=K1 n u k++[v]:=rfl
def GD(H:Heap)(nxa pb nx:Nat)(wv ev tv:Value)(s:xx):Prop:=
 (bL H nxa 2 aW ev s.1/\er H nxa 1 aZ tv s.2)\/∃lo b c us,pb<lo/\lo<=nx/\(∀d,bk wv=some d->d<lo)/\Aa H lo nx ev s.1/\tv=.slice (some ⟨b,0,some 1⟩) s.2.length c/\s.2.length<=aF c/\dK H lo nx b us s.2/\SJ b us ev
theorem GD.at{nxa pb:Nat}{wv ev tv:Value}{s:xx}(h:GD H nxa pb nx wv ev tv s)(ha:nxa<=pb)(hp:pb<nx)(hf:∀d,d<nx->d≠pb->bk wv≠some d->ah H' (at_ d)=ah H (at_ d))(hw:∀d,bk wv=some d->pb<d)(hn:nx<=nx'):bL H' nx' 2 aW ev s.1/\er H' nx' 1 aZ tv s.2:=by
 rcases h with⟨h1,h2⟩|⟨lo,b,c,us,h1,h2,h3,h4,rfl,h5,h6,_⟩
 ·have hs:aq H H' nxa:=λd hd=>hf d V V (λe=>by have:=hw d e;omega)
  exact⟨(h1.same hs).up V,(h2.same hs).up V⟩
 ·have hs:∀d,lo<=d->d<nx->ah H' (at_ d)=ah H (at_ d):=λd h7 h8=>hf d h8 V (λe=>by have:=h3 d e;omega)
  exact⟨(h4.frame hs hn).sle,(h6.frame hs hn).FW h5⟩
theorem lS.blk{lo d:Nat}{v:Value}{xs:List Int}(h:lS H lo nx v xs)(hd:bk v=some d):lo<=d/\d<nx:=by
 obtain⟨b,c,cs,rfl,h2,h3,_⟩:=h;cases hd;exact⟨h2,h3⟩
theorem lS.form{lo:Nat}{v:Value}{xs:List Int}(h:lS H lo nx v xs):∃a c,v=.slice a xs.length c:=by
 obtain⟨b,c,cs,rfl,_⟩:=h;exact⟨_,_,rfl⟩
structure SpW(nxa pb:Nat)(H0:Heap)(n u:Nat)(s:xx)(i:Nat)(H:Heap)(nx:Nat)(stv ev tv:Value):Prop where
 same:aq H0 H pb
 cell:ah H (at_ pb)=some (.cells [.int .i64 ((n+i:Nat):Int),ev])
 pn:pb<nx
 held:GD H nxa pb nx stv ev tv s
 Wd:lS H (pb+1) nx stv (aT (K1 n u i))
theorem ZU(E:eA A){n u v qb pb nxa:Nat}{sv rtv ZV NR Ji e0:Value}{es:List Ed}{r:List (List Int)}{l:List Nat}{H0:Heap}(h0:aH (n:Int) es r=0)(hl:∀j,j<l.length->l.getD j 0<2*es.length)(hn:n+l.length<=1024)(hm:es.length+l.length<=3072)(ha:nxa<=pb)(hq:qb<pb)(hqc:ah H0 (at_ qb)=some (.cells [.int .i64 0,.slice none 0 0]))(Jj:bL H0 pb 1 aZ rtv (aT l))(hS:SpW nxa pb H0 n u (dH n es r l 0) 0 H nx ZV NR Ji)(bq:∀σ H' nx' stv ev tv e,bD [(S3,.int .i64 (v:Int)),(S8,.pointer (some ⟨qb,0,none⟩)),(kX,sv),(kD,.pointer (some ⟨pb,0,none⟩)),(jA,tv),(ry,stv),(r5,e)] σ->SpW nxa pb H0 n u (dH n es r l l.length) l.length H' nx' stv ev tv->nx<=nx'->Q (.exit 0) σ H' nx') :
  WC A (.loop yD) [(S3,.int .i64 (v:Int)),(S8,.pointer (some ⟨qb,0,none⟩)),(kX,sv),(kD,.pointer (some ⟨pb,0,none⟩)),(jA,Ji),(ry,ZV),(r5,e0),(TW,rtv),(S81,.int .i64 ((l.length:Nat):Int)),(S82,.int .i64 0)] H nx Q:=by
 have gg:=bK l;obtain⟨ra,rc,rfl⟩:=Jj.form;rw[gg];refine WC.loop (α:=Nat×Value×Value×Value×Value) (λs=>[(S3,.int .i64 (v:Int)),(S8,.pointer (some ⟨qb,0,none⟩)),(kX,sv),(kD,.pointer (some ⟨pb,0,none⟩)),(jA,s.2.1),(ry,s.2.2.1),(r5,s.2.2.2.2),(TW,.slice ra l.length rc),(S81,.int .i64 ((l.length:Nat):Int)),(S82,.int .i64 ((s.1:Nat):Int))])
  (λs H' nx'=>s.1<=l.length/\nx<=nx'/\SpW nxa pb H0 n u (dH n es r l s.1) s.1 H' nx' s.2.2.1 s.2.2.2.1 s.2.1) (λs=>l.length-s.1)
  ?_ (0,Ji,ZV,NR,e0) aX ⟨bS _,au _,hS⟩
 rintro⟨i,tv,stv,ev,e⟩ H1 aQ ⟨hi,cH,W⟩;simp only at hi W ⊢;unfold yD
 repeat' (first|refine aE ?_|(refine bJ ?_ ?_<;>intro h<;>(try simp only[aL]at h))|fail)
 ·have jT:i<l.length:=V;obtain⟨w1,w2,w3,w4,w5⟩:=W;obtain⟨lb,lo,lcs,rfl,tY,_,_,sr,jC⟩:=Jj.at (by intro e;rw[e]at gg;simp at gg;omega);have gY:(aT l)[i]?=some ((l.getD i 0:Nat):Int):=by
   unfold aT;rw[eD,aY,aM jT];rfl
  have q1:=cX (v:=.int .i64 ((l.getD i 0:Nat):Int)) (jC i _ gY);have ZW:=w1.rd tY sr;have hli:=hl i jT;have w2R:=Rd.own w2;have vh:=bK (K1 n u i);have agB:=DK n u i
  repeat' (first|refine aE ?_|fail)
  refine WO.n rfl ?_;have R8:=w5.own (H':=aC H1 aQ [.int .i64 ((n+i:Nat):Int)]) (nx':=aQ+1) (λb hb=>ay (by have:=(w5.blk hb).2;omega) rfl) V;refine bG.KL rfl rfl Rd.self R8 V (by unfold small;omega) (by unfold small;omega) (λv2 H2 nx2 fg ZX kH k9=>?_);have MR:∀d,bk stv=some d->pb<d/\d<aQ:=λd hd=>by have:=w5.blk hd;omega
  have zH:∀d,d<aQ->bk stv≠some d->ah H2 (at_ d)=ah H1 (at_ d):=λd h1 h2=>(kH d V h2).trans (ay V rfl)
  have Dj:ah H2 (at_ pb)=some (.cells [.int .i64 ((n+i:Nat):Int),ev]):=(zH pb w3 (λe=>by have:=(MR pb e).1;omega)).trans w2;obtain⟨CC,um⟩:=w4.at ha w3 (H':=H2) (nx':=nx2) (λd h1 _ h3=>zH d h1 h3) (λd hd=>(MR d hd).1) V;have bV:aq H0 H2 pb:=λd hd=>(zH d V (λe=>by have:=(MR d e).1;omega)).trans (w1 d hd)
  have S:=Dx h0 hl hn hm i hi;obtain⟨e1,e2⟩:=jy n es r l i;have oY:=(bR S.zi).2.1;have Xa:=GB E (m:=n+i) (e:=l.getD i 0 / 2) S.zi rfl CC um V V V;have oK:dH n es r l (i+1)=(dW ((n+i:Nat):Int) (dH n es r l i).1 (l.getD i 0 / 2),kC (dH n es r l i).1.length (l.getD i 0 / 2) (dH n es r l i).2):=rfl;have NL:(kC (dH n es r l i).1.length (l.getD i 0 / 2) (dH n es r l i).2).length=(dH n es r l i).2.length+1:=nJ _ _ _;generalize hsE:dW ((n+i:Nat):Int) (dH n es r l i).1 (l.getD i 0 / 2)=sE at *
  generalize hsR:kC (dH n es r l i).1.length (l.getD i 0 / 2) (dH n es r l i).2=sR at *
  obtain⟨v2a,v2c,rfl⟩:=ZX.form;obtain⟨ea,ec,rfl⟩:=CC.form;obtain⟨ta,tc,rfl⟩:=um.form;have acY:=Rd.own Dj
  repeat' (first|refine aE ?_|fail)
  refine WO.cn rfl ?_;refine Xa.of ?_;rintro _ H3 bW ⟨de,j8,ev3,b3,c3,G8,rfl,q8,GF,DJ,R9⟩;have Va:=(de pb V).trans Dj;obtain⟨e3b,e3c,rfl,h3c,h3l,h3h,h3g⟩:=id GF
  repeat' (first|refine aE ?_|(refine bJ ?_ ?_<;>intro h<;>(try simp only[aL]at h))|fail)
  ·exfalso;omega
  have Sa:=λd (hd:bk (.slice v2a (aT (K1 n u i)++[((n+i:Nat):Int)]).length v2c)=some d)=>ZX.blk hd
  refine⟨(i+1,.slice (some ⟨b3,0,some 1⟩) ((dH n es r l i).2.length+1) c3,.slice v2a (aT (K1 n u i)++[((n+i:Nat):Int)]).length v2c,.slice (some ⟨e3b,0,some 2⟩) sE.length e3c,.int .i64 0),by show l.length-(i+1)<l.length-i;omega,aX,by show i+1<=_;omega,V,?_,?_,by show pb<bW;omega,?_,?_⟩
  ·show aq H0 (aC H3 pb _) pb;exact(bV.trans de V).set (au _)
  ·show ah (aC H3 pb _) (at_ pb)=_;rw[aj];show some (jb.cells [Value.int .i64 (((n+i:Nat):Int)+1),_])=some (jb.cells [Value.int .i64 ((n+(i+1):Nat):Int),_]);rw[show ((n+i:Nat):Int)+1=((n+(i+1):Nat):Int) by omega]
  ·show GD _ nxa pb bW _ _ _ (dH n es r l (i+1));rw[oK];refine .inr ⟨nx2,b3,c3,G8,V,V,λd hd=>(Sa d hd).2,GF.frame (λd h1 h2=>ay V rfl) (au _),by rw[<-NL],by rw[NL];exact q8,DJ.frame (λd h1 h2=>ay V rfl) (au _),R9⟩
  ·show lS _ (pb+1) bW _ (aT (K1 n u (i+1)));rw[R7,ek];exact ZX.own (λd hd=>(ay (by have:=(Sa d hd).1;omega) rfl).trans (de d (Sa d hd).2)) V
 ·have:i=l.length:=V;subst this;exact bq _ _ _ _ _ _ _ aX W cH
end
section
variable {A:aN}{H H':Heap}{nx nx':Nat}{σ:aR}{L:List Value}{Q:cw}
theorem ue{m:Int}{b:Option Addr}{n c:Nat}:mc (.agg ⟨[.int .i64 m,.slice b n c]⟩) (.agg ⟨[.int .i64 m,.slice b n c]⟩)=true:=by
 show (ff (.int .i64 m) (.int .i64 m)&&(ff (.slice b n c) (.slice b n c)&&true))=true;rw[yA];simp[ff]
def gj(M i:Nat):List Nat:=(List.range i).map (λj=>M+j)
theorem B3(M i:Nat):gj M (i+1)=gj M i++[M+i]:=by unfold gj;rw[K8,jG];rfl
theorem zI(M i:Nat):(gj M i).length=i:=by unfold gj;simp
def acZ(H:Heap)(pb nx:Nat)(wv ev tv:Value)(s:xx):Prop:=
 ∃lo b c us,pb<lo/\lo<=nx/\(∀d,bk wv=some d->d<lo)/\Aa H lo nx ev s.1/\tv=.slice (some ⟨b,0,some 1⟩) s.2.length c/\s.2.length<=aF c/\dK H lo nx b us s.2/\SJ b us ev
structure LyW(nxa pb nb:Nat)(H0:Heap)(n M:Nat)(s:xx)(i:Nat)(H:Heap)(nx:Nat)(wv ev tv:Value):Prop where
 same:∀d,d<nb->d≠pb->ah H (at_ d)=ah H0 (at_ d)
 cell:ah H (at_ pb)=some (.cells [.int .i64 (n:Int),ev])
 pn:nb<=nx
 held:GD H nxa pb nx wv ev tv s
 I8:GN H nb nx wv (aT (gj M i))
 own:0<i->acZ H pb nx wv ev tv s
theorem ZY(E:eA A){n qb pb nb nxa M K:Nat}{sdv stv NR Ji e0:Value}{S:xx}{st ys:List Nat}{H0:Heap}(C:RK (n:Int) S st ys K 0)(hM:S.1.length=M)(hn:n<=1024)(hMK:M+K<=3072)(ha:nxa<=pb)(ng:pb<nb)(hq:qb<pb)(hsd:bL H0 nb 1 aZ sdv (aT ys))(bO:bL H0 nb 1 aZ stv (aT st))(agC:bk sdv≠some pb)(agD:bk stv≠some pb)(Wm:ys.length=K)(vh:st.length=K+1)(hW:LyW nxa pb nb H0 n M S 0 H nx (.slice none 0 0) NR Ji)(bq:∀σ H' nx' wv ev tv,bD [(S8,.pointer (some ⟨qb,0,none⟩)),(kD,.pointer (some ⟨pb,0,none⟩)),(jA,tv),(qZ,wv)] σ->LyW nxa pb nb H0 n M (dI S st ys K) K H' nx' wv ev tv->nx<=nx'->Q (.exit 2) σ H' nx') :
  WC A (.loop yE) [(S8,.pointer (some ⟨qb,0,none⟩)),(kD,.pointer (some ⟨pb,0,none⟩)),(jA,Ji),(ry,stv),(r5,e0),(qZ,.slice none 0 0),(TX,sdv),(PO,.int .i64 ((K:Nat):Int)),(FB,.int .i64 0)] H nx Q:=by
 have Sb:=bK ys;have ac0:=bK st;obtain⟨sda,sdc,rfl⟩:=hsd.form;obtain⟨sta,stc,rfl⟩:=bO.form;refine WC.loop (α:=Nat×Value×Value×Value×Value) (λs=>[(S8,.pointer (some ⟨qb,0,none⟩)),(kD,.pointer (some ⟨pb,0,none⟩)),(jA,s.2.1),(ry,.slice sta (aT st).length stc),(r5,s.2.2.2.2),(qZ,s.2.2.1),(TX,.slice sda (aT ys).length sdc),(PO,.int .i64 ((K:Nat):Int)),(FB,.int .i64 ((s.1:Nat):Int))])
  (λs H' nx'=>s.1<=K/\nx<=nx'/\LyW nxa pb nb H0 n M (dI S st ys s.1) s.1 H' nx' s.2.2.1 s.2.2.2.1 s.2.1) (λs=>K-s.1)
  ?_ (0,Ji,.slice none 0 0,NR,e0) aX ⟨bS _,au _,hW⟩
 rintro⟨i,tv,wv,ev,e⟩ H1 aQ ⟨hi,cH,W⟩;simp only at hi W ⊢;unfold yE
 repeat' (first|refine aE ?_|(refine bJ ?_ ?_<;>intro h<;>(try simp only[aL]at h))|fail)
 ·have jT:i<K:=V;obtain⟨w1,w2,w3,w4,w5,w6⟩:=W;have Ci:=C.at i hi;obtain⟨e1,e2⟩:=lV S st ys i;have jz:∀{q:Nat} {cs:List Value},q<nb->q≠pb->Rd H0 q cs->Rd H1 q cs:=λh1 h2 h=>by unfold Rd;rw[w1 _ h1 h2];exact h
  have hS1:∀{z:Value} {xs:List Int},bk z≠some pb->bL H0 nb 1 aZ z xs->bL H1 nb 1 aZ z xs:=λhz h=>h.blk (λd hd hl=>w1 d hl (λe=>hz (by rw[hd,e]))) (au _)
  have agE:=hS1 agC hsd;have R8:=hS1 agD bO;obtain⟨lb,lo,lcs,rfl,tY,_,_,sr,jC⟩:=agE.at (by intro e;rw[e]at Sb;simp at Sb;omega);have gY:(aT ys)[i]?=some ((ys.getD i 0:Nat):Int):=by
   unfold aT;rw[eD,aY,aM V];rfl
  have q1:=cX (v:=.int .i64 ((ys.getD i 0:Nat):Int)) (jC i _ gY);obtain⟨tb,to,tcs,rfl,htb,_,_,htr,HF⟩:=R8.at (by intro e;rw[e]at ac0;simp at ac0;omega);have hti:∀j,j<=K->(aT st)[j]?=some ((st.getD j 0:Nat):Int):=λj hj=>by
   unfold aT;rw[eD,aY,aM V];rfl
  have q2:=cX (v:=.int .i64 ((st.getD i 0:Nat):Int)) (HF i _ (hti i V));have q3:=cX (v:=.int .i64 ((st.getD (i+1) 0:Nat):Int)) (HF (i+1) _ (hti (i+1) V));have w2R:=Rd.own w2;have hya:=Ci.lt i (au _) jT;have hFa:=Ci.a i (au _) jT;have hFb:=Ci.b i (au _) jT;have cG:=Ci.ne i (au _) jT;have oY:=(bR Ci.zi).2.1;have agF:=(bR Ci.zi).1.2.2.1;obtain⟨ca,ea,ka⟩:=hFa.cor Ci.zi hya;obtain⟨cb,eb,kb⟩:=hFb.cor Ci.zi hya;have oK:dI S st ys (i+1)=((dI S st ys i).1++[(((st.getD i 0:Nat):Int),((st.getD (i+1) 0:Nat):Int))],oD (dI S st ys i).1.length (dI S st ys i).2 (st.getD i 0) (ca:Int) (st.getD (i+1) 0) (cb:Int)):=by
   show tX _ _ _ _=_;unfold tX;rw[ea,eb]
  have hGl:(oD (dI S st ys i).1.length (dI S st ys i).2 (st.getD i 0) (ca:Int) (st.getD (i+1) 0) (cb:Int)).length=(dI S st ys i).2.length:=tU _ _ _ _ _ _;have hAl:((dI S st ys i).1++[(((st.getD i 0:Nat):Int),((st.getD (i+1) 0:Nat):Int))]).length=(dI S st ys i).1.length+1:=by rw[cm];rfl
  have vf:=zI M i;have agG:=bK (gj M i);have MR:∀d,bk wv=some d->pb<d/\d<aQ:=λd hd=>by
   have:=w5.blk hd;omega
  have dx:(dI S st ys i).1.length<3072:=V;have BL:(dI S st ys i).1.length=M+i:=V;generalize hs:dI S st ys i=s at *
  obtain⟨es,r⟩:=s;simp only at *
  obtain⟨wa,wc,rfl⟩:=w5.form;obtain⟨Jk,Jl⟩:=w4.at ha V (H':=H1) (nx':=aQ) (λ_ _ _ _=>rfl) (λd hd=>(MR d hd).1) (au _);obtain⟨ea0,ec0,rfl⟩:=Jk.form;obtain⟨ta0,tc0,rfl⟩:=Jl.form
  repeat' (first|refine aE ?_|fail)
  refine WO.n rfl ?_;refine bG.more (nx0:=nb) (m:=[((es.length:Nat):Int)]) rfl rfl (w5.frame (H':=aC H1 aQ [.int .i64 ((es.length:Nat):Int)]) (nx':=aQ+1) (λd _ h2=>by rw[ak,aw V]) V) (.pre (xs:=[((es.length:Nat):Int)]) (b:=aQ) (c:=2*1+1) (rest:=[]) (.inl aj) V (by show 1<=1;omega) (λ_=>rfl)) V (by simp only[hO,gp];omega) (λv2 H2 nx2 fg g2 bN kH=>?_);have zH:∀d,d<aQ->bk (.slice wa (aT (gj M i)).length wc)≠some d->ah H2 (at_ d)=ah H1 (at_ d):=λd h1 h2=>(kH d V h2).trans (by rw[ak,aw V])
  have fE:∀d,d<nb->ah H2 (at_ d)=ah H1 (at_ d):=λd hd=>zH d V (λe=>by have:=(w5.blk e).1;omega)
  obtain⟨CC,um⟩:=w4.at ha V (H':=H2) (nx':=nx2) (λd h1 _ h3=>zH d h1 h3) (λd hd=>(MR d hd).1) V;have Dj:=(fE pb ng).trans w2;have Nb:Rd H2 lb lcs:=by unfold Rd;rw[fE _ tY];exact sr
  have agH:Rd H2 tb tcs:=by unfold Rd;rw[fE _ htb];exact htr
  have acY:=Rd.own Dj;obtain⟨v2a,v2c,rfl⟩:=g2.form;have J4:=λd (hd:bk (.slice v2a (aT (gj M i)++[((es.length:Nat):Int)]).length v2c)=some d)=>g2.blk hd
  clear sr htr w2R kH bN
  repeat' (first|refine aE ?_|fail)
  refine WO.ca rfl ?_;refine(ud E (m:=n) (v:=st.getD i 0) (y:=ys.getD i 0) Ci.zi rfl CC um hya hFa).of ?_;rintro _ H3 bW ⟨de,j8,rfl⟩;have Va:=(de pb V).trans Dj;have agI:=de.rd V agH;have ac1:=Rd.own Va;refine⟨bB.look rfl agI (gD q3) rfl (by simp[mc,ff]) (bB.look rfl ac1 rfl rfl ue .nil),?_⟩;refine WO.cn rfl ?_;refine(ud E (m:=n) (v:=st.getD (i+1) 0) (y:=ys.getD i 0) Ci.zi rfl ((CC.same de).up j8) ((um.same de).up j8) hya hFb).of ?_;rintro _ H4 dA ⟨fA,oO,rfl⟩;rw[ea,eb];have vr:aq H2 H4 nx2:=de.trans fA j8;have UD:=(fA pb V).trans Va
  repeat' (first|refine aE ?_|fail)
  generalize hH5:aC (aC (aC (aC H4 dA _) (dA+1) _) dA _) (dA+1) _=H5;have DE:aq H4 H5 dA:=by rw[<-hH5];exact(((aq.refl.set (au _)).set V).set (au _)).set V
  have k1:ah H5 (at_ dA)=some (.cells [.int .i64 ((st.getD i 0:Nat):Int),.int .i64 (ca:Int)]):=by rw[<-hH5];exact ay V aj
  have k2:ah H5 (at_ (dA+1))=some (.cells [.int .i64 ((st.getD (i+1) 0:Nat):Int),.int .i64 (cb:Int)]):=by rw[<-hH5];exact aj
  clear hH5;have ZZ:=vr.trans DE V;have agJ:=(DE pb V).trans UD;have Y3:=M9 E (m:=n) (n:=(n:Int)) Ci.zi rfl ((CC.same ZZ).up (show nx2<=dA+1+1 by omega)) ((um.same ZZ).up (show nx2<=dA+1+1 by omega)) ka kb cG dx
  skip
  refine WO.cn rfl ?_;refine Y3.of ?_;rintro _ H6 DF ⟨G7,Wn,Vb,b6,c6,Vc,rfl,Z0,Jm,NQ,ac2⟩;have agK:=(G7 pb V).trans agJ;have ac3:=ZZ.trans G7 V;obtain⟨e6b,e6c,rfl,h6c,h6l,h6h,h6g⟩:=id Jm
  repeat' (first|refine aE ?_|(refine bJ ?_ ?_<;>intro h<;>(try simp only[aL]at h))|fail)
  ·exfalso;omega
  have mT:acZ (aC H6 pb [.int .i64 (n:Int),.slice (some ⟨e6b,0,some 2⟩) (es++[(((st.getD i 0:Nat):Int),((st.getD (i+1) 0:Nat):Int))]).length e6c]) pb DF (.slice v2a (aT (gj M i)++[((es.length:Nat):Int)]).length v2c) (.slice (some ⟨e6b,0,some 2⟩) (es++[(((st.getD i 0:Nat):Int),((st.getD (i+1) 0:Nat):Int))]).length e6c) (.slice (some ⟨b6,0,some 1⟩) r.length c6) (dI S st ys (i+1)):=by
   rw[oK];refine⟨dA+1+1,b6,c6,Vc,V,V,λd hd=>by have:=(J4 d hd).2;omega,Jm.frame (λd h1 h2=>ay V rfl) (au _),by rw[<-hGl],by rw[hGl];exact Z0,NQ.frame (λd h1 h2=>ay V rfl) (au _),ac2⟩
  refine⟨(i+1,.slice (some ⟨b6,0,some 1⟩) r.length c6,.slice v2a (aT (gj M i)++[((es.length:Nat):Int)]).length v2c,.slice (some ⟨e6b,0,some 2⟩) (es++[(((st.getD i 0:Nat):Int),((st.getD (i+1) 0:Nat):Int))]).length e6c,.int .i64 0),by show K-(i+1)<K-i;omega,aX,by show i+1<=_;omega,V,λd h1 h2=>?_,aj,by show nb<=DF;omega,.inr mT,?_,λ_=>mT⟩
  ·show ah (aC H6 pb _) (at_ d)=_;rw[ay h2 rfl,ac3 d V,fE d h1];exact w1 d h1 h2
  ·show GN _ nb DF _ (aT (gj M (i+1)));rw[B3,ek,<-BL];exact g2.frame (λd h1 h2=>(ay V rfl).trans (ac3 d h2)) V
 ·have:i=K:=V;subst this;exact bq _ _ _ _ _ _ aX W cH
end
section
variable {A:aN}{H H':Heap}{nx nx':Nat}{σ:aR}{L:List Value}{Q:cw}
theorem GD.off{nxa pb:Nat}{wv ev tv:Value}{s:xx}(h:GD H nxa pb nx wv ev tv s)(ha:nxa<=pb)(hp:pb<nx)(hf:∀d,d<nx->d≠pb->bk wv≠some d->ah H' (at_ d)=ah H (at_ d))(hw:∀d,bk wv=some d->pb<d)(hn:nx<=nx'):GD H' nxa pb nx' (.slice none 0 0) ev tv s:=by
 rcases h with⟨h1,h2⟩|⟨lo,b,c,us,h1,h2,h3,h4,rfl,h5,h6,h7⟩
 ·have hs:aq H H' nxa:=λd hd=>hf d V V (λe=>by have:=hw d e;omega)
  exact .inl ⟨h1.same hs,h2.same hs⟩
 ·have hs:∀d,lo<=d->d<nx->ah H' (at_ d)=ah H (at_ d):=λd h8 h9=>hf d h9 V (λe=>by have:=h3 d e;omega)
  exact .inr ⟨lo,b,c,us,h1,V,λd hd=>(by cases hd),h4.frame hs hn,rfl,h5,h6.frame hs hn,h7⟩
theorem lS.sle{lo:Nat}{v:Value}{xs:List Int}(h:lS H lo nx v xs):bL H nx 1 aZ v xs:=by
 obtain⟨b,c,cs,rfl,h1,h2,h3,h4,h5,h6⟩:=h;refine .pre (rest:=cs.drop xs.length) (.inl ?_) h2 h5 (λ_=>rfl);have e:xs.flatMap aZ=xs.map (.int .i64):=fj xs;rw[h3,e,<-h6,K6]
theorem nM{α:Type}{z d:Nat}{enc:α->List Value}{v:Value}{xs:List α}(h:bL H nx z enc v xs)(hd:bk v=some d):d<nx:=by
 obtain⟨base,c,rfl,h2,h3⟩:=h;cases base with
 | none=>cases hd
 | some a=>
  rcases h3 a rfl with⟨rfl,_,_⟩|⟨_,b,o,rfl,g,_⟩
  ·cases hd
  ·cases hd;exact g
theorem Z1(E:eA A){n u v f qb gb kb:Nat}{ev rv rtv sdv o1 o2 o3 o4:Value}{es:List Ed}{r:List (List Int)}{l ys:List Nat}(h0:aH (n:Int) es r=0)(D:BX es r u v f l)(hu:u<n)(hv:v<n)(pY:u≠v)(Y:Ys es r f l ys)(Wm:ys.length=l.length+1)(hn:n+l.length<=1024)(hm:es.length+(2*l.length+1)<=3072)(hq:qb<nx)(hqc:ah H (at_ qb)=some (.cells [.int .i64 0,.slice none 0 0]))(hg:Rd H gb [.int .i64 (n:Int),ev])(hk:Rd H kb [.int .i64 (n:Int),ev,rv,o1,o2,o3,o4])(hgn:gb<nx)(hkn:kb<nx)(he:bL H nx 2 aW ev es)(hr:er H nx 1 aZ rv (cV r))(Jj:bL H nx 1 aZ rtv (aT l))(hsd:bL H nx 1 aZ sdv (aT ys))(jf:∀σ H' nx' b c us oA wv,bD [(S8,.pointer (some ⟨qb,0,none⟩)),(S9,.slice (some ⟨b,0,some 1⟩) (r.length+l.length) c),(dQ,wv),(eN,.int .i64 0)] σ->(∀d,d<nx->d≠qb->ah H' (at_ d)=ah H (at_ d))->ah H' (at_ qb)=some (.cells [.int .i64 ((n+l.length:Nat):Int),oA])->
   Aa H' nx nx' oA (dI (dH n es r l l.length) (stops n u v l.length) ys (l.length+1)).1->r.length+l.length<=aF c->dK H' nx nx' b us (dI (dH n es r l l.length) (stops n u v l.length) ys (l.length+1)).2->SJ b us oA->SJ b us wv->(∀d,bk wv=some d->bk oA≠some d)->GN H' nx nx' wv (aT (gj (es.length+l.length) (l.length+1)))->nx<=nx'->Q .ret σ H' nx') :
  WC A xj [(S2,.int .i64 (u:Int)),(S3,.int .i64 (v:Int)),(S4,.pointer (some ⟨gb,0,none⟩)),(S8,.pointer (some ⟨qb,0,none⟩)),(ik,.pointer (some ⟨kb,0,none⟩)),(iV,rtv),(kX,sdv)] H nx Q:=by
 obtain⟨ea,ec,rfl⟩:=he.form;obtain⟨ra,rc,rfl⟩:=hr.form;obtain⟨rta,rtc,rfl⟩:=Jj.form;obtain⟨sda,sdc,rfl⟩:=hsd.form;have gg:=bK l;have Sb:=bK ys;obtain⟨far,d1,d2,d3,d4⟩:=D.far h0;have C:=mL h0 D hu hv pY Y hn hm;obtain⟨e1,e2⟩:=jy n es r l l.length;have hlS:=lV (dH n es r l l.length) (stops n u v l.length) ys (l.length+1);have agL:(stops n u v l.length).length=l.length+1+1:=by rw[GC,cm,DK];rfl
 unfold xj
 repeat' (first|refine aE ?_|fail)
 refine WO.na rfl ?_;refine bG.of (Act.aeT rfl rfl rfl V rfl aj (by decide)) ?_;refine⟨bB.look rfl (Rd.skip V (Rd.skip V hk)) rfl rfl eO .nil,?_⟩;generalize hH1:aC (aC H nx _) nx _=H1;have s1:aq H H1 nx:=by rw[<-hH1];exact(aq.refl.set (au _)).set (au _)
 have p1:ah H1 (at_ nx)=some (.cells [.int .i64 (n:Int),.slice ea es.length ec]):=by rw[<-hH1];exact aj
 clear hH1;have GY:ah (aC H1 (nx+1) [.int .i64 (u:Int)]) (at_ nx)=some (.cells [.int .i64 (n:Int),.slice ea es.length ec]):=ay V p1
 repeat' (first|refine aE ?_|fail)
 have hsW:aq H (aC H1 (nx+1) [.int .i64 (u:Int)]) nx:=s1.set V;have W0:SpW nx nx H n u (dH n es r l 0) 0 (aC H1 (nx+1) [.int .i64 (u:Int)]) (nx+1+1) (.slice (some ⟨nx+1,0,some 1⟩) 1 (2*1+1)) (.slice ea es.length ec) (.slice ra (cV r).length rc):=
  ⟨hsW,by rw[Hf];exact GY,V,.inl ⟨he.same hsW,hr.same hsW⟩,lS.one V⟩
 rw[gg]at Jj ⊢;refine WC.sub aX (ZU E (qb:=qb) (pb:=nx) (nxa:=nx) (v:=v) (sv:=.slice sda (aT ys).length sdc) (rtv:=.slice rta l.length rtc) (e0:=.int .i64 0) h0 (λj hj=>(d4 j hj).2.1) hn V (au _) hq hqc Jj W0 (λσ2 H2 nx2 stv ev2 UF e2' hσ2 W2 fg=>?_));obtain⟨w1,w2,w3,w4,w5⟩:=W2;have vh:=bK (K1 n u l.length);have agB:=DK n u l.length;have Sc:=λd (hd:bk stv=some d)=>w5.blk hd
 generalize hS:dH n es r l l.length=S at *
 have CE:ah H2 (at_ qb)=some (.cells [.int .i64 0,.slice none 0 0]):=(w1 qb V).trans hqc;obtain⟨sta,stc,rfl⟩:=w5.form;refine kW (lO (WC.sub hσ2 ?_))
 repeat' (first|refine aE ?_|fail)
 refine WO.n rfl ?_;have R8:=w5.own (H':=aC H2 nx2 [.int .i64 (v:Int)]) (nx':=nx2+1) (λb hb=>ay (by have:=(Sc b hb).2;omega) rfl) V;refine bG.KL rfl rfl Rd.self R8 V (by unfold small;omega) (by unfold small;omega) (λv3 H3 bW j8 Z2 SK MP=>?_);have ac4:∀d,d<nx2->bk (.slice sta (aT (K1 n u l.length)).length stc)≠some d->ah H3 (at_ d)=ah H2 (at_ d):=λd h1 h2=>(SK d V h2).trans (ay V rfl)
 have K2:∀d,d<=nx->ah H3 (at_ d)=ah H2 (at_ d):=λd hd=>ac4 d V (λe=>by have:=(Sc d e).1;omega)
 have ac5:bL H3 bW 1 aZ v3 (aT (stops n u v l.length)):=by
  rw[GC,ek];exact Z2.sle
 have W3:LyW nx nx bW H3 (n+l.length) (es.length+l.length) S 0 H3 bW (.slice none 0 0) ev2 UF:=
  ⟨λ_ _ _=>rfl,(K2 nx (au _)).trans w2,au _,w4.off (au _) V (λd h1 _ h3=>ac4 d h1 h3) (λd hd=>(Sc d hd).1) V,.nil,λh=>absurd h V⟩
 have ac6:bL H3 bW 1 aZ (.slice sda (aT ys).length sdc) (aT ys):=((hsd.same w1).same (λd hd=>K2 d V)).up V;have hv3:bk v3≠some nx:=λe=>by have:=(Z2.blk e).1;omega
 have bF:dI S (stops n u v l.length) ys 0=S:=rfl;obtain⟨v3a,v3c,rfl⟩:=Z2.form
 repeat' (first|refine aE ?_|fail)
 rw[Sb,Wm]at ac6 ⊢;refine WC.sub aX (ZY E (n:=n+l.length) (M:=es.length+l.length) (K:=l.length+1) (qb:=qb) (pb:=nx) (nb:=bW) (nxa:=nx) (H0:=H3) (sdv:=.slice sda (l.length+1) sdc) (stv:=.slice v3a (aT (K1 n u l.length)++[(v:Int)]).length v3c) (st:=stops n u v l.length) (ys:=ys) (e0:=e2') C e1 hn V (au _) V hq ac6 ac5 (λe=>by have:=nM hsd (by rw[Sb,Wm];exact e);omega) hv3 Wm agL W3 (λσ4 H4 dA wv ev4 tv4 hσ4 W4 oO=>?_));obtain⟨y1,y2,y3,y4,y5,y6⟩:=W4;obtain⟨lo,b4,c4,us4,z1,z2,z3,z4,rfl,z5,z6,z7⟩:=y6 V;obtain⟨eb4,ec4,rfl,z8,z9,z10,z11⟩:=id z4;generalize hT:dI S (stops n u v l.length) ys (l.length+1)=T at *
 refine kW (lO (WC.sub hσ4 ?_));have hTl:T.2.length=r.length+l.length:=by rw[hlS.2,e2]
 have hq4:ah H4 (at_ qb)=some (.cells [.int .i64 0,.slice none 0 0]):=(y1 qb V V).trans ((K2 qb V).trans CE);have hmT:T.1.length<=3072:=by rw[hlS.1];omega
 repeat' (first|refine aE ?_|fail)
 refine WO.cn rfl ?_;refine(I0 E z4.sle V (λ_ _ h=>by cases h)).of ?_;rintro _ H5 fy ⟨jD,wj,AT⟩;have hq5:=(jD qb V).trans hq4;have y5':=(jD nx V).trans y2;obtain⟨e5b,e5c,rfl,x1,x2,x3,x4⟩:=id AT
 repeat' (first|refine aE ?_|fail)
 refine jf _ _ _ b4 c4 us4 (.slice (some ⟨e5b,0,some 2⟩) T.1.length e5c) wv (by rw[<-hTl];exact aX) (λd h1 h2=>?_) aj ?_ (by rw[<-hTl];exact z5) ?_ ?_ ?_ ?_ ?_ V
 ·rw[ay h2 (ay V rfl),jD d V,y1 d V V,K2 d V];exact w1 d h1
 ·exact(AT.frame (λd h1 h2=>ay V (ay V rfl)) (au _)).low V
 ·exact(z6.frame (λd h1 h2=>(ay V (ay V rfl)).trans (jD d h2)) wj).low V
 ·exact z6.off (λd hd=>by cases hd;exact .inr x2)
 ·exact z6.off (λd hd=>.inl (z3 d hd))
 ·intro d h1 h2;cases h2;have:=z3 _ h1;omega
 ·exact(y5.frame (λd h1 h2=>(ay V (ay V rfl)).trans (jD d h2)) wj).low V
end
section
variable {A:aN}{H H':Heap}{nx nx':Nat}{σ:aR}{L:List Value}{Q:cw}
theorem vw{p q q2 q3:List Bool}{agg:Option Nat}{b o:Nat}{cs:List Value}{v u w z:Value}{Q:Value->Heap->Nat->Prop}(h1:sl σ p=some (.pointer (some ⟨b,o,none⟩)))(h2:ah H (at_ b)=some (.cells cs))(h3:partOf cs o agg=some v)(h4:sl σ q=some u)(h5:sl σ q2=some w)(h6:sl σ q3=some z)(hq:Q (oneOf [v,u,w,z]) H nx):gR [(.var p,some agg),(.var q,none),(.var q2,none),(.var q3,none)] Q .ret σ H nx:=by
 refine⟨[v,u,w,z],?_,hq⟩;have e1:tr σ H (.var p,some agg)=some v:=by
  show (match sl σ p with
   | some (.pointer (some ⟨b,o,none⟩))=>match ah H (at_ b)with
    | some (.cells cs)=>partOf cs o agg
    | _=>none
   | _=>none)=_
  rw[h1];simp only[h2];exact h3
 have e2:tr σ H (.var q,none)=some u:=h4;have e3:tr σ H (.var q2,none)=some w:=h5;have e4:tr σ H (.var q3,none)=some z:=h6;unfold gB;rw[e1];unfold gB;rw[e2];unfold gB;rw[e3];unfold gB;rw[e4];rfl
theorem il.I9{of far:List Int}{fs:List Nat}{f:Nat}(h:il of far (λg=>g∈fs) f []):qd far fs=(f:Int):=by
 rcases zu far fs with⟨e,_⟩|⟨b,e,h1,h2⟩
 ·have:=h.u;rw[e]at this;cases this
 ·rw[e];have h3:=h2 f h.u;have h4:=h.least b h1;have h5:=h.nil rfl b h1 V;omega
theorem Act.GG{by_ b c:Nat}{zero:List Value}{s x:Od}{xv:Value}{l m:List Int}{rest:List Value}(hs:ev σ L s=some (.slice (some ⟨b,0,some 1⟩) l.length c))(hx:ev σ L x=some xv)(eJ:bL H nx 1 aZ xv m)(hr:ah H (at_ b)=some (.cells (mi l++rest)))(hl:m.length<=rest.length)(hc:l.length+m.length<=aF c) :
  ∃H',Act A (.app 1 by_ zero s x false) σ L H nx (.slice (some ⟨b,0,some 1⟩) (l++m).length c) H' nx/\ah H' (at_ b)=some (.cells (mi (l++m)++rest.drop m.length))/\∀d,d≠b->ah H' (at_ d)=ah H (at_ d):=by
 have Sd:=eJ.src (λ_=>rfl);by_cases hm:m=[]
 ·subst hm;rw[gN];exact⟨H,Act.TM hs hx Sd V,by simpa using hr,λ_ _=>rfl⟩
 ·have Xq:=List.length_pos_iff.2 hm;have h1:=mY l;have h2:=mY m;rw[fj]at Sd;refine⟨aC H b (mi (l++m)++rest.drop m.length),?_,aj,λd hd=>ay hd rfl⟩;rw[cm];refine Act.pk hs hx Sd V V (IY _) hr hc ?_;unfold mm;rw[Nat.zero_add,Nat.mul_one,tw _ _ _ (by rw[cm];omega)];show some _=some _
  congr 1
  have e1:(mi l++rest).take l.length=mi l:=by rw[<-h1,List.take_left]
  have e2:(mi l++rest).drop (l.length+(mi m).length)=rest.drop m.length:=by
   rw[<-h1,<-List.drop_drop,List.drop_left,h2]
  rw[e1,e2]
  congr 1
  unfold mi;rw[jG]
theorem bG.GG{by_ b c:Nat}{zero:List Value}{s x:Od}{xv:Value}{l m:List Int}{rest:List Value}{K:Value->Heap->Nat->Prop}(hs:ev σ L s=some (.slice (some ⟨b,0,some 1⟩) l.length c))(hx:ev σ L x=some xv)(eJ:bL H nx 1 aZ xv m)(hr:ah H (at_ b)=some (.cells (mi l++rest)))(hl:m.length<=rest.length)(hc:l.length+m.length<=aF c)(h:∀H',ah H' (at_ b)=some (.cells (mi (l++m)++rest.drop m.length))->(∀d,d≠b->ah H' (at_ d)=ah H (at_ d))->K (.slice (some ⟨b,0,some 1⟩) (l++m).length c) H' nx):bG A (.app 1 by_ zero s x false) σ L H nx K:=by
 obtain⟨H',h1,h2,h3⟩:=Act.GG (A:=A) (by_:=by_) (zero:=zero) hs hx eJ hr hl hc;exact bG.of h1 (h H' h2 h3)
theorem Se{n:Int}{es:List Ed}{r:List (List Int)}{u v f:Nat}{l:List Nat}(h0:aH n es r=0)(D:BX es r u v f l)(hl:0<l.length):Ys es r f l (l++[aU (l.getD (l.length-1) 0)]):=by
 obtain⟨far,d1,d2,d3,d4⟩:=D.far h0;have hg:∀i,i<l.length->(l++[aU (l.getD (l.length-1) 0)]).getD i 0=l.getD i 0:=λi hi=>by
  rw[aY,eC hi,aY]
 have hk:(l++[aU (l.getD (l.length-1) 0)]).getD l.length 0=aU (l.getD (l.length-1) 0):=by
  rw[aY,aiQ (au _),He];rfl
 refine⟨λi hi=>?_,λi hi=>?_⟩
 ·by_cases c:i<l.length
  ·rw[hg i c];exact(d4 i c).2.1
  ·obtain rfl:i=l.length:=V;rw[hk];exact bM (d4 _ V).2.1
 ·by_cases c:i<l.length
  ·rw[hg i c];exact(d4 i c).1
  ·obtain rfl:i=l.length:=V;rw[hk,(d4 (l.length-1) V).2.2,show l.length-1+1=l.length by omega]
theorem Vd{n:Int}{es:List Ed}{r:List (List Int)}{f i:Nat}(h0:aH n es r=0)(hi:(aG es r)[i]?=some (f:Int)):Ys es r f [] [i]:=by
 obtain⟨ho,qo⟩:=gZ h0;have jT:=(cS.1 hi).1;refine⟨λj hj=>?_,λj hj=>?_⟩
 all_goals
  obtain rfl:j=0:=by simpa using hj
 ·show i<_;omega
 ·show fa _ i=f;unfold fa;rw[aY,hi];exact eE f
theorem zJ(E:eA A){m u v:Nat}{ev rv:Value}{es:List Ed}{r:List (List Int)}(h0:aH (m:Int) es r=0)(he:bL H nx 2 aW ev es)(hr:er H nx 1 aZ rv r)(hu:u<m)(hv:v<m)(pY:u≠v)(tR:Reach es u v) :
  WF A 30 [.agg #[.int .i64 (m:Int),ev],rv,.int .i64 (u:Int),.int .i64 (v:Int)] H nx λx H' nx'=>aq H H' nx/\nx<=nx'/\∃b Zn ob oc fb fc far,x=.pointer (some ⟨b,0,none⟩)/\nx<=b/\Sk H' nx' b (m:Int) ev Zn u v (cV r) (aG es r) far ob oc fb fc/\Zl es.length (aP es r).length u (cV r) (aG es r) far/\(cV r).getD u []≠[]/\
   m4 (aG es r) (aP es r).length (λf=>f∈df (aG es r) ((cV r).getD v [])) far/\∀f l,il (aG es r) far (λf=>f∈df (aG es r) ((cV r).getD u [])) f l->BX es r u v f l:=by
 refine(Gn E h0 rfl he hr hv).of ?_;rintro _ H1 aQ ⟨bt,cH,b,Zn,ob,oc,fb,fc,far,rfl,hb,hk,D⟩;obtain⟨ho,qo⟩:=gZ h0;obtain⟨hm,oY,_⟩:=bR h0;obtain⟨m0,m1,m2,_⟩:=id hm;have kI:=fX r;have SI:=j3 h0;have cD:=cC SI;have Di:=nK h0;have hcu:∀w f,f∈df (aG es r) ((cV r).getD w [])↔f∈df (aG es r) (r.getD w []):=λw f=>by
  rw[kB];exact M3 (j0 _) f
 have D':=D.nI (hcu v);obtain⟨g1,g2⟩:=BW h0 D' pY tR V;have cG:(cV r).getD u []≠[]:=λe=>g1 (by
  rw[kB]at e;have:=zg (r.getD u []);rw[e]at this;exact mM this.symm)
 refine⟨bt,cH,b,Zn,ob,oc,fb,fc,far,rfl,hb,hk,⟨qo,V,ho,D.len,V,D.low,λf=>?_,V,V,λw=>cD.row w,λw hw x hx=>?_⟩,cG,D,λf l h=>?_⟩
 ·by_cases hf:f<(aP es r).length
  ·have:=D.bound ho qo hf;omega
  ·rw[Zj (by rw[D.len];omega)];omega
 ·obtain⟨a,ha,qi,_⟩:=dw SI hw hx;exact⟨a,ha,V⟩
 ·have h':=h.nI (hcu u);exact⟨far,D',h',g2 f h'.u⟩
theorem qg(E:eA A){n u v:Int}{ev rv:Value}{es:List Ed}{r:List (List Int)}(he:bL H nx 2 aW ev es)(hr:er H nx 1 aZ rv r)(cD:cR r) :
  WF A 9 [.agg #[.int .i64 n,ev],rv,.int .i64 u,.int .i64 v] H nx λx H' nx'=>aq H H' nx/\nx<=nx'/\(da n es r u v≠0->x=oneOf [.slice none 0 0,.int .i64 (da n es r u v)])/\(da n es r u v=0->∃(u' v' f:Nat) (l:List Nat) (lv:Value),u=(u':Int)/\v=(v':Int)/\BX es r u' v' f l/\x=oneOf [lv,.int .i64 0]/\GN H' nx nx' lv (aT (l.map (· / 2)))):=by
 obtain⟨base,ec,rfl⟩:=he.form;obtain⟨rb,rc,rfl⟩:=hr.form;refine WF.enter (E.h rfl _ _ _) E.J9 ?_;have bF:aq H (aC H nx [.int .i64 n,.slice base es.length ec]) nx:=aq.refl.set (au _)
 repeat' (first|refine aE ?_|fail)
 refine WO.cn rfl ?_;refine(wk E (n:=n) (u:=u) (v:=v) ((he.same bF).up V) ((hr.same bF).up V) cD).of ?_;rintro _ H1 aQ ⟨bt,cH,rfl⟩;have bu:=bF.trans bt V;have a4:ah H1 (at_ nx)=some (.cells [.int .i64 n,.slice base es.length ec]):=(bt nx V).trans aj;by_cases hI:da n es r u v=0
 rotate_left
 ·generalize da n es r u v=e at *
  repeat' (first|refine aE ?_|(refine bJ ?_ ?_<;>intro h<;>(try simp only[aL]at h))|fail)
  ·exact aD (vs:=[_,_]) rfl ⟨bu,V,λ_=>rfl,λh=>absurd h hI⟩
  ·exfalso;omega
 rw[hI];obtain⟨h0,hp,u0,u1,v0,v1,pY,tR⟩:=qP hI;obtain⟨hm,oY,_⟩:=bR h0;have wZ:=hm.1;obtain⟨m,rfl⟩:=Int.eq_ofNat_of_zero_le wZ;obtain⟨u',rfl⟩:=Int.eq_ofNat_of_zero_le u0;obtain⟨v',rfl⟩:=Int.eq_ofNat_of_zero_le v0;simp only[aL,eE]at *
 repeat' (first|refine aE ?_|(refine bJ ?_ ?_<;>intro h<;>(try simp only[aL]at h))|fail)
 ·exfalso;omega
 refine WO.cn rfl ?_;refine(zJ E h0 ((he.same bu).up (show nx<=aQ by omega)) ((hr.same bu).up V) V V V tR).of ?_;rintro _ H2 nx2 ⟨bN,fg,b,Zn,ob,oc,fb,fc,far,rfl,hb,hk,g,cG,D,hD⟩;have bV:=bu.trans bN V;refine WO.cn rfl ?_;refine(zx E hk g D cG).of ?_;rintro lv H3 bW ⟨de,j8,f,l,hg,Jj,jB,nc⟩;have dZ:=bV.trans de V;have NS:=hD f l Jj;obtain⟨ho,qo⟩:=gZ h0;obtain⟨va,vc,rfl⟩:=hg.form;have gg:=bK l;have Uw:=hm.2.2.1
 repeat' (first|refine aE ?_|fail)
 have ac7:∀k,k<=l.length->((l.map (· / 2)).take k++l.drop k).length=l.length:=λk hk=>by
  rw[cm,iZ,pf,ja];omega
 rw[gg]at hg ⊢;refine WC.loop (α:=Nat) (λk=>[(eN,.slice va l.length vc),(PN,.slice va l.length vc),(NA,.int .i64 ((l.length:Nat):Int)),(TU,.int .i64 ((k:Nat):Int))])
  (λk H' nx'=>k<=l.length/\nx'=bW/\(∀d,bk (.slice va l.length vc)≠some d->ah H' (at_ d)=ah H3 (at_ d))/\GN H' nx2 bW (.slice va l.length vc) (aT ((l.map (· / 2)).take k++l.drop k))) (λk=>l.length-k)
  ?_ 0 aX ⟨bS _,rfl,λ_ _=>rfl,by simpa using hg⟩
 rintro k H4 dA ⟨hk,rfl,G9,ma⟩;have KH:=λd (hd:bk (.slice va l.length vc)=some d)=>ma.blk hd
 repeat' (first|refine aE ?_|(refine bJ ?_ ?_<;>intro h<;>(try simp only[aL]at h))|fail)
 ·have bQ:k<l.length:=V;have kF:=aM bQ;have hlk:=nc _ (jE bQ);generalize l[k]=y at kF hlk;have hlen:=ac7 k hk;have sd:(aT ((l.map (· / 2)).take k++l.drop k))[k]?=some ((y:Nat):Int):=by
   unfold aT;rw[eD,aiQ (by rw[iZ,ja];omega),iZ,ja,List.getElem?_drop,show k+(k-min k l.length)=k by omega,kF];rfl
  have bO:(aT ((l.map (· / 2)).take k++l.drop k)).set k (((y / 2:Nat):Nat):Int)=aT ((l.map (· / 2)).take (k+1)++l.drop (k+1)):=by
   unfold aT;rw[show ((y / 2:Nat):Int)=(λh:Nat=>(h:Int)) (y / 2)from rfl,<-List.map_set]
   congr 1
   have e1:l.drop k=y::l.drop (k+1):=by
    obtain⟨_,e⟩:=cS.1 kF;rw[NW bQ,e]
   have e2:(l.map (· / 2)).take (k+1)=(l.map (· / 2)).take k++[y / 2]:=by
    rw[List.take_add_one,eD,kF];rfl
   rw[e1,e2,List.set_append_right _ _ (by rw[iZ,ja];omega),iZ,ja,show k-min k l.length=0 by omega];simp
  generalize(l.map (· / 2)).take k++l.drop k=lk at *
  have ac8:=bK lk;rcases ma with⟨_,e⟩|⟨d,e,g1,g2,g3,g4⟩
  ·rw[e]at sd;cases sd
  ·rw[ac8,hlen]at e;cases e;have q1:=aB.cell sd;have g4':ah H4 (at_ d)=some (.cells ((aT lk).map (.int .i64))):=g4;have Jd:=(KH d rfl).1;have RR:=(KH d rfl).2
   repeat' (first|refine aE ?_|fail)
   refine⟨k+1,V,aX,V,rfl,λx hx=>?_,.inr ⟨d,by rw[<-bO,iq,ac8,hlen],by rw[<-bO,iq];exact g1,g2,g3,?_⟩⟩
   ·rw[ak,aw (λe=>hx (by rw[e];rfl))];exact G9 x hx
   ·rw[ak,aJ rfl,ints_set,bO];rfl
 ·obtain rfl:k=l.length:=V;rw[List.drop_length,gN,NX (by simp)]at ma;refine aD (vs:=[_,_]) rfl ⟨λx hx=>(G9 x (λe=>by have:=(KH x e).1;omega)).trans (dZ x hx),V,λh=>absurd rfl h,λ_=>⟨u',v',f,l,_,rfl,rfl,NS,rfl,ma.low V⟩⟩
theorem zK(E:eA A){n u v:Int}{ev rv:Value}{es:List Ed}{r:List (List Int)}(he:bL H nx 2 aW ev es)(hr:er H nx 1 aZ rv r)(cD:cR r) :
  WF A 10 [.agg #[.int .i64 n,ev],rv,.int .i64 u,.int .i64 v] H nx λx H' nx'=>aq H H' nx/\nx<=nx'/\(da n es r u v≠0->x=oneOf [.int .i64 0,.int .i64 (da n es r u v)])/\(da n es r u v=0->∃(u' v' f:Nat) (l:List Nat),u=(u':Int)/\v=(v':Int)/\BX es r u' v' f l/\x=oneOf [.int .i64 ((l.length:Nat):Int),.int .i64 0]):=by
 obtain⟨base,ec,rfl⟩:=he.form;obtain⟨rb,rc,rfl⟩:=hr.form;refine WF.enter (E.h rfl _ _ _) E.VX ?_;have bF:aq H (aC H nx [.int .i64 n,.slice base es.length ec]) nx:=aq.refl.set (au _)
 repeat' (first|refine aE ?_|fail)
 refine WO.cn rfl ?_;refine(qg E (n:=n) (u:=u) (v:=v) ((he.same bF).up V) ((hr.same bF).up V) cD).of ?_;rintro _ H1 aQ ⟨bt,cH,hA,hB⟩;by_cases hI:da n es r u v=0
 ·obtain⟨u',v',f,l,lv,rfl,rfl,hR,rfl,hg⟩:=hB hI;obtain⟨va,vc,rfl⟩:=hg.form;have gg:=bK (l.map (· / 2));rw[ja]at gg
  repeat' (first|refine aE ?_|fail)
  exact aD (vs:=[_,_]) rfl ⟨bF.trans bt V,V,λh=>absurd hI h,λ_=>⟨u',v',f,l,rfl,rfl,hR,by rw[<-gg]⟩⟩
 ·have:=hA hI;subst this
  repeat' (first|refine aE ?_|fail)
  exact aD (vs:=[_,_]) rfl ⟨bF.trans bt V,V,λ_=>rfl,λh=>absurd h hI⟩
noncomputable def ss(n:Nat)(es:List Ed)(r:List (List Int))(u v:Nat)(l ys:List Nat):xx:=dI (dH n es r l l.length) (stops n u v l.length) ys (l.length+1)
def ac9(H:Heap)(lo nx:Nat)(es:List Ed)(r:List (List Int))(n u v:Int)(x:Value):Prop:=
 ∃(m u' v' f:Nat) (l ys:List Nat) (oA:Value) (b c:Nat) (us:List Value) (wv:Value),n=(m:Int)/\u=(u':Int)/\v=(v':Int)/\BX es r u' v' f l/\Ys es r f l ys/\m+l.length<=1024/\es.length+(2*l.length+1)<=3072/\x=oneOf [.agg #[.int .i64 ((m+l.length:Nat):Int),oA],.slice (some ⟨b,0,some 1⟩) (r.length+l.length) c,wv,.int .i64 0]/\
  Aa H lo nx oA (ss m es r u' v' l ys).1/\r.length+l.length<=aF c/\dK H lo nx b us (ss m es r u' v' l ys).2/\SJ b us oA/\SJ b us wv/\(∀d,bk wv=some d->bk oA≠some d)/\GN H lo nx wv (aT (gj (es.length+l.length) (l.length+1)))
theorem zL(E:eA A){n u v:Int}{ev rv:Value}{es:List Ed}{r:List (List Int)}(he:bL H nx 2 aW ev es)(hr:er H nx 1 aZ rv r)(cD:cR r)(Z3:aH n es r=0->n<=60/\es.length<=80) :
  WF A 11 [.agg #[.int .i64 n,ev],rv,.int .i64 u,.int .i64 v] H nx λx H' nx'=>aq H H' nx/\nx<=nx'/\(da n es r u v≠0->x=oneOf [.agg #[.int .i64 0,.slice none 0 0],.slice none 0 0,.slice none 0 0,.int .i64 (da n es r u v)])/\(da n es r u v=0->ac9 H' nx nx' es r n u v x):=by
 obtain⟨base,ec,rfl⟩:=he.form;obtain⟨rb,rc,rfl⟩:=hr.form;refine WF.enter (E.h rfl _ _ _) E.Qr ?_;have bF:aq H (aC (aC H nx [.int .i64 n,.slice base es.length ec]) (nx+1) [.int .i64 0,.slice none 0 0]) nx:=(aq.refl.set (au _)).set V
 repeat' (first|refine aE ?_|fail)
 refine WO.cn rfl ?_;refine(wk E (n:=n) (u:=u) (v:=v) ((he.same bF).up V) ((hr.same bF).up V) cD).of ?_;rintro _ H1 aQ ⟨bt,cH,rfl⟩;have bu:=bF.trans bt V;have a4:ah H1 (at_ nx)=some (.cells [.int .i64 n,.slice base es.length ec]):=(bt nx V).trans (ay V aj);have a5:ah H1 (at_ (nx+1))=some (.cells [.int .i64 0,.slice none 0 0]):=(bt (nx+1) V).trans aj;by_cases hI:da n es r u v=0
 rotate_left
 ·generalize da n es r u v=e at *
  repeat' (first|refine aE ?_|(refine bJ ?_ ?_<;>intro h<;>(try simp only[aL]at h))|fail)
  ·exact vw rfl aj rfl rfl rfl rfl ⟨bu.set V,V,λ_=>rfl,λh=>absurd h hI⟩
  ·exfalso;omega
 rw[hI];obtain⟨h0,hp,u0,u1,v0,v1,pY,tR⟩:=qP hI;obtain⟨ahD,ahE⟩:=Z3 h0;obtain⟨hm,oY,_⟩:=bR h0;have wZ:=hm.1;obtain⟨m,rfl⟩:=Int.eq_ofNat_of_zero_le wZ;obtain⟨u',rfl⟩:=Int.eq_ofNat_of_zero_le u0;obtain⟨v',rfl⟩:=Int.eq_ofNat_of_zero_le v0;simp only[aL,eE]at *
 repeat' (first|refine aE ?_|(refine bJ ?_ ?_<;>intro h<;>(try simp only[aL]at h))|fail)
 ·exfalso;omega
 refine WO.cn rfl ?_;refine(zJ E h0 ((he.same bu).up (show nx<=aQ by omega)) ((hr.same bu).up V) V V V tR).of ?_;rintro _ H2 nx2 ⟨bN,fg,b,Zn,ob,oc,fb,fc,far,rfl,hb,hk,g,cG,D,hD⟩;have bV:=bu.trans bN V
 repeat' (first|refine aE ?_|fail)
 refine WO.cn rfl ?_;refine(zx E hk g D cG).of ?_;rintro lv H3 bW ⟨de,j8,f,l,hg,Jj,jB,nc⟩;have dZ:=bV.trans de V;have NS:=hD f l Jj;have NL:=NS.len h0 (show u'<r.length by omega);obtain⟨ho,qo⟩:=gZ h0;have b4:=(de nx V).trans ((bN nx V).trans a4);have b5:=(de (nx+1) V).trans ((bN (nx+1) V).trans a5);have YY:=hk.frame de j8;have o9:=hk.lt;obtain⟨va,vc,rfl⟩:=hg.form;have gg:=bK l
 repeat' (first|refine aE ?_|fail)
 have HO:(bj [Value.int .i64 (0:Int)] ((aT l).length+1)).length=((aT l).length+1)*1:=dE _ _;have MM:=(hg.frame (H':=aC H3 bW (bj [Value.int .i64 (0:Int)] ((aT l).length+1))) (nx':=bW+1) (λd _ h2=>ay V rfl) (cE _));refine WO.n rfl ?_;refine bG.GG (l:=[]) (m:=aT l) (rest:=bj [Value.int .i64 (0:Int)] ((aT l).length+1)) rfl rfl MM.sle aj V (by rw[bU];simp only[gp];omega) (λH4 Zb G9=>?_);rw[qQ]at Zb ⊢;have hr4:((bj [Value.int .i64 (0:Int)] ((aT l).length+1)).drop (aT l).length).length=1:=by rw[pf];omega
 generalize(bj [Value.int .i64 (0:Int)] ((aT l).length+1)).drop (aT l).length=rest at Zb hr4;have vo:∀d,d<bW->ah H4 (at_ d)=ah H3 (at_ d):=λd hd=>(G9 d V).trans (ay V rfl)
 have eW:aq H H4 nx:=λd hd=>(vo d V).trans (dZ d hd)
 have c4:=(vo nx V).trans b4;have c5:=(vo (nx+1) V).trans b5;have hk4:=YY.frame (H':=H4) (nx':=bW+1) vo V;have ma:=hg.frame (H':=H4) (nx':=bW+1) (λd _ h2=>vo d h2) V;have he4:=(he.same eW).up (show nx<=bW+1 by omega);have JV:∀(ys:List Nat) (Q:cw) (H':Heap) (nx':Nat) (rtv sdv:Value),Ys es r f l ys->ys.length=l.length+1->bW+1<=nx'->(∀d,d<bW->ah H' (at_ d)=ah H4 (at_ d))->bL H' nx' 1 aZ rtv (aT l)->bL H' nx' 1 aZ sdv (aT ys)->
   (Q=gR [(.var S8,some (some 2)),(.var S9,none),(.var dQ,none),(.var eN,none)] λx H' nx'=>aq H H' nx/\nx<=nx'/\(0≠(0:Int)->x=oneOf [.agg #[.int .i64 0,.slice none 0 0],.slice none 0 0,.slice none 0 0,.int .i64 0])/\(True->ac9 H' nx nx' es r (m:Int) (u':Int) (v':Int) x))->
   WC A xj [(S2,.int .i64 (u':Int)),(S3,.int .i64 (v':Int)),(S4,.pointer (some ⟨nx,0,none⟩)),(S8,.pointer (some ⟨nx+1,0,none⟩)),(ik,.pointer (some ⟨b,0,none⟩)),(iV,rtv),(kX,sdv)] H' nx' Q:=by
  intro ys Q H5 fy rtv sdv Y Wm wj vt agM agN hQ;have j6:aq H H5 nx:=λd hd=>(vt d V).trans (eW d hd)
  refine Z1 E h0 NS V V V Y Wm V V (show nx+1<fy by omega) ((vt (nx+1) V).trans c5) (Rd.own ((vt nx V).trans c4)) (Rd.own ((vt b V).trans ((vo b V).trans ((de b o9).trans hk.cell)))) V V ((he.same j6).up V) ?_ agM agN ?_
  ·have h1:=(hk.rows.same de).up j8;exact((h1.same vo).same (λd hd=>vt d hd)).up V
  ·intro σ H6 DF b6 c6 Vc Vb wv6 hσ Z4 hq6 Jm Z0 NQ F6 G5 agO ZK Wn;subst hQ;refine vw (hσ _ _ rfl) hq6 rfl (hσ _ _ rfl) (hσ _ _ rfl) (hσ _ _ rfl) ⟨λd hd=>(Z4 d V V).trans (j6 d hd),V,λh=>absurd rfl h,λ_=>⟨m,u',v',f,l,ys,Vb,b6,c6,Vc,wv6,rfl,rfl,rfl,NS,Y,V,V,rfl,Jm.low V,Z0,NQ.low V,F6,G5,agO,ZK.low V⟩⟩
 by_cases hK:l=[]
 ·subst hK;have NM:=Jj.I9;obtain⟨ia,hc',ain,aio,agP,ahF,qp,agQ⟩:=id hk4;have Gl:ah H4 (at_ ob)=some (.cells ((aG es r).map (.int .i64))):=agP;obtain⟨_,d1,d2,d3,d4⟩:=NS.far h0;have rO:(f:Int)∈aG es r:=by
   obtain⟨x,hx,e⟩:=qO d2;obtain⟨a,rfl,qi,_⟩:=dw h0 (show u'<r.length by omega) hx;rw[eE]at e;have:=ho.get (show a<(aG es r).length by omega);rw[e]at this;exact dM this
  have hz:(aT []).length=0:=rfl;have agR:bL H4 (bW+1) 1 aZ (.slice (some ⟨ob,0,some 1⟩) (aG es r).length oc) (aG es r):=.pre (rest:=[]) (.inl (by rw[gN,fj];exact Gl)) V agQ (λ_=>rfl)
  repeat' (first|refine aE ?_|(refine bJ ?_ ?_<;>intro h<;>(try simp only[aL]at h))|fail)
  all_goals try (exfalso;omega)
  refine WO.ca rfl ?_;refine(zw E hk4 g).of ?_;rintro _ H4' acW ⟨e1,e2,rfl⟩;rw[e1,e2];refine⟨bB.look rfl (Rd.own hc') rfl rfl eO .nil,?_⟩;rw[NM];refine WO.cn rfl ?_;refine(j4 E (x:=(f:Int)) agR V).of ?_;rintro _ aip ahG ⟨e3,e4,⟨i,rfl,xr,_⟩|⟨_,gu⟩⟩
  case inr=>exact absurd rO gu
  rw[e3,e4];have Y:=Vd h0 xr
  iterate 1 ((first|refine aE ?_|fail))
  have m7:bL (aC H4 (bW+1) [.int .i64 ((i:Nat):Int)]) (bW+1+1) 1 aZ (.slice (some ⟨bW+1,0,some 1⟩) 1 (2*1+1)) [((i:Nat):Int)]:=.pre (xs:=[((i:Nat):Int)]) (b:=bW+1) (c:=2*1+1) (rest:=[]) (.inl aj) V (by show 1<=1;omega) (λ_=>rfl);refine WO.n rfl ?_;refine bG.GG (l:=aT []) (m:=[((i:Nat):Int)]) (rest:=rest) rfl rfl m7 (ay V Zb) (by rw[hr4];exact au _) (by rw[bU];simp only[hO,gp];omega) (λH5 UX vt=>?_)
  iterate 3 ((first|refine aE ?_|fail))
  refine WC.sub aX (JV [i] _ H5 _ (.slice va (aT []).length vc) _ Y rfl V (λx hx=>(vt x V).trans (ay V rfl)) ?_ ?_ rfl)
  ·exact(hg.frame (H':=H5) (nx':=bW+1+1) (λx _ h2=>((vt x V).trans (ay V rfl)).trans (vo x h2)) V).sle
  ·exact .pre (b:=bW) (c:=2*((aT []).length+1)+1) (rest:=rest.drop 1) (.inl (by rw[UX,fj];rfl)) V (by rw[bU];exact au _) (λ_=>rfl)
 ·have hKp:=List.length_pos_iff.2 hK;have Y:=Se h0 NS hKp;rcases id hg with⟨_,e⟩|⟨d,e,g1,g2,g3,g40⟩
  ·rw[e]at gg;simp at gg;omega
  have g4:=(vo d g3).trans g40;have Ov:(aT l)[l.length-1]?=some ((l.getD (l.length-1) 0:Nat):Int):=by
   unfold aT;rw[eD,aY,aM V];rfl
  have cg:l.getD (l.length-1) 0<2*es.length:=NL.2 _ (by rw[aY,aM V];exact jE _);have q1:=aB.cell Ov;have g4':ah H4 (at_ d)=some (.cells ((aT l).map (.int .i64))):=g4;cases e;rw[gg]at ma ⊢;generalize l.getD (l.length-1) 0=z at *
  repeat' (first|refine aE ?_|(refine bJ ?_ ?_<;>intro h<;>(try simp only[aL]at h))|fail)
  ·have LC:=Rd.self (H:=H4) (b:=bW+1) (cs:=[Value.int .i64 ((aU z:Nat):Int)]);have m7:bL (aC H4 (bW+1) [.int .i64 ((aU z:Nat):Int)]) (bW+1+1) 1 aZ (.slice (some ⟨bW+1,0,some 1⟩) 1 (2*1+1)) [((aU z:Nat):Int)]:=.pre (xs:=[((aU z:Nat):Int)]) (b:=bW+1) (c:=2*1+1) (rest:=[]) (.inl aj) V (by show 1<=1;omega) (λ_=>rfl);refine WO.n rfl ?_;refine bG.GG (l:=aT l) (m:=[((aU z:Nat):Int)]) (rest:=rest) (by rw[gg];rfl) rfl m7 (ay V Zb) (by rw[hr4];exact au _) (by rw[bU];simp only[hO,gp];omega) (λH5 UX vt=>?_)
   iterate 3 ((first|refine aE ?_|fail))
   refine WC.sub aX (JV (l++[aU z]) _ H5 _ _ _ Y (by simp) V (λx hx=>(vt x V).trans (ay V rfl)) ?_ ?_ rfl)
   ·rw[<-gg];exact .pre (rest:=[]) (.inl (by rw[gN,fj];exact(vt d V).trans (ay V g4))) V (by rw[bT];exact au _) (λ_=>rfl)
   ·rw[ek];exact .pre (rest:=rest.drop 1) (.inl (by rw[UX,fj];rfl)) V (by rw[bU,cm,gg];exact au _) (λ_=>rfl)
  ·exfalso;omega
end
section
def lexB:List Nat->List Nat->Bool
 | x::a,y::b=>if x=y then lexB a b else decide (x<y)
 | _,_=>false
theorem Nc(a:List Nat):lexB a a=false:=by
 induction a with
 | nil=>rfl
 | cons x a ih=>show (if x=x then _ else _)=_;rw[aJ rfl];exact ih
theorem B4{a b:List Nat}{k:Nat}(h:a.take k=b.take k)(hl:a.length=b.length):lexB a b=lexB (a.drop k) (b.drop k):=by
 induction k generalizing a b with
 | zero=>rfl
 | succ k ih=>
  cases a with
  | nil=>cases b with
   | nil=>rfl
   | cons y b=>simp at hl
  | cons x a=>
   cases b with
   | nil=>simp at hl
   | cons y b=>
    obtain⟨rfl,h2⟩:x=y/\a.take k=b.take k:=by simpa using h
    show (if x=x then _ else _)=_;rw[aJ rfl];exact ih h2 (by simpa using hl)
theorem il.single{of far:List Int}{f:Nat}{l:List Nat}(w:fV of far f l):il of far (λx=>x=f) f l:=by
 refine⟨rfl,λg hg=>by rw[hg];omega,w,λ_ g hg _=>by omega,λh t hl j hj hN=>?_⟩;subst hl;cases w with
 | cons hp hx w=>
  exact hx.first j hj hN.1 (by rw[hN.2.2])
theorem il.far{of far:List Int}{U:Nat->Prop}{g f:Nat}{l:List Nat}(h:il of far U g l)(cg:fr far g<fr far f):il of far (λx=>U x\/x=f) g l:=by
 refine⟨.inl h.u,λx hx=>?_,h.I8,λhl x hx e=>?_,λy t hl j hj hN=>?_⟩
 ·rcases hx with hx|rfl
  ·exact h.least x hx
  ·omega
 ·rcases hx with hx|rfl
  ·exact h.nil hl x hx e
  ·omega
 ·obtain⟨hu,e1,e2⟩:=hN;rcases hu with hu|hu
  ·exact h.first y t hl j hj ⟨hu,e1,e2⟩
  ·rw[hu]at e1;omega
theorem il.agS{of far:List Int}{U:Nat->Prop}{g f:Nat}{l lf:List Nat}(h:il of far U g l)(cg:fr far f<fr far g)(w:fV of far f lf):il of far (λx=>U x\/x=f) f lf:=by
 refine⟨.inr rfl,λx hx=>?_,w,λhl x hx e=>?_,λy t hl j hj hN=>?_⟩
 ·rcases hx with hx|rfl
  ·have:=h.least x hx;omega
  ·omega
 ·rcases hx with hx|rfl
  ·have:=h.least x hx;omega
  ·omega
 ·obtain⟨hu,e1,e2⟩:=hN;rcases hu with hu|hu
  ·have:=h.least _ hu;omega
  ·exact(il.single w).first y t hl j hj ⟨hu,e1,e2⟩
theorem il.tie{of far:List Int}{U:Nat->Prop}{g f:Nat}{l lf:List Nat}(h:il of far U g l)(e:fr far f=fr far g)(w:fV of far f lf) :
  ((lexB (lf.map (· / 2)) (l.map (· / 2))=true\/(lf=[]/\f<g))->il of far (λx=>U x\/x=f) f lf)/\(¬(lexB (lf.map (· / 2)) (l.map (· / 2))=true\/(lf=[]/\f<g))->il of far (λx=>U x\/x=f) g l):=by
 have hg:=h.I8;have S:=il.single w;rcases id w with h1 | @⟨_,x,t,h1,hx,wx⟩
 ·
  have hl:l=[]:=by
   cases hg with
   | nil _=>rfl
   | cons h2=>omega
  subst hl;refine⟨λhc=>?_,λhc=>?_⟩
  ·have hfg:f<g:=by
    rcases hc with hc|⟨_,hc⟩
    ·cases hc
    ·exact hc
   refine⟨.inr rfl,λx hx=>?_,w,λ_ x hx e2=>?_,λy t hl=>(by cases hl)⟩
   ·rcases hx with hx|rfl
    ·have:=h.least x hx;omega
    ·omega
   ·rcases hx with hx|rfl
    ·have:=h.nil rfl x hx V;omega
    ·omega
  ·have hfg:¬f<g:=λh2=>hc (.inr ⟨rfl,h2⟩)
   refine⟨.inl h.u,λx hx=>?_,hg,λ_ x hx e2=>?_,λy t hl=>(by cases hl)⟩
   ·rcases hx with hx|rfl
    ·exact h.least x hx
    ·omega
   ·rcases hx with hx|rfl
    ·exact h.nil rfl x hx e2
    ·omega
 ·rcases id hg with h2 | @⟨_,y,t',h2,hy,wy⟩
  ·omega
  have keep:(∀j,j<y->fa of j=f->fr far (fa of (aU j))≠fr far f-1)->il of far (λx=>U x\/x=f) g (y::t'):=λgu=>
   ⟨.inl h.u,λz hz=>by rcases hz with hz|rfl;exact h.least z hz;omega,hg,λhl=>(by cases hl),λz t2 hl j hj hN=>by
    cases hl;obtain⟨hu,e1,e2⟩:=hN;rcases hu with hu|hu
    ·exact h.first y t' rfl j hj ⟨hu,e1,e2⟩
    ·exact gu j hj hu (by rw[e2];omega)⟩
  by_cases c:f=g
  ·subst c;obtain rfl:=hx.one hy;obtain rfl:=wx.one wy;refine⟨λhc=>?_,λ_=>keep hx.first⟩;rw[Nc]at hc;rcases hc with hc|⟨hc,_⟩
   ·cases hc
   ·cases hc
  ·have oT:x / 2≠y / 2:=λe2=>by
    have cG:x≠y:=λe3=>c (by rw[<-hx.at_,<-hy.at_,e3])
    have ht:y=aU x:=by rw[iH];omega
    have:=hx.nr;rw[<-ht,hy.at_]at this;omega
   have agT:lexB ((x::t).map (· / 2)) ((y::t').map (· / 2))=decide (x / 2<y / 2):=by
    show (if x / 2=y / 2 then _ else _)=_;rw[aw oT]
   rw[agT];refine⟨λhc=>?_,λhc=>?_⟩
   ·have cg:x / 2<y / 2:=by
     rcases hc with hc|⟨hc,_⟩
     ·exact of_decide_eq_true hc
     ·cases hc
    refine⟨.inr rfl,λz hz=>?_,w,λhl=>(by cases hl),λz t2 hl j hj hN=>?_⟩
    ·rcases hz with hz|rfl
     ·have:=h.least z hz;omega
     ·omega
    ·cases hl;obtain⟨hu,e1,e2⟩:=hN;rcases hu with hu|hu
     ·exact h.first y t' rfl j V ⟨hu,V,V⟩
     ·exact hx.first j hj hu e2
   ·have cg:¬x / 2<y / 2:=λh3=>hc (.inl (fB h3))
    exact keep λj hj hu=>hx.first j V hu
end
end Go.Eng
