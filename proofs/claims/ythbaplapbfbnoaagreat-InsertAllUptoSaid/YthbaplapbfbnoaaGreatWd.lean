import Derived.Test.YthbaplapbfbnoaaGreatWc
/- Walks over the program: part 4. -/

set_option maxRecDepth 100000
set_option maxHeartbeats 1000000
namespace Go.Eng
section
def yJ(vs:List Value)(H:Heap)(b:Nat):Prop:=∃n l c cs,vs=[.agg #[n,.slice (some ⟨b,0,some 2⟩) l c]]/\ah H (at_ b)=some (.cells cs)/\cs.length=2*l/\l<=4000
structure eA(A:aN):Prop where
 hk:∀g,g≠4->g≠21->g≠22->zhN A g
 hb:∀H nx,A.aS 4 [] H nx=some (.ok (.bool true) H nx)
 hs:∀vs H nx b,yJ vs H b->A.aS 21 vs H nx=some (.ok (.tuple #[]) (kill H b) nx)
 ha:∀vs H nx,FD vs H nx->A.aS 22 vs H nx=some (.ok (.bool true) .e nx)
 q49:TO A.P 61
 q57:TO A.P 72
 Qo:A.funcs 3=some Yj
 FE:A.funcs 5=some Qh
 VW:A.funcs 6=some abZ
 Qp:A.funcs 7=some Yk
 Qq:A.funcs 8=some Yl
 J9:A.funcs 9=some T5
 VX:A.funcs 10=some ab0
 Qr:A.funcs 11=some Ym
 yK:A.funcs 13=some Qi
 Qs:A.funcs 14=some Yn
 Qt:A.funcs 15=some Yo
 Ka:A.funcs 16=some T6
 Kb:A.funcs 17=some T7
 Qu:A.funcs 19=some Yp
 Qv:A.funcs 20=some Yq
 Kc:A.funcs 25=some T8
 Ke:A.funcs 29=some T9
 Kf:A.funcs 30=some Ua
 Kg:A.funcs 31=some Ub
 Qw:A.funcs 32=some Yr
 Qx:A.funcs 33=some Yt
 Kh:A.funcs 34=some Uc
 FF:A.funcs 35=some Qk
 aca:A.funcs 36=some afu
 Qy:A.funcs 37=some Yu
 VY:A.funcs 40=some ab1
 acb:A.funcs 41=some afv
 VZ:A.funcs 42=some ab2
 FG:A.funcs 47=some Ql
 V0:A.funcs 48=some ab3
 Ki:A.funcs 45=some Ud
 Kj:A.funcs 77=some Ue
 acd:A.funcs 66=some afw
 Kk:A.funcs 68=some Uf
 FH:A.funcs 94=some Qm
 V1:A.funcs 72=some ab4
 ace:A.funcs 93=some afx
 V2:A.funcs 117=some ab5
 Qz:A.funcs 116=some Yv
 Kl:A.funcs 130=some Ug
 V3:A.funcs 39=some ab6
 Km:A.funcs 44=some Uh
 QA:A.funcs 79=some Yw
 Kn:A.funcs 55=some Ui
 QB:A.funcs 63=some Yx
 Ko:A.funcs 76=some Uj
 QC:A.funcs 78=some Yy
 V4:A.funcs 80=some ab7
 acf:A.funcs 92=some afy
 Kp:A.funcs 70=some Uk
 FI:A.funcs 71=some Qn
 Kq:A.funcs 69=some Ul
 acg:A.funcs 73=some afz
 QD:A.funcs 97=some Yz
 BE:A.funcs 95=some Mq
 ach:A.funcs 115=some afA
 QE:A.funcs 26=some T4
 yL:A.funcs 53=some vZ
 tJ:A.funcs 67=some tG
 V5:A.funcs 56=some Qe
 QF:A.funcs 87=some pP
 fTo:A.funcs 60=some NF
 FJ:A.funcs 74=some wb
 Kr:A.funcs 75=some BB
 C4:A.funcs 111=some u7
 C5:A.funcs 88=some yH
 xl:A.funcs 43=some tH
 BF:A.funcs 65=some BC
 fOf:A.funcs 64=some xOf
 aci:A.funcs 46=some abY
 Iy:A.funcs 58=some u9
 QG:A.funcs 59=some BD
 C6:A.funcs 28=some tI
 C7:A.funcs 62=some xk
 YD:A.funcs 89=some Qf
 C8:A.funcs 90=some kY
 yM:A.funcs 91=some lQ
 YE:A.funcs 113=some yI
 QH:A.funcs 114=some rz
 QI:A.funcs 112=some we
 QJ:A.funcs 61=some Qg
 Ks:A.funcs 57=some C3
 Kt:A.funcs 27=some J8
 Ku:A.funcs 38=some tF
 Kv:A.funcs 12=some VU
 Kw:A.funcs 18=some VV
section
variable {A:aN}{H:Heap}{nx:Nat}{n:Int}{m:Nat}{ev rv:Value}{es:List Ed}{r:List (List Int)}
theorem eA.h(E:eA A){g:FuncId}(h:(Nat.beq g 4||(Nat.beq g 21||Nat.beq g 22))=false):zhN A g:=by
 refine E.hk g (λe=>?_) (λe=>?_) (λe=>?_)<;>(subst e;cases h)
theorem eA.acz(E:eA A)(he:bL H nx 2 aW ev es)(hr:er H nx 1 aZ rv r)(cD:cR r) :
  WF A 61 [.agg #[.int .i64 n,ev],rv] H nx λv H' nx'=>∃x,v=oneOf [x,.int .i64 (aH n es r)]/\(aH n es r=0->x=.int .i64 (oy es r n.toNat))/\aq H H' nx/\nx<=nx':=
 IT E.QJ (E.h rfl) E.tJ (E.h rfl) E.yL (E.h rfl) E.C5 (E.h rfl) E.C4 (E.h rfl) E.C7 (E.h rfl) E.YD (E.h rfl) E.yM (E.h rfl) E.YE (E.h rfl) E.QH (E.h rfl) E.QI (E.h rfl) E.C8 (E.h rfl) iN he hr cD
theorem eA.Rp(E:eA A)(hm:kK n es)(iL:n=(m:Int))(he:bL H nx 2 aW ev es) :
  WF A 62 [.agg #[.int .i64 n,ev]] H nx λv H' nx'=>∃b bc c,v=oneOf [.slice (some ⟨b,0,some 1⟩) m bc,.int .i64 ((cy es m:Nat):Int),.int .i64 0]/\m<=aF bc/\nx<=b/\b<nx'/\aB H' b c/\sG es m m c/\aq H H' nx/\nx<=nx':=
 Dp E.C7 (E.h rfl) E.yL (E.h rfl) E.YD (E.h rfl) E.yM (E.h rfl) E.YE (E.h rfl) E.QH (E.h rfl) E.QI (E.h rfl) E.C8 (E.h rfl) hm iL he
theorem eA.Rq(E:eA A)(hm:kK n es)(iL:n=(m:Int))(he:bL H nx 2 aW ev es) :
  WF A 28 [.agg #[.int .i64 n,ev],.slice none 0 0,.slice none 0 0] H nx λv H' nx'=>∃b bc c,v=oneOf [.slice (some ⟨b,0,some 1⟩) m bc,.int .i64 ((cy es m:Nat):Int)]/\m<=aF bc/\nx<=b/\b<nx'/\aB H' b c/\sG es m m c/\aq H H' nx/\nx<=nx':=
 Dq E.C6 (E.h rfl) E.fTo (E.h rfl) E.Iy (E.h rfl) E.QG (E.h rfl) E.QF (E.h rfl) hm iL he
theorem eA.Ga(E:eA A)(h0:aH n es r=0)(he:bL H nx 2 aW ev es)(hr:er H nx 1 aZ rv r)(cD:cR r) :
  WF A 65 [.agg #[.int .i64 n,ev],rv] H nx λv H' nx'=>∃fv nx0,v=oneOf [fv,.int .i64 0]/\nx<=nx0/\nx0<=nx'/\LL H' nx0 nx' fv (aP es r)/\aq H H' nx:=
 AL E.BF (E.h rfl) E.tJ (E.h rfl) E.yL (E.h rfl) E.C5 (E.h rfl) E.C4 (E.h rfl) h0 he hr cD
theorem eA.Rr(E:eA A)(h0:aH n es r=0)(he:bL H nx 2 aW ev es)(hr:er H nx 1 aZ rv r)(cD:cR r) :
  WF A 64 [.agg #[.int .i64 n,ev],rv] H nx λv H' nx'=>∃b c,v=oneOf [.slice (some ⟨b,0,some 1⟩) (2*es.length) c,.int .i64 0]/\2*es.length<=aF c/\nx<=b/\b<nx'/\aB H' b (aG es r)/\aq H H' nx/\nx<=nx':=
 UB E.fOf (E.h rfl) E.tJ (E.h rfl) E.yL (E.h rfl) E.C5 (E.h rfl) E.C4 (E.h rfl) h0 (iN h0) he hr cD
theorem eA.Rs(E:eA A)(g:dk n es r)(he:bL H nx 2 aW ev es)(hr:er H nx 1 aZ rv r)(cD:cR r)(dx:es.length<=4000) :
  WF A 43 [.agg #[.int .i64 n,ev],rv] H nx λv H' nx'=>∃nx0,nx<=nx0/\nx0<=nx'/\LL H' nx0 nx' v (aP es r)/\aq H H' nx:=
 pW E.xl (E.h rfl) E.Kr (E.h rfl) E.FJ (E.h rfl) g he hr cD dx
theorem eA.rof(E:eA A)(h0:aH n es r=0)(he:bL H nx 2 aW ev es)(hr:er H nx 1 aZ rv r)(cD:cR r) :
  WF A 46 [.agg #[.int .i64 n,ev],rv] H nx λv H' nx'=>∃b c,v=.slice (some ⟨b,0,some 1⟩) (2*es.length) c/\2*es.length<=aF c/\nx<=b/\b<nx'/\aB H' b (aG es r)/\aq H H' nx/\nx<=nx':=
 Q2 E.aci (E.h rfl) E.xl (E.h rfl) E.Kr (E.h rfl) E.FJ (E.h rfl) (dy h0) (iN h0) he hr cD
theorem eA.Zc(E:eA A)(he:bL H nx 2 aW ev es)(hr:er H nx 1 aZ rv r)(cD:cR r) :
  WF A 27 [.agg #[.int .i64 n,ev],rv] H nx λv H' nx'=>v=.int .i64 (dm n es r)/\aq H H' nx/\nx<=nx':=
 F9 E.Kt (E.h rfl) E.V5 (E.h rfl) E.QE (E.h rfl) E.Ks (E.h rfl) E.C6 (E.h rfl) E.fTo (E.h rfl) E.Iy (E.h rfl) E.QG (E.h rfl) E.QF (E.h rfl) E.xl (E.h rfl) E.Kr (E.h rfl) E.FJ (E.h rfl) iN he hr cD
theorem eA.Rt(E:eA A)(he:bL H nx 2 aW ev es)(hr:er H nx 1 aZ rv r)(cD:cR r) :
  WF A 67 [.agg #[.int .i64 n,ev],rv] H nx λv H' nx'=>v=.int .i64 (aH n es r)/\aq H H' nx/\nx<=nx':=
 mH E.tJ E.yL (E.h rfl) (E.h rfl) he hr cD
end
end
section
variable {A:aN}{H H':Heap}{nx nx':Nat}{σ:aR}{L:List Value}{Q:cw}
theorem dK.store{H1:Heap}{lo aQ b k:Nat}{us:List Value}{r:List (List Int)}{v:Value}{l:List Int}(hu:dK H1 lo aQ b us r)(hk:k<r.length)(hs:aq H1 H aQ)(hn:aQ<=nx)(g:GN H aQ nx v l)(hm:l.length<=4194304) :
  dK (aC H b (us.set k v)) lo nx b (us.set k v) (r.set k l):=by
 have h1:=hu.h1;have h2:=hu.h2;have hl:=hu.len;refine hu.put (aM V) hn (λd _ h4 h5 _=>by rw[ak,aw h5];exact hs d h4) ?_ (λd hd=>(g.blk hd).1) aj;exact(g.frame (H':=aC H b (us.set k v)) (nx':=nx) (λd h3 _=>by rw[ak,aw V]) (au _)).row V h2 hm
theorem j4(E:eA A){lv:Value}{l:List Int}{x:Int}(hl:bL H nx 1 aZ lv l)(hm:l.length<=1048576) :
  WF A 32 [lv,.int .i64 x] H nx λv H' nx'=>H'=H/\nx'=nx/\((∃i:Nat,v=.int .i64 (i:Int)/\l[i]?=some x/\∀j,j<i->l[j]?≠some x)\/(v=.int .i64 (-1)/\x∉l)):=by
 obtain⟨lb,lc,rfl⟩:=hl.form;refine WF.enter (E.h rfl _ _ _) E.Qw ?_
 repeat' (first|refine aE ?_|fail)
 refine WC.loop (α:=Nat) (λk=>[([],.slice lb l.length lc),(S1,.int .i64 x),(S7,.int .i64 ((l.length:Nat):Int)),(S8,.int .i64 ((k:Nat):Int))])
  (λk H' nx'=>k<=l.length/\H'=H/\nx'=nx/\∀i,i<k->l[i]?≠some x) (λk=>l.length-k)
  ?_ 0 aX ⟨bS _,rfl,rfl,λi hi=>by omega⟩
 rintro k _ _ ⟨hk,rfl,rfl,gu⟩
 repeat' (first|refine aE ?_|(refine bJ ?_ ?_<;>intro h<;>(try simp only[aL]at h))|fail)
 ·have bQ:k<l.length:=V;obtain⟨bb,bo,tN,rfl,iy,_,_,G2,jC⟩:=hl.at (by intro e;rw[e]at bQ;simp at bQ);have gY:=aM bQ;have q1:=cX (v:=.int .i64 l[k]) (jC k _ gY);generalize l[k]=y at gY q1
  repeat' (first|refine aE ?_|(refine bJ ?_ ?_<;>intro h<;>(try simp only[aL]at h))|fail)
  ·have h1:=h;exact aD (vs:=[_]) rfl ⟨rfl,rfl,.inl ⟨k,rfl,by rw[gY];congr 1;omega,gu⟩⟩
  ·have h1:=h;refine⟨k+1,V,aX,V,rfl,rfl,λi hi he=>?_⟩;rcases(show i<k\/i=k by omega)with h2|rfl
   ·exact gu i h2 he
   ·rw[gY]at he;cases he;omega
 ·refine aD (vs:=[_]) rfl ⟨rfl,rfl,.inr ⟨rfl,λhx=>?_⟩⟩;obtain⟨i,hi,e⟩:=kG hx;exact gu i V (by rw[aM hi,e])
theorem AQ(E:eA A){lv:Value}{l:List Int}{x:Int}(hl:bL H nx 1 aZ lv l)(hm:l.length<=1048576)(hx:x∈l) :
  WF A 95 [lv,.int .i64 x] H nx λv H' nx'=>H'=H/\nx'=nx/\v=.bool true:=by
 refine WF.enter (E.h rfl _ _ _) E.BE ?_
 repeat' (first|refine aE ?_|fail)
 refine WO.cn rfl ?_;refine(j4 E hl hm).of ?_;rintro _ _ _ ⟨rfl,rfl,⟨i,rfl,_⟩|⟨_,gu⟩⟩
 ·repeat' (first|refine aE ?_|(refine bJ ?_ ?_<;>intro h<;>(try simp only[aL]at h))|fail)
  ·exact aD (vs:=[_]) rfl ⟨rfl,rfl,rfl⟩
  ·exfalso;omega
 ·exact absurd hx gu
theorem MW(E:eA A){lv:Value}{l:List Int}(hl:bL H nx 1 aZ lv l)(hm:l.length<=1048576)(cG:0<l.length) :
  WF A 115 [lv] H nx λv H' nx'=>H'=H/\nx'=nx/\∃M:Int,v=.int .i64 M/\(∀y∈l,M<=y)/\M∈l:=by
 obtain⟨lb,lc,rfl⟩:=hl.form;obtain⟨bb,bo,tN,rfl,iy,_,_,G2,jC⟩:=hl.at (by intro e;rw[e]at cG;simp at cG);have Nu:=aM cG;have q0:=cX (v:=.int .i64 l[0]) (jC 0 _ Nu);generalize l[0]=x0 at Nu q0;refine WF.enter (E.h rfl _ _ _) E.ach ?_
 repeat' (first|refine aE ?_|(refine bJ ?_ ?_<;>intro h<;>(try simp only[aL]at h))|fail)
 ·omega
 refine WC.loop (α:=Nat×Int) (λk=>[([],.slice (some ⟨bb,bo,some 1⟩) l.length lc),(S3,.int .i64 k.2),(S4,.int .i64 ((k.1:Nat):Int))])
  (λk H' nx'=>k.1<=l.length/\H'=H/\nx'=nx/\(∀i x,i<k.1->l[i]?=some x->k.2<=x)/\k.2∈l) (λk=>l.length-k.1)
  ?_ (1,x0) aX ⟨cG,rfl,rfl,λi x hi h=>by
   have:i=0:=by have:i<1:=hi;omega
   subst this;rw[Nu]at h;cases h;exact Int.le_refl _,dM Nu⟩
 rintro⟨k,M⟩ _ _ ⟨hk,rfl,rfl,hle,ie⟩;simp only at hk hle ie ⊢
 repeat' (first|refine aE ?_|(refine bJ ?_ ?_<;>intro h<;>(try simp only[aL]at h))|fail)
 ·have bQ:k<l.length:=V;have gY:=aM bQ;have q1:=cX (v:=.int .i64 l[k]) (jC k _ gY)
  repeat' (first|refine aE ?_|fail)
  refine⟨(k+1,min M l[k]),by show l.length-(k+1)<l.length-k;omega,aX,by show k+1<=_;omega,rfl,rfl,λi x hi hx=>?_,?_⟩
  ·show min M l[k]<=x;rcases(show i<k\/i=k by have:i<k+1:=hi;omega)with h1|rfl
   ·have:=hle i x h1 hx;omega
   ·rw[gY]at hx;cases hx;omega
  ·show min M l[k]∈l;rcases(show min M l[k]=M\/min M l[k]=l[k] by omega)with e|e
   ·rw[e];exact ie
   ·rw[e];exact jE bQ
 ·refine aD (vs:=[_]) rfl ⟨rfl,rfl,M,rfl,λx hx=>?_,ie⟩;obtain⟨i,hi,rfl⟩:=kG hx;exact hle i _ V (aM hi)
theorem Ru(E:eA A){rv:Value}{r:List (List Int)}(hr:er H nx 1 aZ rv r)(cD:cR r) :
  WF A 92 [rv] H nx λv H' nx'=>aq H H' nx/\nx<=nx'/\∃b c us,v=.slice (some ⟨b,0,some 1⟩) r.length c/\r.length<=aF c/\dK H' nx nx' b us (cV r):=by
 obtain⟨rb,rc,rfl⟩:=hr.form;have oY:=cD.1;refine WF.enter (E.h rfl _ _ _) E.acf ?_
 repeat' (first|refine aE ?_|fail)
 refine WC.loop (α:=Nat) (λk=>[(S3,.slice (some ⟨nx,0,some 1⟩) r.length (2*r.length+1)),(dQ,.slice rb r.length rc),(eN,.int .i64 ((r.length:Nat):Int)),(jg,.int .i64 ((k:Nat):Int))])
  (λk H' nx'=>k<=r.length/\nx+1<=nx'/\aq H H' nx/\∃us,dK H' nx nx' nx us (kM jv r k)) (λk=>r.length-k)
  ?_ 0 aX ⟨bS _,au _,aq.refl.set (au _),_,by rw[oz];exact .start (au _) V aj⟩
 rintro k H1 aQ ⟨hk,cH,bt,us,hu⟩;have iF:=hu.len;rw[iX]at iF
 repeat' (first|refine aE ?_|(refine bJ ?_ ?_<;>intro h<;>(try simp only[aL]at h))|fail)
 ·have bQ:k<r.length:=V;have kE:r.getD k []=r[k]:=by rw[aY,aM bQ];rfl
  have wP:=cD.row k;obtain⟨bb,bo,tN,ib,ic,rfl,iy,jz,bH,hi⟩:=hr.at bQ;rw[<-kE]at bH hi;have fU:=bt.rd iy jz;have xr:=(hi.same bt).up (show nx<=aQ by omega)
  repeat' (first|refine aE ?_|(refine bJ ?_ ?_<;>intro h<;>(try simp only[aL]at h))|fail)
  ·have h0:r.getD k []=[]:=mM V;refine⟨k+1,V,aX,V,V,bt,us,?_⟩;rw[IZ _ _ (by rw[h0];rfl)];exact hu
  ·refine WO.cn rfl ?_;refine(MW E xr wP V).of ?_;rintro _ _ _ ⟨rfl,rfl,M,rfl,hM1,hM2⟩
   skip
   refine WO.cn rfl ?_;refine(j4 E xr wP).of ?_;rintro _ _ _ ⟨rfl,rfl,⟨i,rfl,BA,KD⟩|⟨_,gu⟩⟩
   rotate_left 1
   ·exact absurd hM2 gu
   have jT:=(cS.1 BA).1;have hle:tS (r.getD k [])=i:=zf BA hM1 (λj y hj hy=>by
    have h1:=hM1 y (dM hy);have h2:=KD j hj;rw[hy]at h2;have h3:y≠M:=λe=>h2 (by rw[e])
    omega)
   repeat' (first|refine aE ?_|fail)
   refine WO.n rfl ?_;refine bG.acx rfl rfl xr V (λv1 Fv=>?_);refine WO.n rfl ?_;refine bG.acy rfl rfl xr V (λv2 J4=>?_);refine WO.n rfl ?_;refine bG.more (nx0:=_) rfl rfl .nil Fv (au _) (by rw[pf];simp only[gp];omega) (λv3 H3 bW j8 g3 de _=>?_);refine WO.n rfl ?_;refine bG.more rfl rfl g3 ((J4.same de).up j8) V (by rw[qQ,pf,iZ];omega) (λv4 H4 dA oO g4 fA _=>?_);rw[qQ,show (r.getD k []).drop i++(r.getD k []).take i=jv (r.getD k []) by unfold jv;rw[hle]]at g4;have vo:=de.trans fA (au _);have LC:=(vo nx V).trans hu.cells;obtain⟨vb,vc,rfl⟩:=g4.form
   repeat' (first|refine aE ?_|fail)
   have bO:=hu.store (k:=k) (by rw[iX];exact bQ) vo V g4 (by rw[zg];omega);rw[qI jv r bQ]at bO;refine⟨k+1,V,aX,V,V,(bt.trans vo V).set (au _),us.set k (.slice vb (jv (r.getD k [])).length vc),?_⟩;rw[show 0+k*1=k by omega];exact bO
 ·obtain rfl:k=r.length:=V;rw[qH]at hu;exact aD (vs:=[_]) rfl ⟨bt,V,nx,_,us,rfl,by rw[bU];exact au _,hu⟩
theorem sm(E:eA A){n:Int}{ev rv:Value}{es:List Ed}{r:List (List Int)}(h0:aH n es r=0)(he:bL H nx 2 aW ev es)(hr:er H nx 1 aZ rv r)(cD:cR r) :
  WF A 63 [.agg #[.int .i64 n,ev],rv] H nx λv H' nx'=>aq H H' nx/\nx<=nx'/\∃b c us,v=oneOf [.slice (some ⟨b,0,some 1⟩) r.length c,.int .i64 0]/\r.length<=aF c/\dK H' nx nx' b us (cV r):=by
 obtain⟨base,ec,rfl⟩:=he.form;obtain⟨cN,rc,rfl⟩:=hr.form;refine WF.enter (E.h rfl _ _ _) E.QB ?_;have bF:aq H (aC H nx [.int .i64 n,.slice base es.length ec]) nx:=aq.refl.set (au _)
 repeat' (first|refine aE ?_|fail)
 refine WO.cn rfl ?_;refine(E.Rt (n:=n) ((he.same bF).up (cE _)) ((hr.same bF).up (cE _)) cD).of ?_;rintro _ H1 aQ ⟨rfl,bt,cH⟩;rw[h0];have bu:=bF.trans bt V
 repeat' (first|refine aE ?_|(refine bJ ?_ ?_<;>intro h<;>(try simp only[aL]at h))|fail)
 ·exact absurd rfl (by assumption)
 refine WO.cn rfl ?_;refine(Ru E ((hr.same bu).up V) cD).of ?_;rintro _ H2 nx2 ⟨bN,fg,b,c,us,rfl,hc,hu⟩
 repeat' (first|refine aE ?_|fail)
 exact aD (vs:=[_,_]) rfl ⟨bu.trans bN V,V,b,c,us,rfl,hc,hu.low V⟩
end
section
variable {A:aN}{H H':Heap}{nx nx':Nat}{σ:aR}{L:List Value}{Q:cw}
theorem tT(E:eA A){rv:Value}{r:List (List Int)}(hr:er H nx 1 aZ rv r)(cD:cR r) :
  WF A 69 [rv] H nx λv H' nx'=>aq H H' nx/\nx<=nx'/\∃b us,v=.slice (some ⟨b,0,some 1⟩) r.length (2*r.length+1)/\dK H' nx nx' b us r:=by
 obtain⟨rb,rc,rfl⟩:=hr.form;have oY:=cD.1;refine WF.enter (E.h rfl _ _ _) E.Kq ?_
 repeat' (first|refine aE ?_|fail)
 refine WC.loop (α:=Nat) (λk=>[(S3,.slice (some ⟨nx,0,some 1⟩) r.length (2*r.length+1)),(S9,.slice rb r.length rc),(dQ,.int .i64 ((r.length:Nat):Int)),(eN,.int .i64 ((k:Nat):Int))])
  (λk H' nx'=>k<=r.length/\nx+1<=nx'/\aq H H' nx/\∃us,dK H' nx nx' nx us (kM (λl=>l) r k)) (λk=>r.length-k)
  ?_ 0 aX ⟨bS _,au _,aq.refl.set (au _),_,by rw[oz];exact .start (au _) V aj⟩
 rintro k H1 aQ ⟨hk,cH,bt,us,hu⟩;have iF:=hu.len;rw[iX]at iF
 repeat' (first|refine aE ?_|(refine bJ ?_ ?_<;>intro h<;>(try simp only[aL]at h))|fail)
 ·have bQ:k<r.length:=V;have kE:r.getD k []=r[k]:=by rw[aY,aM bQ];rfl
  have wP:=cD.row k;obtain⟨bb,bo,tN,ib,ic,rfl,iy,jz,bH,hi⟩:=hr.at bQ;rw[<-kE]at bH hi;have fU:=bt.rd iy jz;have xr:=(hi.same bt).up (show nx<=aQ by omega)
  repeat' (first|refine aE ?_|fail)
  refine WO.n rfl ?_;refine bG.more (nx0:=aQ) rfl rfl .nil xr (au _) (by simp only[gp];omega) (λv4 H4 dA oO g4 fA _=>?_);rw[qQ]at g4;have LC:=(fA nx V).trans hu.cells;obtain⟨vb,vc,rfl⟩:=g4.form
  repeat' (first|refine aE ?_|fail)
  have bO:=hu.store (k:=k) (by rw[iX];exact bQ) fA V g4 V;have zQ:=qI (λl=>l) r bQ;rw[zQ]at bO;refine⟨k+1,V,aX,V,V,(bt.trans fA V).set (au _),us.set k (.slice vb (r.getD k []).length vc),?_⟩;rw[show 0+k*1=k by omega];exact bO
 ·obtain rfl:k=r.length:=V;rw[qH,List.map_id']at hu;exact aD (vs:=[_]) rfl ⟨bt,V,nx,us,rfl,hu⟩
theorem Gb(E:eA A){rv:Value}{r:List (List Int)}(hr:er H nx 1 aZ rv r)(cD:cR r) :
  WF A 69 [rv] H nx λv H' nx'=>aq H H' nx/\nx<=nx'/\∃b c us,v=.slice (some ⟨b,0,some 1⟩) r.length c/\r.length<=aF c/\dK H' nx nx' b us r:=by
 refine(tT E hr cD).of ?_;rintro _ H1 aQ ⟨h1,h2,b,us,rfl,hu⟩;exact⟨h1,h2,b,_,us,rfl,by rw[bU];exact au _,hu⟩
theorem Gc(E:eA A){lv:Value}{l:List Int}(hl:bL H nx 1 aZ lv l)(hm:l.length<=1048576) :
  WF A 76 [lv] H nx λv H' nx'=>aq H H' nx/\nx<=nx'/\GN H' nx nx' v (jv l):=by
 obtain⟨lb,lc,rfl⟩:=hl.form;refine WF.enter (E.h rfl _ _ _) E.Ko ?_
 repeat' (first|refine aE ?_|fail)
 refine WC.loop (α:=Nat×Nat) (λk=>[([],.slice lb l.length lc),(S3,.int .i64 ((k.2:Nat):Int)),(S4,.int .i64 ((k.1:Nat):Int))])
  (λk H' nx'=>k.1<=l.length/\H'=H/\nx'=nx/\k.2<=k.1/\(k.2=k.1->k.1=0)/\∀x,l[k.2]?=some x->∀j y,j<k.1->l[j]?=some y->x<=y/\(j<k.2->x<y)) (λk=>l.length-k.1)
  ?_ (0,0) aX ⟨bS _,rfl,rfl,au _,λ_=>rfl,λx _ j y hj=>absurd hj (SS _)⟩
 rintro⟨k,a⟩ _ _ ⟨hk,rfl,rfl,ha,ha0,hle⟩;simp only at hk ha ha0 hle ⊢
 repeat' (first|refine aE ?_|(refine bJ ?_ ?_<;>intro h<;>(try simp only[aL]at h))|fail)
 ·have bQ:k<l.length:=V;obtain⟨bb,bo,tN,rfl,iy,_,_,G2,jC⟩:=hl.at (by intro e;rw[e]at bQ;simp at bQ);have kF:=aM bQ;have Zd:=aM (show a<l.length by omega);have q1:=cX (v:=.int .i64 l[k]) (jC k _ kF);have q2:=cX (v:=.int .i64 l[a]) (jC a _ Zd);generalize l[k]=y at kF q1;generalize l[a]=x at Zd q2;have hx:=hle x Zd
  repeat' (first|refine aE ?_|(refine bJ ?_ ?_<;>intro h<;>(try simp only[aL]at h))|fail)
  ·refine⟨(k+1,k),by show l.length-(k+1)<l.length-k;omega,aX,by show k+1<=_;omega,rfl,rfl,by show k<=k+1;omega,λe=>(by have:k=k+1:=e;omega),λx' sV j z hj hz=>?_⟩;have Rv:l[k]?=some x':=sV;rw[kF]at Rv;cases Rv;have Ho:j<k+1:=hj;rcases(show j<k\/j=k by omega)with h1|rfl
   ·have:=(hx j z h1 hz).1;exact⟨V,λ_=>by omega⟩
   ·rw[kF]at hz;cases hz
    exact⟨Int.le_refl _,λh=>absurd h (Nat.lt_irrefl _)⟩
  ·refine⟨(k+1,a),by show l.length-(k+1)<l.length-k;omega,aX,by show k+1<=_;omega,rfl,rfl,by show a<=k+1;omega,λe=>(by have:a=k+1:=e;omega),λx' sV j z hj hz=>?_⟩;have Rv:l[a]?=some x':=sV;rw[Zd]at Rv;cases Rv;have Ho:j<k+1:=hj;rcases(show j<k\/j=k by omega)with h1|rfl
   ·exact hx j z h1 hz
   ·rw[kF]at hz;cases hz
    refine⟨V,λh=>?_⟩;have h2:j<a:=h;omega
 ·obtain rfl:k=l.length:=V;have qi:a<=l.length:=ha;have Dg:l.drop a++l.take a=jv l:=by
   by_cases h0:l=[]
   ·subst h0;simp[jv]
   ·have iu:=List.length_pos_iff.2 h0;have cg:a<l.length:=by
     rcases rD a l.length with h|h
     ·exact h
     ·have:=ha0 V;omega
    have Zd:=aM cg;have hx:=hle _ Zd;unfold jv;rw[zf Zd (λy hy=>by
     obtain⟨j,hj,rfl⟩:=kG hy;exact(hx j _ hj (aM hj)).1) (λj y hj hy=>(hx j y V hy).2 hj)]
  repeat' (first|refine aE ?_|fail)
  refine WO.n rfl ?_;refine bG.acx rfl rfl hl qi (λv1 Fv=>?_);refine WO.n rfl ?_;refine bG.acy rfl rfl hl qi (λv2 J4=>?_);refine WO.n rfl ?_;refine bG.more (nx0:=_) rfl rfl .nil Fv (au _) (by rw[pf];simp only[gp];omega) (λv3 H3 bW j8 g3 de _=>?_);refine WO.n rfl ?_;refine bG.more rfl rfl g3 ((J4.same de).up j8) V (by rw[qQ,pf,iZ];omega) (λv4 H4 dA oO g4 fA _=>?_);rw[qQ,Dg]at g4
  repeat' (first|refine aE ?_|fail)
  exact aD (vs:=[_]) rfl ⟨de.trans fA (au _),V,g4⟩
theorem p8(E:eA A){rv:Value}{r:List (List Int)}(hr:er H nx 1 aZ rv r)(cD:cR r) :
  WF A 44 [rv] H nx λv H' nx'=>aq H H' nx/\nx<=nx'/\∃b c us,v=.slice (some ⟨b,0,some 1⟩) r.length c/\r.length<=aF c/\dK H' nx nx' b us (cV r):=by
 obtain⟨rb,rc,rfl⟩:=hr.form;have oY:=cD.1;refine WF.enter (E.h rfl _ _ _) E.Km ?_
 repeat' (first|refine aE ?_|fail)
 refine WC.loop (α:=Nat) (λk=>[([],.slice rb r.length rc),(S3,.slice (some ⟨nx,0,some 1⟩) r.length (2*r.length+1)),(S4,.int .i64 ((k:Nat):Int))])
  (λk H' nx'=>k<=r.length/\nx+1<=nx'/\aq H H' nx/\∃us,dK H' nx nx' nx us (kM jv r k)) (λk=>r.length-k)
  ?_ 0 aX ⟨bS _,au _,aq.refl.set (au _),_,by rw[oz];exact .start (au _) V aj⟩
 rintro k H1 aQ ⟨hk,cH,bt,us,hu⟩;have iF:=hu.len;rw[iX]at iF
 repeat' (first|refine aE ?_|(refine bJ ?_ ?_<;>intro h<;>(try simp only[aL]at h))|fail)
 ·have bQ:k<r.length:=V;have kE:r.getD k []=r[k]:=by rw[aY,aM bQ];rfl
  have wP:=cD.row k;obtain⟨bb,bo,tN,ib,ic,rfl,iy,jz,bH,hi⟩:=hr.at bQ;rw[<-kE]at bH hi;have fU:=bt.rd iy jz;have xr:=(hi.same bt).up (show nx<=aQ by omega)
  repeat' (first|refine aE ?_|fail)
  refine WO.cn rfl ?_;refine(Gc E xr wP).of ?_;rintro v4 H4 dA ⟨fA,oO,g4⟩;have LC:=(fA nx V).trans hu.cells;obtain⟨vb,vc,rfl⟩:=g4.form
  repeat' (first|refine aE ?_|fail)
  have bO:=hu.store (k:=k) (by rw[iX];exact bQ) fA V g4 (by rw[zg];omega);rw[qI jv r bQ]at bO;refine⟨k+1,V,aX,V,V,(bt.trans fA V).set (au _),us.set k (.slice vb (jv (r.getD k [])).length vc),?_⟩;rw[show 0+k*1=k by omega];exact bO
 ·obtain rfl:k=r.length:=V;rw[qH]at hu;exact aD (vs:=[_]) rfl ⟨bt,V,nx,_,us,rfl,by rw[bU];exact au _,hu⟩
end
section
variable {A:aN}{H H':Heap}{nx nx':Nat}{σ:aR}{L:List Value}{Q:cw}
theorem qK{p q q2:List Bool}{agg:Option Nat}{b o:Nat}{cs:List Value}{v u w:Value}{Q:Value->Heap->Nat->Prop}(h1:sl σ p=some (.pointer (some ⟨b,o,none⟩)))(h2:ah H (at_ b)=some (.cells cs))(h3:partOf cs o agg=some v)(h4:sl σ q=some u)(h5:sl σ q2=some w)(hq:Q (oneOf [v,u,w]) H nx):gR [(.var p,some agg),(.var q,none),(.var q2,none)] Q .ret σ H nx:=by
 refine⟨[v,u,w],?_,hq⟩;have e1:tr σ H (.var p,some agg)=some v:=by
  show (match sl σ p with
   | some (.pointer (some ⟨b,o,none⟩))=>match ah H (at_ b)with
    | some (.cells cs)=>partOf cs o agg
    | _=>none
   | _=>none)=_
  rw[h1];simp only[h2];exact h3
 have e2:tr σ H (.var q,none)=some u:=h4;have e3:tr σ H (.var q2,none)=some w:=h5;unfold gB;rw[e1];unfold gB;rw[e2];unfold gB;rw[e3];rfl
def Aa(H:Heap)(lo nx:Nat)(v:Value)(es:List Ed):Prop:=
 ∃b c,v=.slice (some ⟨b,0,some 2⟩) es.length c/\es.length<=aF c/\lo<=b/\b<nx/\ah H (at_ b)=some (.cells (es.flatMap aW))
theorem Aa.sle{lo:Nat}{v:Value}{es:List Ed}(h:Aa H lo nx v es):bL H nx 2 aW v es:=by
 obtain⟨b,c,rfl,h1,h2,h3,h4⟩:=h;exact .pre (rest:=[]) (.inl (by rw[gN];exact h4)) h3 h1 (λ_=>rfl)
theorem Aa.frame{lo:Nat}{v:Value}{es:List Ed}(h:Aa H lo nx v es)(hs:∀d,lo<=d->d<nx->ah H' (at_ d)=ah H (at_ d))(hn:nx<=nx'):Aa H' lo nx' v es:=by
 obtain⟨b,c,rfl,h1,h2,h3,h4⟩:=h;exact⟨b,c,rfl,h1,h2,V,(hs b h2 h3).trans h4⟩
theorem Aa.low{lo lo':Nat}{v:Value}{es:List Ed}(h:Aa H lo nx v es)(hl:lo'<=lo):Aa H lo' nx v es:=by
 obtain⟨b,c,rfl,h1,h2,h3,h4⟩:=h;exact⟨b,c,rfl,h1,V,h3,h4⟩
theorem I0(E:eA A){ev:Value}{es:List Ed}(he:bL H nx 2 aW ev es)(hm:es.length<=1048576)(hn:∀n c,ev≠.slice none n c) :
  WF A 37 [ev] H nx λv H' nx'=>aq H H' nx/\nx<=nx'/\Aa H' nx nx' v es:=by
 obtain⟨base,ec,rfl⟩:=he.form;cases base with
 | none=>exact absurd rfl (hn _ _)
 | some a=>
 refine WF.enter (E.h rfl _ _ _) E.Qy ?_
 repeat' (first|refine aE ?_|fail)
 have bF:aq H (aC H nx []) nx:=aq.refl.set (au _);have MX:=(he.same bF).up (cE _);have eJ:=MX.src (λ_=>rfl);refine WO.n rfl ?_;by_cases h0:es=[]
 ·subst h0;refine bG.of (Act.TM rfl rfl eJ V) ?_
  repeat' (first|refine aE ?_|fail)
  exact aD (vs:=[_]) rfl ⟨bF,cE _,nx,_,rfl,bS _,au _,K7 _,aj⟩
 ·have iu:=List.length_pos_iff.2 h0;refine bG.of (Act.tx (old:=[]) rfl rfl eJ V V (nG _) aj rfl (by show 0<0+es.length;omega) rfl (by unfold small;omega) (by unfold small;omega)) ?_
  repeat' (first|refine aE ?_|fail)
  refine aD (vs:=[_]) rfl ⟨bF.set V,V,nx+1,_,by rw[Nat.zero_add];rfl,by rw[bT];omega,V,V,?_⟩;rw[aj,qQ]
theorem zj(E:eA A){n:Int}{ev:Value}{es:List Ed}(he:bL H nx 2 aW ev es)(hm:es.length<=1048576) :
  WF A 79 [.agg #[.int .i64 n,ev]] H nx λv H' nx'=>aq H H' nx/\nx<=nx'/\∃oA,v=.agg #[.int .i64 n,oA]/\bP H' nx nx' 2 oA es.length (es.flatMap aW):=by
 obtain⟨base,ec,rfl⟩:=he.form;refine WF.enter (E.h rfl _ _ _) E.QA ?_;have bF:aq H (aC (aC H nx [.int .i64 n,.slice base es.length ec]) (nx+1) [.int .i64 0,.slice none 0 0]) nx:=(aq.refl.set (au _)).set V;have CN:Rd (aC (aC H nx [.int .i64 n,.slice base es.length ec]) (nx+1) [.int .i64 0,.slice none 0 0]) nx [.int .i64 n,.slice base es.length ec]:=Rd.skip V Rd.self
 repeat' (first|refine aE ?_|fail)
 have MX:=(he.same bF).up (show nx<=nx+1+1 by omega);refine WO.na rfl ?_;refine bG.Ik (nx0:=nx+1+1) rfl rfl .nil (MX.src (λ_=>rfl)) V (nG _) (iB _) V (by unfold small;omega) (by unfold small;omega) ?_;intro v1 H2 nx2 fg MH bN _;rw[qQ,Nat.zero_add]at MH;have G0:=bN.rd V CN;refine⟨bB.look rfl G0 rfl rfl (by simp[mc,ff]) .nil,?_⟩;have vE:ah H2 (at_ (nx+1))=some (.cells [.int .i64 0,.slice none 0 0]):=(bN (nx+1) V).trans aj;obtain⟨vb,vc,rfl⟩:=(bP.sle MH (λ_=>rfl)).form
 repeat' (first|refine aE ?_|fail)
 refine kA rfl aj rfl ⟨(bF.trans bN V).set V,V,_,rfl,?_⟩;obtain⟨q1,q2|⟨b,e,q3,q4,q5⟩⟩:=MH
 ·exact⟨q1,.inl q2⟩
 ·exact⟨q1,.inr ⟨b,e,V,q4,by rw[ak,aw V];exact q5⟩⟩
theorem Dr(E:eA A){fv:Value}{fs:List (List Int)}(hf:er H nx 1 aZ fv fs)(hl:fs.length<=1048576)(hr:∀k,(fs.getD k []).length<=1048576) :
  WF A 71 [fv] H nx λv H' nx'=>H'=H/\nx'=nx/\∃k:Nat,v=.int .i64 (k:Int):=by
 obtain⟨fb,fc,rfl⟩:=hf.form;refine WF.enter (E.h rfl _ _ _) E.FI ?_
 repeat' (first|refine aE ?_|fail)
 refine WC.loop (α:=Nat×Nat) (λk=>[(S3,.int .i64 ((k.2:Nat):Int)),(S6,.slice fb fs.length fc),(S7,.int .i64 ((fs.length:Nat):Int)),(S8,.int .i64 ((k.1:Nat):Int))])
  (λk H' nx'=>k.1<=fs.length/\H'=H/\nx'=nx/\k.2<=k.1) (λk=>fs.length-k.1)
  ?_ (0,0) aX ⟨bS _,rfl,rfl,au _⟩
 rintro⟨k,a⟩ _ _ ⟨hk,rfl,rfl,ha⟩;simp only at hk ha ⊢
 repeat' (first|refine aE ?_|(refine bJ ?_ ?_<;>intro h<;>(try simp only[aL]at h))|fail)
 ·have bQ:k<fs.length:=V;have kE:fs.getD k []=fs[k]:=by rw[aY,aM bQ];rfl
  have wP:=hr k;obtain⟨bb,bo,tN,ib,ic,rfl,iy,jz,bH,hi⟩:=hf.at bQ;rw[<-kE]at bH hi
  repeat' (first|refine aE ?_|(refine bJ ?_ ?_<;>intro h<;>(try simp only[aL]at h))|fail)
  ·exact⟨(k+1,a+1),by show fs.length-(k+1)<fs.length-k;omega,aX,by show k+1<=_;omega,rfl,rfl,by show a+1<=k+1;omega⟩
  ·exact⟨(k+1,a),by show fs.length-(k+1)<fs.length-k;omega,aX,by show k+1<=_;omega,rfl,rfl,by show a<=k+1;omega⟩
 ·exact aD (vs:=[_]) rfl ⟨rfl,rfl,a,rfl⟩
end
section
variable {A:aN}{H H':Heap}{nx nx':Nat}{σ:aR}{L:List Value}{Q:cw}
end
section
variable {A:aN}{H H':Heap}{nx nx':Nat}{σ:aR}{L:List Value}{Q:cw}
structure Bx(H:Heap)(nx:Nat)(a b c d:List Value):Prop where
 r4:ah H (at_ nx)=some (.cells a)
 r6:ah H (at_ (nx+1))=some (.cells b)
 r7:ah H (at_ (nx+1+1))=some (.cells c)
 r8:ah H (at_ (nx+1+1+1))=some (.cells d)
theorem Bx.of{a b c d:List Value}:Bx (aC (aC (aC (aC H nx a) (nx+1) b) (nx+1+1) c) (nx+1+1+1) d) nx a b c d:=
 ⟨ay V (ay V (ay V aj)),ay V (ay V aj),ay V aj,aj⟩
theorem Bx.same{a b c d:List Value}(h:Bx H nx a b c d)(hs:aq H H' nx')(hn:nx+1+1+1+1<=nx'):Bx H' nx a b c d:=
 ⟨(hs _ V).trans h.r4,(hs _ V).trans h.r6,(hs _ V).trans h.r7,(hs _ V).trans h.r8⟩
theorem p9{c:List Int}{m v:Nat}(hl:c.length=m)(hv:v<m):∃x,c[v]?=some x:=⟨_,aM V⟩
theorem bP.edf{nx0:Nat}{v:Value}{es:List Ed}(h:bP H nx0 nx 2 v es.length (es.flatMap aW))(h0:0<es.length):Aa H nx0 nx v es:=by
 obtain⟨_,⟨_,e⟩|⟨b,rfl,h1,h2,h3⟩⟩:=h
 ·omega
 ·exact⟨b,_,rfl,by rw[bT];exact au _,h1,h2,h3⟩
theorem bP.more{nx0 by_:Nat}{zero:List Value}{s x:Od}{v xv:Value}{l m:List Ed}{K:Value->Heap->Nat->Prop}(hs:ev σ L s=some v)(hx:ev σ L x=some xv)(hg:bP H nx0 nx 2 v l.length (l.flatMap aW))(eJ:pN H 2 xv m.length (m.flatMap aW))(yz:nx0<=nx)(WZ:by_<=16)(hb:l.length+m.length<=1048576)(h:∀v' H' nx',nx<=nx'->bP H' nx0 nx' 2 v' (l++m).length ((l++m).flatMap aW)->aq H H' nx0->K v' H' nx'):bG A (.app 2 by_ zero s x false) σ L H nx K:=by
 have h16:(l.length+m.length)*by_<=(l.length+m.length)*16:=SO _ WZ;refine .Ik hs hx hg eJ V (nG _) (iB _) yz (by unfold small;omega) (by unfold small;omega) (λv' H' nx' h1 h2 h3 _=>h v' H' nx' h1 ?_ h3);rw[<-List.flatMap_append]at h2;rw[cm];exact h2
theorem nH{b:Nat}{c:Nat}{x y:Int}(h:Rd H b [.int .i64 x,.int .i64 y]):pN H 2 (.slice (some ⟨b,0,some 2⟩) 1 c) [(x,y)].length ([(x,y)].flatMap aW):=dL h rfl
end
section
noncomputable def bg(es:List Ed)(r:List (List Int))(h:Nat):Nat:=((dR es r).getD h 0).toNat
theorem BS{n:Int}{es:List Ed}{r:List (List Int)}(g:dk n es r){v k:Nat}(hv:v<r.length)(hk:k<eZ r v):((bg es r (aU (jh r v k).toNat):Nat):Int)=jh r v ((k+1)%eZ r v):=by
 obtain⟨l,hl⟩:=qG g;have e:=iW g hl;have h1:=hl.2 v k hv hk;obtain⟨g1,_⟩:=g.ok v ((k+1)%eZ r v) hv (Nat.mod_lt _ V);unfold bg;rw[e,aY,h1];show (((jh r v ((k+1)%eZ r v)).toNat:Nat):Int)=_;omega
def rA(nxt:List Int)(k:Nat):Nat:=(nxt.getD k 0).toNat
structure Ze(nxt:List Int)(s0:Nat->Prop)(h0:Nat)(s:List Bool)(f:List Int):Prop where
 len:s.length=nxt.length
 sn:∀q:Nat,s[q]?=some true↔s0 q\/(q:Int)∈f
 new:∀x∈f,∃q:Nat,x=(q:Int)/\q<nxt.length/\¬s0 q
 nd:f.Nodup
structure Zf(nxt:List Int)(s0:Nat->Prop)(h0:Nat)(s:List Bool)(f:List Int):Prop extends Ze nxt s0 h0 s f where
 fwd:∀q:Nat,(q:Int)∈f->((rA nxt q:Nat):Int)∈f
 bwd:∀q:Nat,q<nxt.length->((rA nxt q:Nat):Int)∈f->(q:Int)∈f
 has:s0 h0\/(h0:Int)∈f
def Path(nxt:List Int)(h0 k:Nat)(f:List Int):Prop:=
 (f=[]/\k=h0)\/(f[0]?=some (h0:Int)/\(∀(i q:Nat),f[i]?=some (q:Int)->i+1<f.length->f[i+1]?=some ((rA nxt q:Nat):Int))/\∃l:Nat,f[f.length-1]?=some (l:Int)/\rA nxt l=k)
theorem KR{nxt:List Int}(hj:∀a b,a<nxt.length->b<nxt.length->rA nxt a=rA nxt b->a=b){s0:Nat->Prop}{h0 k:Nat}{s:List Bool}{f:List Int}(hb:∀q,q<nxt.length->s0 (rA nxt q)->s0 q)(hi:Ze nxt s0 h0 s f)(hp:Path nxt h0 k f)(hk:s[k]?=some true):Zf nxt s0 h0 s f:=by
 rcases hp with⟨rfl,rfl⟩|⟨p0,p1,l,p2,p3⟩
 ·refine⟨hi,λq h=>(by cases h),λq _ h=>(by cases h),?_⟩;rcases(hi.sn k).1 hk with h|h
  ·exact .inl h
  ·cases h
 ·have iu:=(cS.1 p0).1;have el:∀(i:Nat) (x:Int),f[i]?=some x->∃q:Nat,x=(q:Int)/\q<nxt.length/\¬s0 q:=λi x h=>hi.new x (dM h)
  have uniq:∀(i j:Nat) (x:Int),f[i]?=some x->f[j]?=some x->i=j:=λi j x h1 h2=>by
   obtain⟨a1,a2⟩:=cS.1 h1;obtain⟨b1,b2⟩:=cS.1 h2;apply Classical.byContradiction;intro cG;have key:∀(i j:Nat) (hi:i<f.length) (hj:j<f.length),i<j->f[i]≠f[j]:=λi j zR Ho Bh=>List.pairwise_iff_getElem.1 hi.nd i j zR Ho Bh
   rcases Nat.lt_or_gt_of_ne cG with h|h
   ·exact key i j a1 b1 h (by rw[a2,b2])
   ·exact key j i b1 a1 h (by rw[a2,b2])
  obtain⟨l',e1,jB,nc⟩:=el _ _ p2;have:l'=l:=V;subst this;have hkf:(k:Int)∈f:=by
   rcases(hi.sn k).1 hk with h|h
   ·exact absurd (hb l' jB (by rw[p3];exact h)) nc
   ·exact h
  have hk0:k=h0:=by
   obtain⟨j,AI,MY⟩:=kG hkf;have Rw:f[j]?=some (k:Int):=by rw[aM AI,MY]
   cases j with
   | zero=>rw[p0]at Rw;cases Rw;rfl
   | succ j=>
    have cg:j<f.length:=V;obtain⟨p,e2,GY,_⟩:=el j _ (aM cg);have e3:f[j]?=some (p:Int):=by rw[aM cg,e2]
    have e4:=p1 j p e3 AI;rw[Rw]at e4;have e5:rA nxt p=k:=by have:=jk e4;omega
    have e6:=hj p l' GY jB (by rw[e5,p3]);subst e6;have:=uniq _ _ _ e3 p2;omega
  refine⟨hi,λq hq=>?_,λq vR CE=>?_,.inr ?_⟩
  ·obtain⟨j,AI,MY⟩:=kG hq;have Rw:f[j]?=some (q:Int):=by rw[aM AI,MY]
   by_cases hl:j+1<f.length
   ·exact dM (p1 j q Rw hl)
   ·have:j=f.length-1:=V;subst this;rw[p2]at Rw;have:l'=q:=by have:=jk Rw;omega
    subst this;rw[p3];exact hkf
  ·obtain⟨j,AI,MY⟩:=kG CE;have Rw:f[j]?=some ((rA nxt q:Nat):Int):=by rw[aM AI,MY]
   cases j with
   | zero=>
    rw[p0]at Rw;have e5:rA nxt q=rA nxt l':=by have:=jk Rw;omega
    have:=hj q l' vR jB e5;subst this;exact dM p2
   | succ j=>
    have cg:j<f.length:=V;obtain⟨p,e2,GY,_⟩:=el j _ (aM cg);have e3:f[j]?=some (p:Int):=by rw[aM cg,e2]
    have e4:=p1 j p e3 AI;rw[Rw]at e4;have e5:rA nxt q=rA nxt p:=by have:=jk e4;omega
    have:=hj q p vR GY e5;subst this;exact dM e3
  ·rw[<-hk0];exact hkf
theorem Zg{s:List Bool}(h:s.count false=0){k:Nat}(hk:k<s.length):s[k]?=some true:=by
 rw[aM hk]
 congr 1
 cases e:s[k]with
 | true=>rfl
 | false=>
  have:=List.count_pos_iff.2 (e ▸ jE hk);omega
theorem Rx{nxt:List Int}(hn:pV nxt)(hj:∀a b,a<nxt.length->b<nxt.length->rA nxt a=rA nxt b->a=b){s0:Nat->Prop}{h0:Nat}(hb:∀q,q<nxt.length->s0 (rA nxt q)->s0 q) :
  ∀(m k:Nat) (s:List Bool) (f:List Int),k<nxt.length->s.count false<=m->Ze nxt s0 h0 s f->Path nxt h0 k f->Zf nxt s0 h0 (qE nxt m s k f).1 (qE nxt m s k f).2:=by
 intro m
 induction m with
 | zero=>
  intro k s f hk hc hi hp;show Zf nxt s0 h0 s f;exact KR hj hb hi hp (Zg V (by rw[hi.len];exact hk))
 | succ m ih=>
  intro k s f hk hc hi hp;have Gd:k<s.length:=by rw[hi.len];exact hk
  have m9:s.getD k true=s[k]:=by rw[aY,aM Gd];rfl
  cases e:s[k]with
  | true=>
   rw[pS (by rw[m9,e])];exact KR hj hb hi hp (by rw[aM Gd,e])
  | false=>
   rw[pT (by rw[m9,e])];have gu:¬(s0 k\/(k:Int)∈f):=λh=>by
    have:=(hi.sn k).2 h;rw[aM Gd,e]at this;cases this
   obtain⟨q,vR,CE⟩:=hn k hk;have hnk:rA nxt k=q:=by unfold rA;rw[aY,vR];rfl
   have zS:=count_set Gd e;refine ih _ _ _ (by show rA nxt k<_;rw[hnk];exact CE) V ⟨by rw[iq];exact hi.len,λq=>?_,λx hx=>?_,?_⟩ (.inr ⟨?_,λi q hq cg=>?_,k,?_,rfl⟩)
   ·rw[fZ];by_cases h:k=q
    ·subst h;rw[aJ rfl,aJ Gd];exact⟨λ_=>.inr (List.mem_append_right _ (fe.2 rfl)),λ_=>rfl⟩
    ·rw[aw h,hi.sn];constructor
     ·rintro(h1|h1)
      ·exact .inl h1
      ·exact .inr (List.mem_append_left _ h1)
     ·rintro(h1|h1)
      ·exact .inl h1
      ·rcases ee.1 h1 with h1|h1
       ·exact .inr h1
       ·have:=fe.1 h1;omega
   ·rcases ee.1 hx with hx|hx
    ·exact hi.new x hx
    ·exact⟨k,fe.1 hx,hk,λh=>gu (.inl h)⟩
   ·rw[List.nodup_append];refine⟨hi.nd,by simp,λa ha b ia e'=>?_⟩;have:=fe.1 ia;rw[e',this]at ha;exact gu (.inr ha)
   ·rcases hp with⟨rfl,rfl⟩|⟨p0,_⟩
    ·rfl
    ·rw[eC (cS.1 p0).1];exact p0
   ·rcases hp with⟨rfl,rfl⟩|⟨p0,p1,l,p2,p3⟩
    ·simp at cg
    ·have iu:=(cS.1 p0).1;rw[cm]at cg;have oh:i<f.length:=by simp at cg;omega
     rw[eC oh]at hq;by_cases hl:i+1<f.length
     ·rw[eC hl];exact p1 i q hq hl
     ·have jT:i=f.length-1:=V;subst jT;rw[p2]at hq;have:l=q:=by have:=jk hq;omega
      subst this;rw[aiQ V,show f.length-1+1-f.length=0 by omega,p3];rfl
   ·rw[cm];show (f++[(k:Int)])[f.length+1-1]?=_;rw[aiQ V,show f.length+1-1-f.length=0 by omega];rfl
structure acA(nxt:List Int)(k:Nat)(s:List Bool)(fs:List (List Int)):Prop where
 len:s.length=nxt.length
 sn:∀q:Nat,s[q]?=some true↔∃f∈fs,(q:Int)∈f
 fwd:∀f∈fs,∀q:Nat,(q:Int)∈f->((rA nxt q:Nat):Int)∈f
 bwd:∀f∈fs,∀q:Nat,q<nxt.length->((rA nxt q:Nat):Int)∈f->(q:Int)∈f
 dis:fs.Pairwise λf g=>∀x,x∈f->x∉g
 all:∀q,q<k->s[q]?=some true
 nat:∀f∈fs,∀x∈f,∃q:Nat,x=(q:Int)/\q<nxt.length
theorem so{nxt:List Int}(hn:pV nxt)(hj:∀a b,a<nxt.length->b<nxt.length->rA nxt a=rA nxt b->a=b):∀k,k<=nxt.length->acA nxt k (aV nxt k).1 (aV nxt k).2:=by
 intro k
 induction k with
 | zero=>
  intro _;refine⟨(by show (List.replicate _ _).length=_;simp),λq=>?_,λf hf=>(by cases hf),λf hf=>(by cases hf),.nil,λq h=>V,λf hf=>(by cases hf)⟩;constructor
  ·intro h;have h':(List.replicate nxt.length false)[q]?=some true:=h;rw[mN]at h';split at h'<;>cases h'
  ·rintro⟨f,hf,_⟩;cases hf
 | succ k ih=>
  intro hk;have I:=ih V;rw[gH];generalize aV nxt k=st at I;obtain⟨s,fs⟩:=st;simp only at I;have R:=Rx hn hj (s0:=λq=>s[q]?=some true) (h0:=k) (λq hq h=>by
   obtain⟨f,h1,h2⟩:=(I.sn _).1 h;exact(I.sn q).2 ⟨f,h1,I.bwd f h1 q hq h2⟩) nxt.length k s [] V (by rw[<-I.len];exact List.count_le_length) ⟨I.len,λq=>⟨.inl,λh=>(by rcases h with h|h;exact h;cases h)⟩,λx hx=>(by cases hx),List.nodup_nil⟩ (.inl ⟨rfl,rfl⟩)
  unfold pU;simp only;generalize qE nxt nxt.length s k []=o at R;obtain⟨s',f'⟩:=o;simp only at R ⊢;split
  ·rename_i he;subst he;have acB:∀q:Nat,s'[q]?=some true↔s[q]?=some true:=λq=>by
    rw[R.sn];exact⟨λh=>(by rcases h with h|h;exact h;cases h),.inl⟩
   refine⟨R.len,λq=>by rw[acB];exact I.sn q,I.fwd,I.bwd,I.dis,λq hq=>?_,I.nat⟩;rw[acB];rcases(show q<k\/q=k by omega)with h|rfl
   ·exact I.all q h
   ·rcases R.has with h|h
    ·exact h
    ·cases h
  ·rename_i he;refine⟨R.len,λq=>?_,λf hf=>?_,λf hf=>?_,?_,λq hq=>?_,λf hf=>?_⟩
   ·rw[R.sn,I.sn];constructor
    ·rintro(⟨f,h1,h2⟩|h)
     ·exact⟨f,List.mem_append_left _ h1,h2⟩
     ·exact⟨f',List.mem_append_right _ (fe.2 rfl),h⟩
    ·rintro⟨f,h1,h2⟩;rcases ee.1 h1 with h1|h1
     ·exact .inl ⟨f,h1,h2⟩
     ·rw[fe.1 h1]at h2;exact .inr h2
   ·rcases ee.1 hf with hf|hf
    ·exact I.fwd f hf
    ·rw[fe.1 hf];exact R.fwd
   ·rcases ee.1 hf with hf|hf
    ·exact I.bwd f hf
    ·rw[fe.1 hf];exact R.bwd
   ·rw[List.pairwise_append];refine⟨I.dis,List.pairwise_singleton _ _,λa ha b hb x hxa SA=>?_⟩;rw[fe.1 hb]at SA;obtain⟨q,rfl,_,hq⟩:=R.new x SA;exact hq ((I.sn q).2 ⟨a,ha,hxa⟩)
   ·rw[R.sn];rcases(show q<k\/q=k by omega)with h|rfl
    ·exact .inl (I.all q h)
    ·exact R.has
   ·rcases ee.1 hf with hf|hf
    ·exact I.nat f hf
    ·rw[fe.1 hf];intro x hx;obtain⟨q,h1,h2,_⟩:=R.new x hx;exact⟨q,h1,h2⟩
theorem UL{i:Nat}:∀{f l:List Int} {q:Nat},q<l.length->(∀x∈f,0<=x)->(FY l i f)[q]?=if (q:Int)∈f then some (i:Int)else l[q]?:=by
 intro f
 induction f with
 | nil=>intro l q _ _;rfl
 | cons x f ih=>
  intro l q hq hf;show (FY (l.set x.toNat (i:Int)) i f)[q]?=_;rw[ih (by rw[iq];exact hq) (λy hy=>hf y (fY _ hy)),fZ];have hx:=hf x hJ;by_cases h1:(q:Int)∈f
  ·rw[aJ h1,aJ (fY _ h1)]
  ·rw[aw h1];by_cases h2:x.toNat=q
   ·rw[aJ h2,aJ V,aJ (by rw[show (q:Int)=x by omega];exact hJ)]
   ·rw[aw h2,aw (λh=>by
     rcases dT.1 h with h|h
     ·omega
     ·exact h1 h)]
theorem Ds{m:Nat}{fs:List (List Int)}(hnn:∀i,∀x∈fs.getD i [],0<=x):∀{k q i:Nat},q<m->i<k->(q:Int)∈fs.getD i []->(∀j,(q:Int)∈fs.getD j []->j=i)->(SH m fs k)[q]?=some (i:Int):=by
 intro k
 induction k with
 | zero=>intro q i _ h;omega
 | succ k ih=>
  intro q i hq hi hm hu;rw[tP,UL (by rw[xq];exact hq) (hnn k)];by_cases h:(q:Int)∈fs.getD k []
  ·rw[aJ h,hu k h]
  ·rw[aw h];exact ih hq (by rcases(show i<k\/i=k by omega)with h1|rfl;exact h1;exact absurd hm h) hm hu
theorem zk{n:Int}{es:List Ed}{r:List (List Int)}{l:List Int}(g:dk n es r)(h:gi es r l):∀a b,a<l.length->b<l.length->rA l a=rA l b->a=b:=by
 intro a b ha hb e;rw[h.1]at ha hb;obtain⟨v,k,hv,hk,e1⟩:=g.all (aU a) (bM ha);obtain⟨v',k',lY,iS,e2⟩:=g.all (aU b) (bM hb);have h1:=h.2 v k hv hk;have h2:=h.2 v' k' lY iS;rw[e1,show ((aU a:Nat):Int).toNat=aU a from eE _,cI]at h1;rw[e2,show ((aU b:Nat):Int).toNat=aU b from eE _,cI]at h2;have m1:(k+1)%eZ r v<eZ r v:=Nat.mod_lt _ V;have m2:(k'+1)%eZ r v'<eZ r v':=Nat.mod_lt _ V;obtain⟨g1,_⟩:=g.ok v _ hv m1;obtain⟨g2,_⟩:=g.ok v' _ lY m2;have e':jh r v ((k+1)%eZ r v)=jh r v' ((k'+1)%eZ r v'):=by
  unfold rA at e;rw[aY,h1,aY,h2]at e;simp only[wB]at e;omega
 obtain⟨rfl,e3⟩:=g.inj v _ v' _ hv m1 lY m2 e';have Xk:k=k':=by
  rcases(show k+1<eZ r v\/k+1=eZ r v by omega)with c1|c1<;>rcases(show k'+1<eZ r v\/k'+1=eZ r v by omega)with c2|c2
  ·rw[Nat.mod_eq_of_lt c1,Nat.mod_eq_of_lt c2]at e3;omega
  ·rw[Nat.mod_eq_of_lt c1,c2,Nat.mod_self]at e3;omega
  ·rw[Nat.mod_eq_of_lt c2,c1,Nat.mod_self]at e3;omega
  ·omega
 subst Xk;rw[e1]at e2;exact FU a b V
theorem of_next{n:Int}{es:List Ed}{r:List (List Int)}(h0:aH n es r=0){q:Nat}(hq:q<2*es.length):bg es r q<2*es.length/\∃i:Nat,i<(aP es r).length/\(aG es r)[q]?=some (i:Int)/\(aG es r)[bg es r q]?=some (i:Int):=by
 have g:=dy h0;obtain⟨l,hl⟩:=qG g;have he:=iW g hl;have hh:=vi g hl;have I:=so hh (zk g hl) l.length (au _);have uo:=hl.1;have SE:bg es r q=rA l q:=by unfold bg rA;rw[he]
 have AH:aP es r=(aV l l.length).2++qF r r.length:=by unfold aP;rw[he];rfl
 obtain⟨f,jP,kH⟩:=(I.sn q).1 (I.all q V);have SK:=I.fwd f jP q kH;obtain⟨i,hi,e⟩:=kG jP;have cg:rA l q<2*es.length:=by
  obtain⟨q',h1,h2⟩:=I.nat f jP _ SK;omega
 have m9:∀j,(aP es r).getD j []≠[]->∃hj:j<(aV l l.length).2.length,(aP es r).getD j []=(aV l l.length).2[j]:=λj hj=>by
  rw[AH,aY]at hj ⊢;by_cases cg:j<(aV l l.length).2.length
  ·exact⟨cg,by rw[eC cg,aM cg];rfl⟩
  ·exfalso;rw[aiQ V]at hj;cases hx:(qF r r.length)[j-(aV l l.length).2.length]? with
   | none=>rw[hx]at hj;exact hj rfl
   | some x=>
    rw[hx]at hj;have:=dM hx;unfold qF at this;have:=(rC.1 this).2;exact hj (mM (by simpa using this))
 have gY:(aP es r).getD i []=f:=by
  rw[AH,aY,eC hi,aM hi,e];rfl
 have uniq:∀x:Nat,(x:Int)∈f->∀j,(x:Int)∈(aP es r).getD j []->j=i:=λx hx j hj=>by
  obtain⟨AI,MY⟩:=m9 j (λe'=>by rw[e']at hj;cases hj);rw[MY]at hj;apply Classical.byContradiction;intro cG;have hd:=List.pairwise_iff_getElem.1 I.dis;rw[<-e]at hx;rcases Nat.lt_or_gt_of_ne cG with h|h
  ·exact hd j i AI hi h _ hj hx
  ·exact hd i j hi AI h _ hx hj
 have hnn:∀j,∀x∈(aP es r).getD j [],0<=x:=λj x hx=>by
  obtain⟨AI,MY⟩:=m9 j (λe'=>by rw[e']at hx;cases hx);rw[MY]at hx;obtain⟨q',h1,_⟩:=I.nat _ (jE AI) x hx;omega
 have jT:i<(aP es r).length:=by rw[AH,cm];omega
 rw[SE];refine⟨cg,i,jT,?_,?_⟩
 ·exact Ds hnn hq jT (by rw[gY];exact kH) (uniq q kH)
 ·exact Ds hnn cg jT (by rw[gY];exact SK) (uniq _ SK)
end
section
inductive Fc (f:Nat->Nat) (N h:Nat):Nat->Prop
 | here:Fc f N h h
 | nx {k:Nat}:Fc f N h k->Fc f N h (f k)
 | pv {k:Nat}:k<N->Fc f N h (f k)->Fc f N h k
theorem Fc.trans{f:Nat->Nat}{N a b c:Nat}(h:Fc f N a b)(h':Fc f N b c):Fc f N a c:=by
 induction h' with
 | here=>exact h
 | nx _ ih=>exact .nx ih
 | pv hk _ ih=>exact .pv hk ih
theorem Fc.lt{f:Nat->Nat}{N a b:Nat}(hf:∀k,k<N->f k<N)(ha:a<N)(h:Fc f N a b):b<N:=by
 induction h with
 | here=>exact ha
 | nx _ ih=>exact hf _ ih
 | pv hk _ _=>exact hk
theorem Fc.symm{f:Nat->Nat}{N a b:Nat}(hf:∀k,k<N->f k<N)(ha:a<N)(h:Fc f N a b):Fc f N b a:=by
 induction h with
 | here=>exact .here
 | @nx k h1 ih=>exact Fc.trans (.pv (h1.lt hf ha) .here) ih
 | @pv k hk h1 ih=>exact Fc.trans (.nx .here) ih
theorem Fc.mem{f:Nat->Nat}{N a b:Nat}{P:Nat->Prop}(h1:∀k,P k->P (f k))(h2:∀k,k<N->P (f k)->P k)(ha:P a)(h:Fc f N a b):P b:=by
 induction h with
 | here=>exact ha
 | nx _ ih=>exact h1 _ ih
 | pv hk _ ih=>exact h2 _ hk ih
theorem Fc.same{f f':Nat->Nat}{N N' a b:Nat}{P:Nat->Prop}(h1:∀k,P k->f' k=f k)(h2:∀k,P k->P (f k))(h3:∀k,k<N->P (f k)->P k)(h4:∀k,P k->k<N')(ha:P a)(h:Fc f N a b):P b/\Fc f' N' a b:=by
 induction h with
 | here=>exact⟨ha,.here⟩
 | nx _ ih=>exact⟨h2 _ ih.1,by have:=Fc.nx ih.2;rwa [h1 _ ih.1]at this⟩
 | pv hk _ ih=>
  have hp:=h3 _ hk ih.1;exact⟨hp,.pv (h4 _ hp) (by rw[h1 _ hp];exact ih.2)⟩
theorem Ry{nxt:List Int}{N:Nat}:∀{m k:Nat} {s:List Bool} {f:List Int},∀x∈(qE nxt m s k f).2,x∈f\/∃q:Nat,x=(q:Int)/\Fc (rA nxt) N k q:=by
 intro m
 induction m with
 | zero=>intro k s f x hx;exact .inl hx
 | succ m ih=>
  intro k s f x hx;cases hs:s.getD k true with
  | true=>rw[pS hs]at hx;exact .inl hx
  | false=>
   rw[pT hs]at hx;rcases ih x hx with h|⟨q,h1,h2⟩
   ·rcases ee.1 h with h|h
    ·exact .inl h
    ·exact .inr ⟨k,fe.1 h,.here⟩
   ·exact .inr ⟨q,h1,Fc.trans (.nx .here) h2⟩
theorem gU{n:Int}{es:List Ed}{r:List (List Int)}(h0:aH n es r=0):∀k,k<2*es.length->bg es r k<2*es.length:=λ_ hk=>(of_next h0 hk).1
theorem Rz{n:Int}{es:List Ed}{r:List (List Int)}(h0:aH n es r=0){q:Nat}(hq:q<2*es.length):∃(i:Nat) (f:List Int),(aV (dR es r) (dR es r).length).2[i]?=some f/\(q:Int)∈f/\(aG es r)[q]?=some (i:Int):=by
 have g:=dy h0;obtain⟨l,hl⟩:=qG g;have he:=iW g hl;have hh:=vi g hl;have I:=so hh (zk g hl) l.length (au _);have uo:=hl.1;have AH:aP es r=(aV l l.length).2++qF r r.length:=by unfold aP;rw[he];rfl
 obtain⟨f,jP,kH⟩:=(I.sn q).1 (I.all q V);obtain⟨i,hi,e⟩:=kG jP;have m9:∀j,(aP es r).getD j []≠[]->∃hj:j<(aV l l.length).2.length,(aP es r).getD j []=(aV l l.length).2[j]:=λj hj=>by
  rw[AH,aY]at hj ⊢;by_cases cg:j<(aV l l.length).2.length
  ·exact⟨cg,by rw[eC cg,aM cg];rfl⟩
  ·exfalso;rw[aiQ V]at hj;cases hx:(qF r r.length)[j-(aV l l.length).2.length]? with
   | none=>rw[hx]at hj;exact hj rfl
   | some x=>
    rw[hx]at hj;have:=dM hx;unfold qF at this;have:=(rC.1 this).2;exact hj (mM (by simpa using this))
 have gY:(aP es r).getD i []=f:=by
  rw[AH,aY,eC hi,aM hi,e];rfl
 have uniq:∀j,(q:Int)∈(aP es r).getD j []->j=i:=λj hj=>by
  obtain⟨AI,MY⟩:=m9 j (λe'=>by rw[e']at hj;cases hj);rw[MY]at hj;apply Classical.byContradiction;intro cG;have hd:=List.pairwise_iff_getElem.1 I.dis;have hx:=kH;rw[<-e]at hx;rcases Nat.lt_or_gt_of_ne cG with h|h
  ·exact hd j i AI hi h _ hj hx
  ·exact hd i j hi AI h _ hx hj
 have hnn:∀j,∀x∈(aP es r).getD j [],0<=x:=λj x hx=>by
  obtain⟨AI,MY⟩:=m9 j (λe'=>by rw[e']at hx;cases hx);rw[MY]at hx;obtain⟨q',h1,_⟩:=I.nat _ (jE AI) x hx;omega
 have jT:i<(aP es r).length:=by rw[AH,cm];omega
 rw[he];exact⟨i,f,by rw[aM hi,e],kH,Ds hnn hq jT (by rw[gY];exact kH) uniq⟩
theorem acC{n:Int}{es:List Ed}{r:List (List Int)}(h0:aH n es r=0){h k:Nat}(hh:h<2*es.length)(hk:k<2*es.length):(aG es r)[h]?=(aG es r)[k]?↔Fc (bg es r) (2*es.length) h k:=by
 have g:=dy h0;obtain⟨l,hl⟩:=qG g;have he:=iW g hl;have SE:bg es r=rA l:=by funext q;unfold bg rA;rw[he]
 have cg:=gU h0;constructor
 ·intro e;obtain⟨i,f,a1,a2,a3⟩:=Rz h0 hh;obtain⟨j,f',b1,b2,b3⟩:=Rz h0 hk;rw[a3,b3]at e;have Bh:i=j:=by have:=jk e;omega
  subst Bh;rw[a1]at b1;cases b1;rw[he]at a1;obtain⟨s,bt,bN,_⟩:=yY (dM a1);rw[bN]at a2 b2;have uo:=hl.1;rcases Ry (N:=2*es.length) _ a2 with h1|⟨q,h1,h2⟩
  ·cases h1
  rcases Ry (N:=2*es.length) _ b2 with h3|⟨q',h3,h4⟩
  ·cases h3
  have e1:q=h:=V;have e2:q'=k:=V;subst e1 e2;rw[<-SE]at h2 h4;exact(h2.symm cg V).trans h4
 ·intro hf;have key:∀q,q<2*es.length->(aG es r)[bg es r q]?=(aG es r)[q]?:=λq hq=>by
   obtain⟨_,i,_,h1,h2⟩:=of_next h0 hq;rw[h1,h2]
  have:=hf.mem (P:=λq=>q<2*es.length/\(aG es r)[q]?=(aG es r)[h]?) (λq ⟨hq,e⟩=>⟨cg q hq,by rw[key q hq,e]⟩) (λq hq ⟨_,e⟩=>⟨hq,by rw[<-key q hq,e]⟩) ⟨hh,rfl⟩;exact this.2.symm
theorem Ge{n:Int}{es:List Ed}{r:List (List Int)}(h0:aH n es r=0){v k a b:Nat}(hv:v<r.length)(hk:(r.getD v [])[k]?=some (a:Int))(hb:(r.getD v [])[(k+1)%(r.getD v []).length]?=some (b:Int)):bg es r (aU a)=b:=by
 have bQ:=(cS.1 hk).1;have h1:=BS (dy h0) hv (k:=k) bQ;have e1:jh r v k=(a:Int):=by unfold jh;rw[aY (l:=r.getD v []),hk];rfl
 have e2:jh r v ((k+1)%eZ r v)=(b:Int):=by unfold jh eZ;rw[aY (l:=r.getD v []),hb];rfl
 rw[e1,e2,eE]at h1;omega
end
section
def qL{α:Type}(l:List α)(a b:α):Prop:=∃s t,l=s++a::t/\(t++(s++[a])).head?=some b
theorem qL.mem{α:Type}{l:List α}{a b:α}(h:qL l a b):a∈l/\b∈l:=by
 obtain⟨s,t,rfl,h⟩:=h;refine⟨by simp,?_⟩;have:=List.mem_of_mem_head? h;simp only[ee,dT,Hd,or_false]at this ⊢;rcases this with h|h|h
 ·exact .inr (.inr h)
 ·exact .inl h
 ·exact .inr (.inl h)
theorem qL.map{α β:Type}{l:List α}{a b:α}(f:α->β)(h:qL l a b):qL (l.map f) (f a) (f b):=by
 obtain⟨s,t,rfl,h⟩:=h;refine⟨s.map f,t.map f,by simp,?_⟩;rw[show t.map f++(s.map f++[f a])=(t++(s++[a])).map f by simp,List.head?_map,h];rfl
theorem qL.swap{α:Type}{x y:List α}{a b:α}(h:qL (x++y) a b):qL (y++x) a b:=by
 obtain⟨s,t,e,h⟩:=h;rcases List.append_eq_append_iff.1 e with⟨s',rfl,rfl⟩|⟨t',rfl,e'⟩
 ·refine⟨s',t++x,by simp,?_⟩;rw[<-h];simp
 ·cases t' with
  | nil=>
   simp only[qQ]at e';subst e';refine⟨[],t++s,by simp,?_⟩;rw[<-h];simp
  | cons c t'=>
   obtain⟨rfl,rfl⟩:a=c/\t=t'++y:=by simpa using e'
   refine⟨y++s,t',by simp,?_⟩;rw[<-h];simp
theorem qL.Y4{l:List Int}{a b:Int}(h:qL l a b):qL (jv l) a b:=by
 unfold jv;refine qL.swap ?_;rw[K6];exact h
theorem qL.at{α:Type}{l:List α}{a b:α}(h:qL l a b):∃k,l[k]?=some a/\l[(k+1)%l.length]?=some b:=by
 obtain⟨s,t,rfl,h⟩:=h;refine⟨s.length,by simp,?_⟩;cases t with
 | nil=>
  rw[show (s++[a]).length=s.length+1 by simp,Nat.mod_self];rw[<-List.head?_eq_getElem?];exact h
 | cons x t=>
  rw[Nat.mod_eq_of_lt (by simp),aiQ V,show s.length+1-s.length=1 by omega];exact h
theorem qL.get{α:Type}{l:List α}{a b:α}{k:Nat}(h1:l[k]?=some a)(h2:l[(k+1)%l.length]?=some b):qL l a b:=by
 obtain⟨hk,e⟩:=cS.1 h1;have el:l=l.take k++a::l.drop (k+1):=by
  rw[<-e,<-NW hk,K6]
 refine⟨_,_,el,?_⟩;rcases(show k+1<l.length\/k+1=l.length by omega)with c|c
 ·rw[Nat.mod_eq_of_lt c]at h2;obtain⟨_,e2⟩:=cS.1 h2;rw[NW c,e2];rfl
 ·rw[c,Nat.mod_self,<-List.head?_eq_getElem?]at h2;rw[c,List.drop_length,qQ,<-h2]
  conv=>rhs;rw[el,c,List.drop_length]
theorem KS{r:List (List Int)}{v k:Nat}(hk:k<(r.getD v []).length):(r.getD v [])[k]?=some (jh r v k):=by
 unfold jh;rw[aY (l:=r.getD v []),aM hk];rfl
theorem qL.next{n:Int}{es:List Ed}{r:List (List Int)}(h0:aH n es r=0){v a b:Nat}(hv:v<r.length)(h:qL (r.getD v []) (a:Int) (b:Int)):bg es r (aU a)=b:=by
 obtain⟨k,h1,h2⟩:=h.at;exact Ge h0 hv h1 h2
theorem vp{n:Int}{es:List Ed}{r:List (List Int)}(h0:aH n es r=0){h:Nat}(hh:h<2*es.length):∃v,v<r.length/\qL (r.getD v []) (aU h:Nat) ((bg es r h:Nat):Int):=by
 have g:=dy h0;obtain⟨v,k,hv,hk,e⟩:=g.all (aU h) (bM hh);have h1:=BS g hv hk;rw[e,eE,cI]at h1;refine⟨v,hv,qL.get (k:=k) ?_ ?_⟩
 ·rw[KS hk,e]
 ·rw[KS (Nat.mod_lt _ (Nat.lt_of_le_of_lt (bS _) hk)),h1];rfl
theorem dw{n:Int}{es:List Ed}{r:List (List Int)}(h0:aH n es r=0){v:Nat}{x:Int}(hv:v<r.length)(hx:x∈r.getD v []):∃a:Nat,x=(a:Int)/\a<2*es.length/\bZ es a=(v:Int):=by
 have g:=dy h0;obtain⟨k,hk,rfl⟩:=kG hx;obtain⟨g1,g2,g3⟩:=g.ok v k hv hk;have e:jh r v k=(r.getD v [])[k]:=by unfold jh;rw[aY,aM hk];rfl
 rw[e]at g1 g2 g3;exact⟨((r.getD v [])[k]).toNat,V,V,g3⟩
theorem xu{n:Int}{es:List Ed}{r:List (List Int)}(h0:aH n es r=0){h:Nat}(hh:h<2*es.length):∃v,v<r.length/\bZ es h=(v:Int)/\(h:Int)∈r.getD v []:=by
 have g:=dy h0;obtain⟨v,k,hv,hk,e⟩:=g.all h hh;obtain⟨_,_,g3⟩:=g.ok v k hv hk;have e2:jh r v k=(r.getD v [])[k]'hk:=by unfold jh;rw[aY,aM hk];rfl
 refine⟨v,hv,by rw[e]at g3;simpa using g3,?_⟩;rw[<-e,e2];exact jE _
theorem oB{n:Int}{es:List Ed}{r:List (List Int)}(h0:aH n es r=0){h:Nat}(hh:h<2*es.length):bg es (cV r) h=bg es r h:=by
 obtain⟨v,hv,hs⟩:=vp h0 hh;have:=qL.next (j3 h0) (v:=v) (by rw[fX];exact hv) (by rw[kB];exact hs.Y4)
 rwa [cI]at this
theorem Fc.nI{f g:Nat->Nat}{N a b:Nat}(hf:∀k,k<N->f k<N)(e:∀k,k<N->g k=f k)(ha:a<N)(h:Fc f N a b):Fc g N a b:=
 (Fc.same (P:=λk=>k<N) (f':=g) (N':=N) e hf (λ_ hk _=>hk) (λ_ hk=>hk) ha h).2
theorem Gf{n:Int}{es:List Ed}{r:List (List Int)}(h0:aH n es r=0){h k:Nat}(hh:h<2*es.length):Fc (bg es (cV r)) (2*es.length) h k↔Fc (bg es r) (2*es.length) h k:=
 ⟨λH=>H.nI (gU (j3 h0)) (λ_ hk=>(oB h0 hk).symm) hh,λH=>H.nI (gU h0) (λ_ hk=>oB h0 hk) hh⟩
def putAt(l:List Int)(a h:Int):List Int:=l.take (l.idxOf a+1)++h::l.drop (l.idxOf a+1)
theorem oC(l:List Int)(a h:Int):(putAt l a h).Perm (l++[h]):=by
 unfold putAt;refine List.perm_middle.trans ?_;rw[K6];exact List.perm_append_comm (l₁:=[h]) (l₂:=l)
theorem BT(l:List Int)(a h:Int):(putAt l a h).length=l.length+1:=by
 have:=(oC l a h).length_eq
 simpa using this
theorem BU{l:List Int}{a h x:Int}(hx:x∈l):x∈putAt l a h:=(oC l a h).mem_iff.2 (by simp[hx])
theorem Gg{s t:List Int}{a h:Int}(hs:a∉s):putAt (s++a::t) a h=s++a::h::t:=by
 have e:(s++a::t).idxOf a=s.length:=by
  rw[List.idxOf_append,aw hs,List.idxOf_cons_self];omega
 unfold putAt;rw[e,List.take_append,List.drop_append];simp[NX]
theorem KT{l:List Int}{a h b:Int}(hn:l.Nodup)(hs:qL l a b):qL (putAt l a h) a h/\qL (putAt l a h) h b/\∀c d,c≠a->qL l c d->qL (putAt l a h) c d:=by
 obtain⟨s,t,rfl,hb⟩:=hs;have hns:a∉s:=λhm=>by
  have:=(List.nodup_append.1 hn).2.2 a hm a (by simp);exact this rfl
 rw[Gg hns];refine⟨⟨s,h::t,rfl,rfl⟩,⟨s++[a],t,by simp,?_⟩,λc d hc Xp=>?_⟩
 ·rw[show t++(s++[a]++[h])=(t++(s++[a]))++[h] by simp,List.head?_append,hb];rfl
 ·obtain⟨s1,t1,e,hd⟩:=Xp;rcases List.append_eq_append_iff.1 e with⟨s2,rfl,e2⟩|⟨t2,rfl,e2⟩
  ·
   cases s2 with
   | nil=>simp only[qQ,List.cons.injEq]at e2;exact absurd e2.1.symm hc
   | cons x s2=>
    obtain⟨rfl,rfl⟩:a=x/\t=s2++c::t1:=by simpa using e2
    refine⟨s++a::h::s2,t1,by simp,?_⟩;rw[<-hd];cases t1 with
    | nil=>cases s<;>simp
    | cons y t1=>rfl
  ·cases t2 with
   | nil=>simp only[qQ,List.cons.injEq]at e2;exact absurd e2.1 hc
   | cons x t2=>
    obtain⟨rfl,rfl⟩:c=x/\t1=t2++a::t:=by simpa using e2
    refine⟨s1,t2++a::h::t,by simp,?_⟩;rw[<-hd];cases t2<;>rfl
def ji(r:List (List Int))(v:Nat)(a h:Int):List (List Int):=r.set v (putAt (r.getD v []) a h)
theorem dn(r:List (List Int))(v:Nat)(a h:Int):(ji r v a h).length=r.length:=by unfold ji;simp
theorem gV{r:List (List Int)}{v u:Nat}{a h:Int}(hv:v<r.length):(ji r v a h).getD u []=if u=v then putAt (r.getD v []) a h else r.getD u []:=by
 unfold ji;rw[aY,fZ];by_cases e:v=u
 ·subst e;rw[aJ rfl,aJ hv,aJ rfl];rfl
 ·rw[aw e,aw (λh=>e h.symm),aY]
def oD(m:Nat)(r:List (List Int))(v:Nat)(a:Int)(w:Nat)(b:Int):List (List Int):=cV (ji (ji r v a ((2*m:Nat):Int)) w b ((2*m+1:Nat):Int))
theorem tU(m:Nat)(r:List (List Int))(v:Nat)(a:Int)(w:Nat)(b:Int):(oD m r v a w b).length=r.length:=by unfold oD;rw[fX,dn,dn]
theorem RA{r:List (List Int)}{v w:Nat}{a b x y:Int}(hv:v<r.length)(hw:w<r.length):(fh (ji (ji r v a x) w b y) r.length).Perm (fh r r.length++[(v,x),(w,y)]):=by
 have p2:(fh (ji (ji r v a x) w b y) r.length).Perm (fh (ji r v a x) r.length++[(w,y)]):=
  KO (λu hu=>by rw[gV (by rw[dn];exact hw),aw hu]) (by rw[gV (by rw[dn];exact hw),aJ rfl];exact oC _ _ _) hw
 have p3:(fh (ji r v a x) r.length).Perm (fh r r.length++[(v,x)]):=
  KO (λu hu=>by rw[gV hv,aw hu]) (by rw[gV hv,aJ rfl];exact oC _ _ _) hv
 refine p2.trans ((p3.append (.refl _)).trans ?_);rw[jj];exact .refl _
theorem tV{n:Int}{es:List Ed}{r:List (List Int)}{v w:Nat}{a b:Int}(h:aH n es r=0)(hv:(v:Int)<n)(hw:(w:Int)<n)(dx:es.length<3072):aH n (es++[((v:Int),(w:Int))]) (ji (ji r v a ((2*es.length:Nat):Int)) w b ((2*es.length+1:Nat):Int))=0:=by
 obtain⟨h1,h2,h3,h4,h5⟩:=bR h;have hp:=RA (r:=r) (v:=v) (w:=w) (a:=a) (b:=b) (x:=((2*es.length:Nat):Int)) (y:=((2*es.length+1:Nat):Int)) V V;generalize hR:ji (ji r v a ((2*es.length:Nat):Int)) w b ((2*es.length+1:Nat):Int)=R at hp;have hl:R.length=r.length:=by rw[<-hR,dn,dn]
 have oX:(es++[((v:Int),(w:Int))]).length=es.length+1:=by rw[cm];rfl
 have e:fh R R.length=fh R r.length:=by rw[hl]
 refine IU (KP h1 hv hw dx) V ?_ ?_ ?_
 ·rw[e];intro x hx;have hx:=hp.mem_iff.1 hx;unfold UK;rw[oX];rcases ee.1 hx with hx|hx
  ·obtain⟨g1,g2,g3⟩:=h3 x hx;exact⟨g1,V,by rw[MV V];exact g3⟩
  ·simp only[dT,Hd,or_false]at hx;rcases hx with rfl|rfl
   ·refine⟨by show (0:Int)<=((2*es.length:Nat):Int);omega,by show ((2*es.length:Nat):Int)<_;omega,?_⟩;show bZ _ ((2*es.length:Nat):Int).toNat=_;rw[eE,IV]
   ·refine⟨by show (0:Int)<=((2*es.length+1:Nat):Int);omega,by show ((2*es.length+1:Nat):Int)<_;omega,?_⟩;show bZ _ ((2*es.length+1:Nat):Int).toNat=_;rw[eE,IW]
 ·rw[e];refine(hp.pairwise_iff (λh=>h.symm)).2 ?_;rw[List.pairwise_append];refine⟨h4,?_,λx hx y hy=>?_⟩
  ·refine .cons (λy hy=>?_) (.cons (λy hy=>by cases hy) .nil);rw[fe]at hy;subst hy;show ((2*es.length:Nat):Int)≠((2*es.length+1:Nat):Int);omega
  ·obtain⟨g1,g2,g3⟩:=h3 x hx;simp only[dT,Hd,or_false]at hy;rcases hy with rfl|rfl
   ·show x.2≠((2*es.length:Nat):Int);omega
   ·show x.2≠((2*es.length+1:Nat):Int);omega
 ·rw[e,hp.length_eq,cm,h5,oX];show 2*es.length+2=_;omega
theorem RB{n:Int}{es:List Ed}{r:List (List Int)}{v w:Nat}{a b:Int}(h:aH n es r=0)(hv:(v:Int)<n)(hw:(w:Int)<n)(dx:es.length<3072):aH n (es++[((v:Int),(w:Int))]) (oD es.length r v a w b)=0:=j3 (tV h hv hw dx)
theorem iY{n:Int}{es:List Ed}{r:List (List Int)}(h0:aH n es r=0){v:Nat}(hv:v<r.length):(r.getD v []).Nodup:=by
 have g:=dy h0;refine List.pairwise_iff_getElem.2 λi j hi hj Bh e=>?_
 have e1:∀k (hk:k<(r.getD v []).length),jh r v k=(r.getD v [])[k]:=λk hk=>by unfold jh;rw[aY,aM hk];rfl
 have:=(g.inj v i v j hv hi hv hj (by rw[e1 i hi,e1 j hj,e])).2;omega
structure acD(es:List Ed)(r:List (List Int))(f':Nat->Nat)(a b:Nat):Prop where
 a1:f' (aU a)=2*es.length
 a2:f' (2*es.length+1)=bg es r (aU a)
 b1:f' (aU b)=2*es.length+1
 b2:f' (2*es.length)=bg es r (aU b)
 old:∀h,h<2*es.length->h≠aU a->h≠aU b->f' h=bg es r h
theorem Gh{n:Int}{es:List Ed}{r:List (List Int)}{v w a b:Nat}(h0:aH n es r=0)(hv:(v:Int)<n)(hw:(w:Int)<n)(dx:es.length<3072)(hvw:v≠w)(ha:(a:Int)∈r.getD v [])(hb:(b:Int)∈r.getD w []) :
  acD es r (bg (es++[((v:Int),(w:Int))]) (oD es.length r v a w b)) a b:=by
 have hl:=(bR h0).2.1;have lY:v<r.length:=V;have LD:w<r.length:=V;have h1:=tV (a:=(a:Int)) (b:=(b:Int)) h0 hv hw dx;have hR:∀u,(ji (ji r v a ((2*es.length:Nat):Int)) w b ((2*es.length+1:Nat):Int)).getD u []=if u=w then putAt (r.getD w []) b ((2*es.length+1:Nat):Int)else if u=v then putAt (r.getD v []) a ((2*es.length:Nat):Int)else r.getD u []:=λu=>by
  rw[gV (by rw[dn];exact LD),gV lY,gV lY,aw (show ¬w=v from λe=>hvw e.symm)]
 generalize hRe:ji (ji r v a ((2*es.length:Nat):Int)) w b ((2*es.length+1:Nat):Int)=R at h1 hR;have NL:R.length=r.length:=by rw[<-hRe,dn,dn]
 have oX:(es++[((v:Int),(w:Int))]).length=es.length+1:=by rw[cm];rfl
 have agd:∀h,h<2*es.length+2->bg (es++[((v:Int),(w:Int))]) (oD es.length r v a w b) h=bg (es++[((v:Int),(w:Int))]) R h:=λh hh=>by
  unfold oD;rw[hRe];exact oB h1 (by rw[oX];omega)
 obtain⟨a',ea,qi,hae⟩:=dw h0 lY ha;obtain⟨b',eb,pI,hbe⟩:=dw h0 LD hb;obtain rfl:a=a':=V;obtain rfl:b=b':=V;have key:∀(c x:Nat) (u:Nat),u<r.length->c<2*es.length+2->qL (R.getD u []) (c:Int) (x:Int)->bg (es++[((v:Int),(w:Int))]) (oD es.length r v a w b) (aU c)=x:=λc x u hu hc hs=>by
  rw[agd _ (by have:=bM (m:=es.length+1) (show c<2*(es.length+1) by omega);omega)];exact hs.next h1 (by rw[NL];exact hu)
 have age:qL (r.getD v []) (a:Int) ((bg es r (aU a):Nat):Int):=by
  obtain⟨u,hu,hs⟩:=vp h0 (bM qi);rw[cI]at hs;obtain⟨_,e,_,h⟩:=dw h0 hu hs.mem.1;have:u=v:=by
   have e:a=_:=Int.ofNat.inj e;subst e;omega
  rwa [this]at hs
 have agf:qL (r.getD w []) (b:Int) ((bg es r (aU b):Nat):Int):=by
  obtain⟨u,hu,hs⟩:=vp h0 (bM pI);rw[cI]at hs;obtain⟨_,e,_,h⟩:=dw h0 hu hs.mem.1;have:u=w:=by
   have e:b=_:=Int.ofNat.inj e;subst e;omega
  rwa [this]at hs
 obtain⟨pa1,pa2,pa3⟩:=KT (h:=((2*es.length:Nat):Int)) (iY h0 lY) age;obtain⟨pb1,pb2,pb3⟩:=KT (h:=((2*es.length+1:Nat):Int)) (iY h0 LD) agf;have rv:R.getD v []=putAt (r.getD v []) a ((2*es.length:Nat):Int):=by rw[hR,aw hvw,aJ rfl]
 have rw':R.getD w []=putAt (r.getD w []) b ((2*es.length+1:Nat):Int):=by rw[hR,aJ rfl]
 have t0:aU (2*es.length)=2*es.length+1:=by rw[iH];omega
 have t1:aU (2*es.length+1)=2*es.length:=by rw[iH];omega
 refine⟨key _ _ v lY V (by rw[rv];exact pa1),?_,key _ _ w LD V (by rw[rw'];exact pb1),?_,λh hh YR sQ=>?_⟩
 ·have:=key (2*es.length) _ v lY V (by rw[rv];exact pa2)
  rwa [t0]at this
 ·have:=key (2*es.length+1) _ w LD V (by rw[rw'];exact pb2)
  rwa [t1]at this
 ·obtain⟨u,hu,hs⟩:=vp h0 hh;have h3:qL (R.getD u []) ((aU h:Nat):Int) ((bg es r h:Nat):Int):=by
   rw[hR];by_cases c1:u=w
   ·subst c1;rw[aJ rfl];exact pb3 _ _ (λe=>sQ (by rw[<-cI h];congr 1;omega)) hs
   ·rw[aw c1];by_cases c2:u=v
    ·subst c2;rw[aJ rfl];exact pa3 _ _ (λe=>YR (by rw[<-cI h];congr 1;omega)) hs
    ·rw[aw c2];exact hs
  have:=key (aU h) _ u hu (by have:=bM hh;omega) h3
  rwa [cI]at this
theorem RD{es:List Ed}{r:List (List Int)}{f':Nat->Nat}{a b x h k:Nat}(L:acD es r f' a b)(cg:∀k,k<2*es.length->bg es r k<2*es.length)(hx:x<2*es.length)(OS:Fc (bg es r) (2*es.length) x (aU a))(hbx:Fc (bg es r) (2*es.length) x (aU b))(hh:h<2*es.length)(hn:¬Fc (bg es r) (2*es.length) x h) :
  Fc f' (2*(es.length+1)) h k↔Fc (bg es r) (2*es.length) h k:=by
 constructor
 ·intro H;refine(Fc.same (P:=λk=>k<2*es.length/\¬Fc (bg es r) (2*es.length) x k) (f':=bg es r) (N':=2*es.length) (λk ⟨h1,h2⟩=>?_) (λk ⟨h1,h2⟩=>?_) (λk hk ⟨h1,h2⟩=>?_) (λk h=>h.1) ⟨hh,hn⟩ H).2
  ·rw[L.old k h1 (λe=>h2 (by rw[e];exact OS)) (λe=>h2 (by rw[e];exact hbx))]
  ·rw[L.old k h1 (λe=>h2 (by rw[e];exact OS)) (λe=>h2 (by rw[e];exact hbx))];exact⟨cg k h1,λe=>h2 (.pv h1 e)⟩
  ·by_cases c1:k=aU a
   ·rw[c1,L.a1]at h1;omega
   by_cases c2:k=aU b
   ·rw[c2,L.b1]at h1;omega
   by_cases c3:k=2*es.length
   ·rw[c3,L.b2]at h2;exact(h2 (.nx hbx)).elim
   by_cases c4:k=2*es.length+1
   ·rw[c4,L.a2]at h2;exact(h2 (.nx OS)).elim
   have iS:k<2*es.length:=V;rw[L.old k iS c1 c2]at h2;exact⟨iS,λe=>h2 (.nx e)⟩
 ·intro H;refine(Fc.same (P:=λk=>k<2*es.length/\¬Fc (bg es r) (2*es.length) x k) (f':=f') (N':=2*(es.length+1)) (λk ⟨h1,h2⟩=>?_) (λk ⟨h1,h2⟩=>⟨cg k h1,λe=>h2 (.pv h1 e)⟩) (λk hk ⟨h1,h2⟩=>⟨hk,λe=>h2 (.nx e)⟩) (λk h=>by omega) ⟨hh,hn⟩ H).2;rw[L.old k h1 (λe=>h2 (by rw[e];exact OS)) (λe=>h2 (by rw[e];exact hbx))]
end
section
def mZ(e m:Nat)(x:Int):Int:=if x=((2*e+1:Nat):Int)then((2*m+1:Nat):Int)else x
def dW(n:Int)(es:List Ed)(e:Nat):List Ed:=es.set e ((es.getD e (0,0)).1,n)++[(n,(es.getD e (0,0)).2)]
def lU(m e:Nat)(r:List (List Int)):List (List Int):=r.map (λl=>l.map (mZ e m))++[[((2*e+1:Nat):Int),((2*m:Nat):Int)]]
def kC(m e:Nat)(r:List (List Int)):List (List Int):=cV (lU m e r)
theorem jx(n:Int)(es:List Ed)(e:Nat):(dW n es e).length=es.length+1:=by unfold dW;simp
theorem j5(m e:Nat)(r:List (List Int)):(lU m e r).length=r.length+1:=by unfold lU;simp
theorem nJ(m e:Nat)(r:List (List Int)):(kC m e r).length=r.length+1:=by unfold kC;rw[fX,j5]
theorem zm{m e v:Nat}{r:List (List Int)}(hv:v<r.length):(lU m e r).getD v []=(r.getD v []).map (mZ e m):=by
 unfold lU;rw[aY,eC (by simpa using hv),eD,aY,aM hv];rfl
theorem qM(m e:Nat)(r:List (List Int)):(lU m e r).getD r.length []=[((2*e+1:Nat):Int),((2*m:Nat):Int)]:=by
 unfold lU;rw[aY,aiQ (by simp)];simp
theorem Gi{n:Int}{es:List Ed}{e h:Nat}(he:e<es.length)(hh:h<2*es.length)(hn:h≠2*e+1):bZ (dW n es e) h=bZ es h:=by
 unfold bZ dW;rw[aY,eC (by simp;omega),fZ,aY (l:=es)];by_cases c:e=h / 2
 ·have h2:h%2=0:=V;rw[aJ c,<-c,aJ he,aJ h2,aJ h2];simp only[wB];rw[aY]
 ·rw[aw c,aY]
theorem MZ{n:Int}{es:List Ed}{e:Nat}(he:e<es.length):bZ (dW n es e) (2*e+1)=n:=by
 unfold bZ dW;rw[aw V,aY,eC (by simp;omega),fZ,aJ V,aJ V];rfl
theorem M0{n:Int}{es:List Ed}{e:Nat}:bZ (dW n es e) (2*es.length)=n:=by
 unfold bZ dW;rw[aJ V,aY,aiQ (by simp),show 2*es.length / 2-(es.set e ((es.getD e (0,0)).1,n)).length=0 by simp];rfl
theorem M1{n:Int}{es:List Ed}{e:Nat}:bZ (dW n es e) (2*es.length+1)=bZ es (2*e+1):=by
 unfold bZ dW;rw[aw V,aw V,aY,aiQ (by simp;omega),show (2*es.length+1) / 2-(es.set e ((es.getD e (0,0)).1,n)).length=0 by simp;omega,show (2*e+1) / 2=e by omega];rfl
theorem KU{n:Int}{es:List Ed}{e:Nat}(hm:kK n es)(he:e<es.length)(hn:n<1024)(dx:es.length<3072):kK (n+1) (dW n es e):=by
 obtain⟨h1,h2,h3,h4⟩:=hm;refine⟨V,V,by rw[jx];omega,λx hx=>?_⟩;have Wh:=h4 es[e] (jE he);have hg:es.getD e (0,0)=es[e]:=by rw[aY,aM he];rfl
 unfold zZ at Wh ⊢;unfold dW at hx;rw[hg]at hx;rcases ee.1 hx with hx|hx
 ·rcases List.mem_or_eq_of_mem_set hx with hx|rfl
  ·have:=h4 x hx;unfold zZ at this;omega
  ·simp only;omega
 ·rw[fe]at hx;subst hx;simp only;omega
theorem UM{r:List (List Int)}{f:Int->Int}{r':List (List Int)}:∀{w:Nat},(∀v,v<w->r'.getD v []=(r.getD v []).map f)->fh r' w=(fh r w).map λx=>(x.1,f x.2):=by
 intro w
 induction w with
 | zero=>intro _;rfl
 | succ w ih=>
  intro h;rw[dF,dF,ih λv hv=>h v V,jG];unfold rowP;rw[iJ,iJ,h w V,List.map_map,List.map_map];rfl
theorem Dt(m e:Nat)(r:List (List Int)):fh (lU m e r) (lU m e r).length=((fh r r.length).map λx=>(x.1,mZ e m x.2))++[(r.length,((2*e+1:Nat):Int)),(r.length,((2*m:Nat):Int))]:=by
 rw[j5,dF,UM (f:=mZ e m) λv hv=>zm hv]
 congr 1
 unfold rowP;rw[iJ,qM];rfl
theorem tW{n:Int}{es:List Ed}{r:List (List Int)}{e:Nat}(h:aH n es r=0)(he:e<es.length)(hn:n<1024)(dx:es.length<3072):aH (n+1) (dW n es e) (lU es.length e r)=0:=by
 obtain⟨h1,h2,h3,h4,h5⟩:=bR h;refine IU (KU h1 he hn dx) (by rw[j5];omega) ?_ ?_ ?_
 ·rw[Dt];intro x hx;unfold UK;rw[jx];rcases ee.1 hx with hx|hx
  ·obtain⟨y,hy,rfl⟩:=pg.1 hx;obtain⟨g1,g2,g3⟩:=h3 y hy;unfold mZ;simp only;split
   ·rename_i c;refine⟨V,V,?_⟩;rw[eE,M1,<-g3,c,eE]
   ·rename_i c;exact⟨g1,V,by rw[Gi he V V];exact g3⟩
  ·simp only[dT,Hd,or_false]at hx;rcases hx with rfl|rfl
   ·refine⟨by simp only;omega,by simp only;omega,?_⟩;show bZ _ ((2*e+1:Nat):Int).toNat=_;rw[eE,MZ he];exact h2.symm
   ·refine⟨by simp only;omega,by simp only;omega,?_⟩;show bZ _ ((2*es.length:Nat):Int).toNat=_;rw[eE,M0];exact h2.symm
 ·rw[Dt,List.pairwise_append];refine⟨?_,?_,λx hx y hy=>?_⟩
  ·rw[List.pairwise_map];refine List.Pairwise.imp_of_mem (R:=λx y=>x.2≠y.2) (λ{x y} hx hy cG=>?_) h4;obtain⟨a1,a2,_⟩:=h3 x hx;obtain⟨b1,b2,_⟩:=h3 y hy;unfold mZ;simp only;split<;>split<;>omega
  ·refine .cons (λy hy=>?_) (.cons (λy hy=>by cases hy) .nil);rw[fe]at hy;subst hy;simp only;omega
  ·obtain⟨z,hz,rfl⟩:=pg.1 hx;obtain⟨g1,g2,g3⟩:=h3 z hz;simp only[dT,Hd,or_false]at hy;unfold mZ;rcases hy with rfl|rfl<;>simp only<;>split<;>omega
 ·rw[Dt,cm,ja,h5,jx];show 2*es.length+2=_;omega
theorem KW{n:Int}{es:List Ed}{r:List (List Int)}{e:Nat}(h:aH n es r=0)(he:e<es.length)(hn:n<1024)(dx:es.length<3072):aH (n+1) (dW n es e) (kC es.length e r)=0:=j3 (tW h he hn dx)
structure I5(es:List Ed)(r:List (List Int))(f':Nat->Nat)(e:Nat):Prop where
 e0:f' (2*e)=2*es.length
 m1:f' (2*es.length+1)=2*e+1
 m0:f' (2*es.length)=(mZ e es.length (bg es r (2*e))).toNat
 old:∀h,h<2*es.length->h≠2*e->f' h=(mZ e es.length (bg es r h)).toNat
theorem Du(e m x:Nat):mZ e m x=(((mZ e m x).toNat:Nat):Int):=by unfold mZ;split<;>omega
theorem xw{e m x:Nat}(h:x≠2*e+1):(mZ e m x).toNat=x:=by unfold mZ;rw[aw V];omega
theorem Dv{e m:Nat}:(mZ e m ((2*e+1:Nat):Int)).toNat=2*m+1:=by unfold mZ;rw[aJ rfl];omega
theorem zn{n:Int}{es:List Ed}{r:List (List Int)}{e:Nat}(h0:aH n es r=0)(he:e<es.length)(hn:n<1024)(dx:es.length<3072):I5 es r (bg (dW n es e) (kC es.length e r)) e:=by
 have h1:=tW h0 he hn dx;have key:∀(c x v:Nat),v<r.length+1->c<2*es.length+2->qL ((lU es.length e r).getD v []) (c:Int) (x:Int)->bg (dW n es e) (kC es.length e r) (aU c)=x:=λc x v hv hc hs=>by
  unfold kC;rw[oB h1 (by rw[jx];exact bM V)];exact hs.next h1 (by rw[j5];exact hv)
 have te:aU (2*e+1)=2*e:=by rw[iH];omega
 have t0:aU (2*es.length)=2*es.length+1:=by rw[iH];omega
 have t1:aU (2*es.length+1)=2*es.length:=by rw[iH];omega
 have old:∀h,h<2*es.length->bg (dW n es e) (kC es.length e r) (aU (mZ e es.length (aU h)).toNat)=(mZ e es.length (bg es r h)).toNat:=λh hh=>by
  obtain⟨v,hv,hs⟩:=vp h0 hh;have fD:=hs.map (mZ e es.length);rw[<-zm hv,Du e es.length (aU h),Du e es.length (bg es r h)]at fD;refine key _ _ v V ?_ fD;have:=bM hh;unfold mZ;split<;>omega
 refine⟨?_,?_,?_,λh hh cG=>?_⟩
 ·have:=key (2*e+1) (2*es.length) r.length V V (by rw[qM];exact⟨[],[_],rfl,rfl⟩)
  rwa [te]at this
 ·have:=key (2*es.length) (2*e+1) r.length V V (by rw[qM];exact⟨[_],[],rfl,rfl⟩)
  rwa [t0]at this
 ·have:=old (2*e) V
  rwa [show aU (2*e)=2*e+1 by rw[iH];omega,Dv,t1]at this
 ·have:=old h hh
  rwa [xw (λe'=>cG (by rw[<-cI h,e',te])),cI]at this
def I6(e m x:Nat):Nat:=if x=2*m then 2*e else if x=2*m+1 then 2*e+1 else x
theorem qN{e m x:Nat}(h:x<2*m):I6 e m x=x:=by unfold I6;rw[aw V,aw V]
theorem KX{e m x:Nat}(h:x<2*m):I6 e m (mZ e m x).toNat=x:=by
 by_cases c:x=2*e+1
 ·subst c;rw[Dv];unfold I6;rw[aw V,aJ rfl]
 ·rw[xw c];exact qN h
theorem I5.step{es:List Ed}{r:List (List Int)}{f':Nat->Nat}{e:Nat}(S:I5 es r f' e)(he:e<es.length)(cg:∀k,k<2*es.length->bg es r k<2*es.length){k:Nat}(hk:k<2*(es.length+1)) :
  I6 e es.length (f' k)=I6 e es.length k\/I6 e es.length (f' k)=bg es r (I6 e es.length k):=by
 by_cases c1:k=2*es.length
 ·subst c1;right;rw[S.m0,KX (cg _ V)];unfold I6;rw[aJ rfl]
 by_cases c2:k=2*es.length+1
 ·subst c2;left;rw[S.m1,qN V];unfold I6;rw[aw V,aJ rfl]
 have iS:k<2*es.length:=V;by_cases c3:k=2*e
 ·subst c3;left;rw[S.e0,qN iS];unfold I6;rw[aJ rfl]
 ·right;rw[S.old k iS c3,KX (cg _ iS),qN iS]
theorem Zh{e m x:Nat}(he:e<m)(hx:x<2*(m+1)):I6 e m x<2*m:=by unfold I6;split<;>(try split)<;>omega
theorem RE{es:List Ed}{r:List (List Int)}{f':Nat->Nat}{e h k:Nat}(S:I5 es r f' e)(he:e<es.length)(cg:∀k,k<2*es.length->bg es r k<2*es.length)(oh:∀k,k<2*(es.length+1)->f' k<2*(es.length+1))(hh:h<2*(es.length+1))(H:Fc f' (2*(es.length+1)) h k) :
  Fc (bg es r) (2*es.length) (I6 e es.length h) (I6 e es.length k):=by
 induction H with
 | here=>exact .here
 | @nx k H ih=>
  rcases S.step he cg (H.lt oh hh)with c|c
  ·rw[c];exact ih
  ·rw[c];exact .nx ih
 | @pv k hk H ih=>
  rcases S.step he cg hk with c|c
  ·rw[c]at ih;exact ih
  ·rw[c]at ih;exact .pv (Zh he hk) ih
theorem I5.fwd{es:List Ed}{r:List (List Int)}{f':Nat->Nat}{e:Nat}(S:I5 es r f' e){N k:Nat}(hk:k<2*es.length):Fc f' N k (bg es r k):=by
 have fin:∀y x,Fc f' N y (mZ e es.length (x:Nat)).toNat->Fc f' N y x:=λy x h=>by
  by_cases c:x=2*e+1
  ·subst c;rw[Dv]at h;have:=h.nx
   rwa [S.m1]at this
  ·rwa [xw c]at h
 by_cases c:k=2*e
 ·subst c;refine fin _ _ ?_;have h1:Fc f' N (2*e) (f' (2*e)):=.nx .here;rw[S.e0]at h1;have h2:=h1.nx
  rwa [S.m0]at h2
 ·refine fin _ _ ?_;have h1:Fc f' N k (f' k):=.nx .here
  rwa [S.old k hk c]at h1
theorem Zi{es:List Ed}{r:List (List Int)}{f':Nat->Nat}{e h k:Nat}(S:I5 es r f' e)(oh:∀k,k<2*(es.length+1)->f' k<2*(es.length+1))(cg:∀k,k<2*es.length->bg es r k<2*es.length)(hh:h<2*es.length)(H:Fc (bg es r) (2*es.length) h k) :
  Fc f' (2*(es.length+1)) h k:=by
 induction H with
 | here=>exact .here
 | nx H ih=>exact ih.trans (S.fwd (H.lt cg hh))
 | pv hk H ih=>exact ih.trans ((S.fwd hk).symm oh V)
theorem RF{n:Int}{es:List Ed}{r:List (List Int)}{e h k:Nat}(h0:aH n es r=0)(he:e<es.length)(hn:n<1024)(dx:es.length<3072)(hh:h<2*es.length)(hk:k<2*es.length) :
  Fc (bg (dW n es e) (kC es.length e r)) (2*(dW n es e).length) h k↔Fc (bg es r) (2*es.length) h k:=by
 have S:=zn h0 he hn dx;have cg:=gU h0;have oh:=gU (KW h0 he hn dx);rw[jx]at oh ⊢;constructor
 ·intro H;have:=RE S he cg oh V H
  rwa [qN hh,qN hk]at this
 ·exact Zi S oh cg hh
def gW(es:List Ed)(r:List (List Int))(w x:Nat):Prop:=w<r.length/\∃h:Nat,(h:Int)∈r.getD w []/\Fc (bg es r) (2*es.length) x h
theorem gW.canon{n:Int}{es:List Ed}{r:List (List Int)}{w x:Nat}(h0:aH n es r=0)(hx:x<2*es.length)(h:gW es r w x):gW es (cV r) w x:=by
 obtain⟨h1,y,h2,h3⟩:=h;exact⟨by rw[fX];exact h1,y,by rw[kB];exact(j0 _).mem_iff.2 h2,(Gf h0 hx).2 h3⟩
theorem gW.spl{n:Int}{es:List Ed}{r:List (List Int)}{w x e:Nat}(h:gW es r w x)(h0:aH n es r=0)(he:e<es.length)(hn:n<1024)(dx:es.length<3072)(hx:x<2*es.length):gW (dW n es e) (kC es.length e r) w x:=by
 obtain⟨h1,y,h2,h3⟩:=h;have S:=zn h0 he hn dx;obtain⟨y',e1,hy,_⟩:=dw h0 h1 h2;obtain rfl:y=y':=V;refine⟨by rw[nJ];omega,(mZ e es.length y).toNat,?_,?_⟩
 ·unfold kC;rw[kB];refine(j0 _).mem_iff.2 ?_;rw[zm h1,<-Du];exact List.mem_map_of_mem h2
 ·have h4:=(RF h0 he hn dx hx hy).2 h3;by_cases c:y=2*e+1
  ·subst c;rw[Dv];refine .pv (by rw[jx];omega) ?_;rw[S.m1];exact h4
  ·rw[xw c];exact h4
theorem gW.new{n:Int}{es:List Ed}{r:List (List Int)}{e:Nat}(h0:aH n es r=0)(he:e<es.length)(hn:n<1024)(dx:es.length<3072):gW (dW n es e) (kC es.length e r) r.length (2*e)/\gW (dW n es e) (kC es.length e r) r.length (2*e+1):=by
 have S:=zn h0 he hn dx;have hm:∀y,y∈[((2*e+1:Nat):Int),((2*es.length:Nat):Int)]->y∈(kC es.length e r).getD r.length []:=λy hy=>by
  unfold kC;rw[kB];refine(j0 _).mem_iff.2 ?_;rw[qM];exact hy
 refine⟨⟨by rw[nJ];omega,2*es.length,hm _ (by simp),?_⟩,⟨by rw[nJ];omega,2*e+1,hm _ (by simp),.here⟩⟩;have h1:Fc (bg (dW n es e) (kC es.length e r)) (2*(dW n es e).length) (2*e) _:=.nx .here
 rwa [S.e0]at h1
theorem gW.lay{n:Int}{es:List Ed}{r:List (List Int)}{v w a b x y u:Nat}(h:gW es r u y)(h0:aH n es r=0)(hv:(v:Int)<n)(hw:(w:Int)<n)(dx:es.length<3072)(hvw:v≠w)(ha:(a:Int)∈r.getD v [])(hb:(b:Int)∈r.getD w [])(hx:x<2*es.length)(OS:Fc (bg es r) (2*es.length) x (aU a))(hbx:Fc (bg es r) (2*es.length) x (aU b))(hy:y<2*es.length)(hn:¬Fc (bg es r) (2*es.length) x y):gW (es++[((v:Int),(w:Int))]) (oD es.length r v a w b) u y:=by
 obtain⟨h1,k,h2,h3⟩:=h;have hl:=(bR h0).2.1;have L:=Gh h0 hv hw dx hvw ha hb;refine⟨by rw[tU];exact h1,k,?_,?_⟩
 ·unfold oD;rw[kB];refine(j0 _).mem_iff.2 ?_;rw[gV (by rw[dn];omega),gV V,gV V];split
  ·rename_i c;subst c;refine BU ?_;rw[aw (λe=>hvw e.symm)];exact h2
  ·split
   ·rename_i c;subst c;exact BU h2
   ·exact h2
 ·rw[cm];exact(RD L (gU h0) hx OS hbx hy hn).2 h3
end
section
def fa(of:List Int)(h:Nat):Nat:=(of.getD h 0).toNat
def fr(far:List Int)(f:Nat):Int:=far.getD f (-1)
theorem gK{far:List Int}{f:Nat}(h:f<far.length):far[f]?=some (fr far f):=by
 unfold fr;rw[aY,aM h];rfl
theorem Zj{far:List Int}{f:Nat}(h:far.length<=f):fr far f=-1:=by
 unfold fr;rw[aY,gx h];rfl
theorem Dw{far:List Int}{f k:Nat}{x:Int}(h:k<far.length):fr (far.set k x) f=if f=k then x else fr far f:=by
 unfold fr;rw[aY,fZ];by_cases c:k=f
 ·subst c;rw[aJ rfl,aJ h,aJ rfl];rfl
 ·rw[aw c,aw (λe=>c e.symm),aY]
def sq(of:List Int)(F:Nat):Prop:=∀h,h<of.length->∃i:Nat,of[h]?=some (i:Int)/\i<F
theorem sq.lt{of:List Int}{F:Nat}(h:sq of F){x:Nat}(hx:x<of.length):fa of x<F:=by
 obtain⟨i,h1,h2⟩:=h x hx;unfold fa;rw[aY,h1];show ((i:Nat):Int).toNat<F;omega
theorem sq.get{of:List Int}{F:Nat}(h:sq of F){x:Nat}(hx:x<of.length):of[x]?=some ((fa of x:Nat):Int):=by
 obtain⟨i,h1,h2⟩:=h x hx;unfold fa;rw[aY,h1];show some (i:Int)=some (((i:Int).toNat:Nat):Int);rw[eE]
structure m4(of:List Int)(F:Nat)(T:Nat->Prop)(far:List Int):Prop where
 len:far.length=F
 low:∀f,-1<=fr far f
 zero:∀f,f<F->(fr far f=0↔T f)
 back:∀f,f<F->0<fr far f->∃h,h<of.length/\fa of h=f/\fr far (fa of (aU h))=fr far f-1
 wg:∀h,h<of.length->0<=fr far (fa of h)->0<=fr far (fa of (aU h))/\fr far (fa of (aU h))<=fr far (fa of h)+1
theorem m4.le{of:List Int}{F m:Nat}{T:Nat->Prop}{far pZ:List Int}(ho:sq of F)(hm:of.length=2*m)(h:m4 of F T far)(h':m4 of F T pZ):∀(n f:Nat),f<F->fr far f=(n:Int)->0<=fr pZ f/\fr pZ f<=(n:Int):=by
 intro n
 induction n with
 | zero=>
  intro f hf e;have:=(h'.zero f hf).2 ((h.zero f hf).1 V);omega
 | succ n ih=>
  intro f hf e;obtain⟨x,hx,hxf,SA⟩:=h.back f hf V;have ht:aU x<of.length:=by have:=bM (h:=x) (m:=m) V;omega
  obtain⟨g1,g2⟩:=ih _ (ho.lt ht) V;obtain⟨a1,a2⟩:=h'.wg (aU x) ht g1;rw[cI,hxf]at a1 a2;omega
theorem m4.one{of:List Int}{F m:Nat}{T:Nat->Prop}{far pZ:List Int}(ho:sq of F)(hm:of.length=2*m)(h:m4 of F T far)(h':m4 of F T pZ):far=pZ:=by
 apply mb;intro f;by_cases hf:f<F
 ·rw[gK (by rw[h.len];exact hf),gK (by rw[h'.len];exact hf)]
  congr 1
  have a:=h.low f;have b:=h'.low f;have k1:0<=fr far f->0<=fr pZ f/\fr pZ f<=fr far f:=λhx=>by
   have:=h.le ho hm h' (fr far f).toNat f hf V;omega
  have k2:0<=fr pZ f->0<=fr far f/\fr far f<=fr pZ f:=λhx=>by
   have:=h'.le ho hm h (fr pZ f).toNat f hf V;omega
  omega
 ·rw[gx (by rw[h.len];omega),gx (by rw[h'.len];omega)]
structure B0(F:Nat)(T:Nat->Prop)(far:List Int)(q:List Nat):Prop where
 len:far.length=F
 low:∀f,fr far f=0\/fr far f=-1
 mem:∀f,f<F->(fr far f=0↔f∈q)
 nd:q.Nodup
 lt:∀f∈q,f<F
 tt:∀f,f∈q↔T f
theorem B0.start{F:Nat}:B0 F (λ_=>False) (List.replicate F (-1)) []:=by
 refine⟨by simp,λf=>.inr ?_,λf hf=>⟨λh=>?_,λh=>(by cases h)⟩,.nil,λf h=>(by cases h),λf=>(by simp)⟩
 ·unfold fr;rw[aY,mN];split<;>rfl
 ·unfold fr at h;rw[aY,mN,aJ hf]at h;cases h
theorem B0.put{F k:Nat}{T:Nat->Prop}{far:List Int}{q:List Nat}(h:B0 F T far q)(hk:k<F)(hn:fr far k<0):B0 F (λf=>T f\/f=k) (far.set k 0) (q++[k]):=by
 have bQ:k<far.length:=by rw[h.len];exact hk
 have RG:k∉q:=λhm=>by have:=(h.mem k hk).2 hm;omega
 refine⟨by simp[h.len],λf=>?_,λf hf=>?_,?_,λf hf=>?_,λf=>?_⟩
 ·rw[Dw bQ];split
  ·exact .inl rfl
  ·exact h.low f
 ·rw[Dw bQ,ee,fe];split
  ·rename_i c;exact⟨λ_=>.inr c,λ_=>rfl⟩
  ·rename_i c;rw[h.mem f hf];exact⟨.inl,λh=>h.resolve_right c⟩
 ·rw[List.nodup_append];exact⟨h.nd,by simp,λa ha b hb e=>RG (by rw[fe]at hb;rw[<-hb,<-e];exact ha)⟩
 ·rcases ee.1 hf with h1|h1
  ·exact h.lt f h1
  ·rw[fe]at h1;omega
 ·rw[ee,fe,h.tt]
theorem B0.skip{F k:Nat}{T:Nat->Prop}{far:List Int}{q:List Nat}(h:B0 F T far q)(hk:k<F)(hn:0<=fr far k):B0 F (λf=>T f\/f=k) far q:=by
 have RG:k∈q:=(h.mem k hk).1 (by rcases h.low k with c|c<;>omega);exact⟨h.len,h.low,h.mem,h.nd,h.lt,λf=>⟨λhf=>.inl ((h.tt f).1 hf),λhf=>by rcases hf with hf|rfl;exact(h.tt f).2 hf;exact RG⟩⟩
theorem B0.nI{F:Nat}{T T':Nat->Prop}{far:List Int}{q:List Nat}(h:B0 F T far q)(e:∀f,T f↔T' f):B0 F T' far q:=⟨h.len,h.low,h.mem,h.nd,h.lt,λf=>(h.tt f).trans (e f)⟩
structure BQ(of:List Int)(F:Nat)(T:Nat->Prop)(far:List Int)(q:List Nat)(i:Nat)(D:Nat->Prop):Prop where
 len:far.length=F
 low:∀f,-1<=fr far f
 mem:∀f,f<F->(0<=fr far f↔f∈q)
 nd:q.Nodup
 lt:∀f∈q,f<F
 zero:∀f,f<F->(fr far f=0↔T f)
 back:∀f,f<F->0<fr far f->∃h,h<of.length/\fa of h=f/\fr far (fa of (aU h))=fr far f-1
 mono:∀a b x y:Nat,a<=b->q[a]?=some x->q[b]?=some y->fr far x<=fr far y
 top:∀x:Nat,q[i]?=some x->∀y∈q,fr far y<=fr far x+1
 wg:∀h,h<of.length->D h->0<=fr far (fa of h)/\0<=fr far (fa of (aU h))/\fr far (fa of (aU h))<=fr far (fa of h)+1
theorem BQ.start{of:List Int}{F:Nat}{T:Nat->Prop}{far:List Int}{q:List Nat}(h:B0 F T far q):BQ of F T far q 0 (λ_=>False):=by
 have key:∀x∈q,fr far x=0:=λx hx=>(h.mem x (h.lt x hx)).2 hx
 refine⟨h.len,λf=>by rcases h.low f with c|c<;>omega,λf hf=>?_,h.nd,h.lt,λf hf=>(h.mem f hf).trans (h.tt f),λf hf hp=>?_,λa b x y _ hx hy=>?_,λx hx y hy=>?_,λ_ _ h=>h.elim⟩
 ·rw[<-h.mem f hf];rcases h.low f with c|c<;>omega
 ·rcases h.low f with c|c<;>omega
 ·rw[key x (dM hx),key y (dM hy)];omega
 ·rw[key x (dM hx),key y hy];omega
theorem BQ.weaken{of:List Int}{F i:Nat}{T D D':Nat->Prop}{far:List Int}{q:List Nat}(h:BQ of F T far q i D)(hd:∀x,x<of.length->D' x->D x):BQ of F T far q i D':=
 ⟨h.len,h.low,h.mem,h.nd,h.lt,h.zero,h.back,h.mono,h.top,λx hx hD=>h.wg x hx (hd x hx hD)⟩
theorem BQ.put{of:List Int}{F i m x p:Nat}{T D:Nat->Prop}{far:List Int}{q:List Nat}(ho:sq of F)(hm:of.length=2*m)(h:BQ of F T far q i D)(hi:q[i]?=some p)(hx:x<of.length)(hp:fa of x=p)(hn:fr far (fa of (aU x))<0) :
  BQ of F T (far.set (fa of (aU x)) (fr far p+1)) (q++[fa of (aU x)]) i (λy=>D y\/y=x):=by
 have ht:aU x<of.length:=by have:=bM (h:=x) (m:=m) V;omega
 have hk:=ho.lt ht;generalize hke:fa of (aU x)=k at *
 have bQ:k<far.length:=by rw[h.len];exact hk
 have RG:k∉q:=λVL=>by have:=(h.mem k hk).2 VL;omega
 have ug:p∈q:=dM hi;have CN:0<=fr far p:=(h.mem p (h.lt p ug)).2 ug;have hpk:p≠k:=λe=>RG (e ▸ ug)
 have hold:∀f,f≠k->fr (far.set k (fr far p+1)) f=fr far f:=λf hf=>by rw[Dw bQ,aw hf]
 have gQ:fr (far.set k (fr far p+1)) k=fr far p+1:=by rw[Dw bQ,aJ rfl]
 have zR:i<q.length:=(cS.1 hi).1;have nk:∀{f},f<F->0<=fr far f->f≠k:=λhf h0 e=>RG ((h.mem k hk).1 (e ▸ h0))
 refine⟨by simp[h.len],λf=>?_,λf hf=>?_,?_,λf hf=>?_,λf hf=>?_,λf hf iu=>?_,λa b u v uD hu hv=>?_,λu hu v hv=>?_,λy hy hD=>?_⟩
 ·by_cases c:f=k
  ·rw[c,gQ];omega
  ·rw[hold f c];exact h.low f
 ·rw[ee,fe];by_cases c:f=k
  ·rw[c,gQ];exact⟨λ_=>.inr rfl,λ_=>by omega⟩
  ·rw[hold f c,h.mem f hf];exact⟨.inl,λh=>h.resolve_right c⟩
 ·rw[List.nodup_append];exact⟨h.nd,by simp,λa ha b hb e=>RG (by rw[fe]at hb;rw[<-hb,<-e];exact ha)⟩
 ·rcases ee.1 hf with h1|h1
  ·exact h.lt f h1
  ·rw[fe]at h1;omega
 ·by_cases c:f=k
  ·rw[c,gQ];exact⟨λe=>by omega,λhT=>by have:=(h.zero k hk).2 hT;omega⟩
  ·rw[hold f c];exact h.zero f hf
 ·by_cases c:f=k
  ·subst c;refine⟨aU x,ht,hke,?_⟩;rw[cI,hp,hold p hpk,gQ];omega
  ·rw[hold f c]at iu ⊢;obtain⟨z,z1,z2,z3⟩:=h.back f hf iu;refine⟨z,z1,z2,?_⟩;rw[hold _ (nk (ho.lt (by have:=bM (h:=z) (m:=m) V;omega)) V)];exact z3
 ·have iF:a<(q++[k]).length:=(cS.1 hu).1;have mG:b<(q++[k]).length:=(cS.1 hv).1;rw[cm]at iF mG;simp only[List.length_singleton]at iF mG;by_cases cb:b<q.length
  ·rw[eC V]at hu;rw[eC cb]at hv;have UN:=dM hu;have y7:=dM hv;rw[hold u (λe=>RG (e ▸ UN)),hold v (λe=>RG (e ▸ y7))];exact h.mono a b u v uD hu hv
  ·obtain rfl:b=q.length:=V;rw[aiQ (au _),He]at hv;cases hv;rw[gQ];by_cases ca:a<q.length
   ·rw[eC ca]at hu;have UN:=dM hu;rw[hold u (λe=>RG (e ▸ UN))];exact h.top p hi u UN
   ·obtain rfl:a=q.length:=V;rw[aiQ (au _),He]at hu;cases hu;rw[gQ];omega
 ·rw[eC zR,hi]at hu;cases hu;rw[hold p hpk];rcases ee.1 hv with h1|h1
  ·rw[hold v (λe=>RG (e ▸ h1))];exact h.top p hi v h1
  ·rw[fe]at h1;subst h1;rw[gQ];omega
 ·rcases hD with hD|rfl
  ·obtain⟨a1,a2,a3⟩:=h.wg y hy hD;have b1:=nk (ho.lt hy) a1;have b2:=nk (ho.lt (show aU y<of.length by have:=bM (h:=y) (m:=m) V;omega)) a2;rw[hold _ b1,hold _ b2];exact⟨a1,a2,a3⟩
  ·rw[hp,hke,hold p hpk,gQ];omega
theorem BQ.skip{of:List Int}{F i m x p:Nat}{T D:Nat->Prop}{far:List Int}{q:List Nat}(ho:sq of F)(hm:of.length=2*m)(h:BQ of F T far q i D)(hi:q[i]?=some p)(hx:x<of.length)(hp:fa of x=p)(hn:0<=fr far (fa of (aU x))) :
  BQ of F T far q i (λy=>D y\/y=x):=by
 have ht:aU x<of.length:=by have:=bM (h:=x) (m:=m) V;omega
 have ug:p∈q:=dM hi;refine⟨h.len,h.low,h.mem,h.nd,h.lt,h.zero,h.back,h.mono,h.top,λy hy hD=>?_⟩;rcases hD with hD|rfl
 ·exact h.wg y hy hD
 ·rw[hp];exact⟨(h.mem p (h.lt p ug)).2 ug,hn,h.top p hi _ ((h.mem _ (ho.lt ht)).1 hn)⟩
theorem BQ.next{of:List Int}{F i p:Nat}{T D:Nat->Prop}{far:List Int}{q:List Nat}(h:BQ of F T far q i D)(hi:q[i]?=some p):BQ of F T far q (i+1) D:=by
 refine⟨h.len,h.low,h.mem,h.nd,h.lt,h.zero,h.back,h.mono,λx hx y hy=>?_,h.wg⟩;have h1:=h.top p hi y hy;have h2:=h.mono i (i+1) p x V hi hx;omega
theorem BQ.done{of:List Int}{F i:Nat}{T D:Nat->Prop}{far:List Int}{q:List Nat}(ho:sq of F)(h:BQ of F T far q i D)(hD:∀x,x<of.length->fa of x∈q->D x):m4 of F T far:=
 ⟨h.len,h.low,h.zero,h.back,λx hx h0=>(h.wg x hx (hD x hx ((h.mem _ (ho.lt hx)).1 h0))).2⟩
theorem BQ.I7{of:List Int}{F i:Nat}{T D:Nat->Prop}{far:List Int}{q:List Nat}(h:BQ of F T far q i D):q.length<=F:=by
 have:q.length<=(List.range F).length:=h.nd.length_le_of_subset λx hx=>wC.2 (h.lt x hx)
 simpa using this
theorem zo{of:List Int}{F m:Nat}{far:List Int}(ho:sq of F)(hm:of.length=2*m)(hb:∀f,f<F->0<fr far f->∃h,h<of.length/\fa of h=f/\fr far (fa of (aU h))=fr far f-1){f:Nat}(hf:f<F):fr far f<(F:Int):=by
 have key:∀(n f:Nat),f<F->fr far f=(n:Int)->∃l:List Nat,l.Nodup/\l.length=n+1/\∀x∈l,x<F/\0<=fr far x/\fr far x<=(n:Int):=by
  intro n
  induction n with
  | zero=>intro f hf e;exact⟨[f],by simp,rfl,λx hx=>by rw[fe]at hx;subst hx;omega⟩
  | succ n ih=>
   intro f hf e;obtain⟨x,hx,hxf,SA⟩:=hb f hf V;have ht:aU x<of.length:=by have:=bM (h:=x) (m:=m) V;omega
   obtain⟨l,l1,l2,l3⟩:=ih _ (ho.lt ht) V;refine⟨f::l,List.nodup_cons.2 ⟨λhm=>by have:=l3 f hm;omega,l1⟩,by simp[l2],λy hy=>?_⟩;rcases dT.1 hy with rfl|hy
   ·omega
   ·have:=l3 y hy;omega
 by_cases c:fr far f<0
 ·omega
 ·obtain⟨l,l1,l2,l3⟩:=key (fr far f).toNat f hf V;have:l.length<=(List.range F).length:=l1.length_le_of_subset λx hx=>wC.2 (l3 x hx).1
  rw[SQ]at this;omega
theorem m4.bound{of:List Int}{F m:Nat}{T:Nat->Prop}{far:List Int}(ho:sq of F)(hm:of.length=2*m)(h:m4 of F T far){f:Nat}(hf:f<F):fr far f<(F:Int):=zo ho hm h.back hf
theorem BQ.bound{of:List Int}{F m i:Nat}{T D:Nat->Prop}{far:List Int}{q:List Nat}(ho:sq of F)(hm:of.length=2*m)(h:BQ of F T far q i D){f:Nat}(hf:f<F):fr far f<(F:Int):=zo ho hm h.back hf
end
section
theorem Wi{n:Int}{es:List Ed}{r:List (List Int)}(h0:aH n es r=0):acA (dR es r) (dR es r).length (aV (dR es r) (dR es r).length).1 (aV (dR es r) (dR es r).length).2/\(dR es r).length=2*es.length:=by
 have g:=dy h0;obtain⟨l,hl⟩:=qG g;have he:=iW g hl;have hh:=vi g hl;have I:=so hh (zk g hl) l.length (au _);rw[he];exact⟨I,hl.1⟩
theorem zp{n:Int}{es:List Ed}{r:List (List Int)}(h0:aH n es r=0){p:Nat}{x:Int}:x∈(aP es r).getD p []↔∃y:Nat,x=(y:Int)/\y<2*es.length/\fa (aG es r) y=p:=by
 obtain⟨I,uo⟩:=Wi h0;have AH:aP es r=(aV (dR es r) (dR es r).length).2++qF r r.length:=rfl;have mK:∀y,y<2*es.length->∃f,(aV (dR es r) (dR es r).length).2[fa (aG es r) y]?=some f/\(y:Int)∈f:=λy hy=>by
  obtain⟨i,f,h1,h2,h3⟩:=Rz h0 hy;have:fa (aG es r) y=i:=by
   unfold fa;rw[aY,h3];exact eE i
  rw[this];exact⟨f,h1,h2⟩
 constructor
 ·intro hx;rw[AH,aY]at hx;by_cases cg:p<(aV (dR es r) (dR es r).length).2.length
  ·rw[eC cg,aM cg]at hx;simp only[wB]at hx;obtain⟨y,rfl,hy⟩:=I.nat _ (jE cg) x hx;rw[uo]at hy;refine⟨y,rfl,hy,?_⟩;obtain⟨f,h1,h2⟩:=mK y hy;obtain⟨hi,e⟩:=cS.1 h1;apply Classical.byContradiction;intro cG;have hd:=List.pairwise_iff_getElem.1 I.dis;rw[<-e]at h2;rcases Nat.lt_or_gt_of_ne cG with h|h
   ·exact hd _ _ hi cg h _ h2 hx
   ·exact hd _ _ cg hi h _ hx h2
  ·exfalso;rw[aiQ V]at hx;cases hy:(qF r r.length)[p-(aV (dR es r) (dR es r).length).2.length]? with
   | none=>rw[hy]at hx;cases hx
   | some f=>
    rw[hy]at hx;have:=dM hy;unfold qF at this;have:=(rC.1 this).2;have:f=[]:=mM (by simpa using this);subst this;cases hx
 ·rintro⟨y,rfl,hy,rfl⟩;obtain⟨f,h1,h2⟩:=mK y hy;rw[AH,aY,eC (cS.1 h1).1,h1];exact h2
theorem gZ{n:Int}{es:List Ed}{r:List (List Int)}(h0:aH n es r=0):sq (aG es r) (aP es r).length/\(aG es r).length=2*es.length:=by
 have hl:(aG es r).length=2*es.length:=xq;refine⟨λh hh=>?_,hl⟩;obtain⟨_,i,h1,h2,_⟩:=of_next h0 (show h<2*es.length by omega);exact⟨i,h2,h1⟩
theorem wh{n:Int}{es:List Ed}{r:List (List Int)}(h0:aH n es r=0){h k:Nat}(hh:h<2*es.length)(hk:k<2*es.length):fa (aG es r) h=fa (aG es r) k↔Fc (bg es r) (2*es.length) h k:=by
 obtain⟨ho,hl⟩:=gZ h0;rw[<-acC h0 hh hk,ho.get V,ho.get V];constructor
 ·intro e;rw[e]
 ·intro e;have:=jk e;omega
theorem nK{n:Int}{es:List Ed}{r:List (List Int)}(h0:aH n es r=0):(aP es r).length<=2*es.length+r.length:=by
 obtain⟨_,uo⟩:=Wi h0;have AH:aP es r=(aV (dR es r) (dR es r).length).2++qF r r.length:=rfl;have h1:=yX (nxt:=dR es r) (k:=(dR es r).length);have h2:(qF r r.length).length<=r.length:=by
  unfold qF;refine hX (Ac _ _) ?_;rw[iZ];omega
 rw[AH,cm];omega
end
end Go.Eng
