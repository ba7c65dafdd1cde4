import Derived.Test.YthbaplapbfbnoaaGreatWb
/- Walks over the program: part 3. -/

set_option maxRecDepth 100000
set_option maxHeartbeats 1000000
namespace Go.Eng
section
variable {A:aN}{H H':Heap}{nx nx':Nat}{σ:aR}{L:List Value}{Q:cw}
theorem bG.KL{lo by_ q c':Nat}{zero:List Value}{s x:Od}{v:Value}{xs:List Int}{y:Int}{K:Value->Heap->Nat->Prop}(hs:ev σ L s=some v)(hx:ev σ L x=some (.slice (some ⟨q,0,some 1⟩) 1 c'))(hq:Rd H q [.int .i64 y])(hg:lS H lo nx v xs)(vF:lo<=nx)(h2:(xs.length+1)*by_<=small)(h3:xs.length+1<=small)(h:∀v' H' nx',nx<=nx'->lS H' lo nx' v' (xs++[y])->(∀b,b<nx->bk v≠some b->ah H' (at_ b)=ah H (at_ b))->(bk v'=bk v\/bk v'=some nx)->K v' H' nx'):bG A (.app 1 by_ zero s x false) σ L H nx K:=by
 obtain⟨b,c,cs,rfl,CR,dS,hr,kI,qj,ht⟩:=hg;by_cases hc:xs.length+1<=aF c
 ·have zU:mm cs (0+xs.length*1) [.int .i64 y]=some (cs.take xs.length++[.int .i64 y]++cs.drop (xs.length+1)):=by
   unfold mm;rw[Nat.zero_add,Nat.mul_one,tw _ _ _ (by show xs.length+1<=_;omega)];rfl
  refine .of (.pk hs hx (dL hq rfl) V V rfl hr hc zU) (h _ _ _ (au _) ⟨b,c,_,by simp,CR,dS,aj,?_,by simpa using hc,?_⟩ (λd _ hd=>by rw[ak,aw (λe=>hd (by rw[e];rfl))]) (.inl rfl))
  ·simp only[cm,iZ,pf,hO,gp];omega
  ·rw[ht,jG,cm];have e:(xs.map (Value.int .i64)++[Value.int .i64 y]).length=xs.length + [y].length:=by simp
   rw[<-e,List.take_left];rfl
 ·have hold:take? (xs.length*1) (cs.drop 0)=some (xs.map (.int .i64)):=by
   rw[Nat.mul_one,NZ,take?_of _ _ V,ht]
  have gQ:∀H1:Heap,ah H1 (at_ nx)=some (.cells (xs.map (.int .i64)++[.int .i64 y]))->lS H1 lo (nx+1) (.slice (some ⟨nx,0,some 1⟩) (xs.length+1) (2*(xs.length+1))) (xs++[y]):=λH1 hH=>⟨nx,2*(xs.length+1),_,by simp,vF,V,hH,by rw[bT];simp,by rw[bT];simp,by
   rw[jG,cm];have e:(xs.map (Value.int .i64)++[Value.int .i64 y]).length=xs.length + [y].length:=by simp
   rw[<-e,iJ];rfl⟩
  cases he:exact c with
  | false=>exact .of (.nQ hs hx (dL hq rfl) V V rfl hr hold V he h2 h3) (h _ _ _ (cE _) (gQ _ aj) (λd hd hn=>by rw[ak,aw V,gC,aw (λe=>hn (by rw[e];rfl))]) (.inr rfl))
  | true=>exact .of (.tx hs hx (dL hq rfl) V V rfl hr hold V he h2 h3) (h _ _ _ (cE _) (gQ _ aj) (λd hd hn=>by rw[ak,aw V]) (.inr rfl))
theorem lS.own{lo:Nat}{v:Value}{xs:List Int}(h:lS H lo nx v xs)(hs:∀b,bk v=some b->ah H' (at_ b)=ah H (at_ b))(hn:nx<=nx'):lS H' lo nx' v xs:=by
 obtain⟨b,c,cs,rfl,h2,h3,h4,h5⟩:=h;exact⟨b,c,cs,rfl,h2,V,(hs b rfl).trans h4,h5⟩
structure TS(H:Heap)(lo nx tb bb fb:Nat)(bc fc m:Nat)(ov:Value)(xs by_ far:List Int):Prop where
 rd:ah H (at_ tb)=some (.cells [ov,.slice (some ⟨bb,0,some 1⟩) m bc,.slice (some ⟨fb,0,some 1⟩) m fc,.slice none 0 0])
 ord:lS H lo nx ov xs
 by1:aB H bb by_
 vn:aB H fb far
 bl:by_.length=m
 fl:far.length=m
 d1:bk ov≠some tb
 d2:bk ov≠some bb
 d3:bk ov≠some fb
 d4:bb<fb
 d5:fb<tb
 d6:tb<nx
 d7:lo<=bb
theorem find_spec{f:FuncId}(hf:A.funcs f=some rz)(hh:zhN A f)(oZ:A.funcs 113=some yI)(jF:zhN A 113){n:Int}{pb h nb w lo tb bb fb bc fc m:Nat}{d:Int}{base:Option Addr}{ec:Nat}{ov0 ov:Value}{es:List Ed}{xs by_ far:List Int}{H0:Heap}(he:bL H0 nb 2 aW (.slice base es.length ec) es)(hs:aq H0 H nb)(ng:Rd H pb [.int .i64 n,.slice base es.length ec,ov0])(hl:h<2*es.length)(dx:es.length<=4000)(hw:bZ es (aU h)=(w:Int))(IN:w<m)(ts:TS H lo nx tb bb fb bc fc m ov xs by_ far)(hx:xs.length<=1048576) :
  WF A f [.pointer (some ⟨pb,0,none⟩),.pointer (some ⟨tb,0,none⟩),.int .i64 (h:Int),.int .i64 d] H nx λ_ H' nx'=>∃ov',TS H' lo nx' tb bb fb bc fc m ov' (xs++[(w:Int)]) (by_.set w (h:Int)) (far.set w d)/\(∀b,b<lo->ah H' (at_ b)=ah H (at_ b))/\nx<=nx':=by
 obtain⟨t1,t2,t3,t4,t5,t6,d1,d2,d3,d4,d5,d6,d7⟩:=ts;have zU:=t2;obtain⟨ob,oc,ocs,rfl,ho0,F6,_⟩:=zU;refine WF.enter (hh _ _ _) hf ?_
 repeat' (first|refine aE ?_|fail)
 refine WO.cn rfl ?_;refine(F3 oZ jF he hs ng hl dx).of ?_;rintro _ H1 aQ ⟨rfl,rfl,rfl⟩;rw[hw];have htR:Rd H1 tb _:=.inl t1
 repeat' (first|refine aE ?_|fail)
 refine WO.n rfl ?_;have st4:=t2.frame (H':=aC H1 aQ [.int .i64 (w:Int)]) (nx':=aQ+1) (λb _ hb=>by rw[ak,aw V]) (cE _);refine bG.KL (lo:=lo) rfl rfl Rd.self st4 V (by unfold small;omega) (by unfold small;omega) ?_;intro ov2 H2 nx2 fg NJ hk pI;have iS:∀b,b<aQ->b≠ob->ah H2 (at_ b)=ah H1 (at_ b):=λb hb cG=>(hk b V (λe=>cG (by cases e;rfl))).trans (by rw[ak,aw V])
 have e1:ob≠tb:=λe=>d1 (by rw[e];rfl)
 have e2:ob≠bb:=λe=>d2 (by rw[e];rfl)
 have e3:ob≠fb:=λe=>d3 (by rw[e];rfl)
 have t1':=(iS tb d6 (λe=>e1 e.symm)).trans t1;have t1R:Rd H2 tb _:=.inl t1';have t3':ah H2 (at_ bb)=some (.cells (by_.map (.int .i64))):=(iS bb V (λe=>e2 e.symm)).trans t3;have t4':ah H2 (at_ fb)=some (.cells (far.map (.int .i64))):=(iS fb V (λe=>e3 e.symm)).trans t4;have st6:=NJ;obtain⟨o2,oc2,ahZ,LG,_⟩:=NJ;subst LG;have G5:o2=ob\/o2=aQ+1:=by
  rcases pI with e|e
  ·cases e;exact .inl rfl
  ·cases e;exact .inr rfl
 have q1:o2≠tb:=V;have q2:o2≠bb:=V;have q3:o2≠fb:=V;have MR:w<(by_.map (Value.int .i64)).length:=by rw[ja];omega
 repeat' (first|refine aE ?_|fail)
 refine jU (vs:=[]) rfl ⟨_,⟨ay V (ay V aj),st6.own (λb hb=>?_) (au _),ay V ?_,?_,by rw[iq];exact t5,by rw[iq];exact t6,λe=>q1 (by cases e;rfl),λe=>q2 (by cases e;rfl),λe=>q3 (by cases e;rfl),d4,d5,V,d7⟩,λb hb=>?_,V⟩
 ·cases hb;rw[ak,aw q3,ak,aw q2,ak,aw q1]
 ·rw[aj,List.map_set,Nat.zero_add,Nat.mul_one]
 ·show ah _ _=_;rw[aj,List.map_set,Nat.zero_add,Nat.mul_one]
 ·rw[ak,aw V,ak,aw V,ak,aw V];exact iS b V V
end
section
variable {A:aN}{H H':Heap}{nx nx':Nat}{σ:aR}{L:List Value}{Q:cw}
structure Bf(es:List Ed)(m s i:Nat)(P:Nat->Nat->Prop)(far xs:List Int):Prop where
 len:far.length=m
 mkd:∀w,Mk far w↔(w:Int)∈xs
 Py:∀x∈xs,∃q:Nat,x=(q:Int)/\q<m/\Reach es s q
 me:(s:Int)∈xs
 wg:∀j u w,j<i->xs[j]?=some ((u:Nat):Int)->MO es u w->Mk far w\/P u w
 QT:xs.length+left far<=m
 bnd:∀x∈far,-1<=x/\x<(xs.length:Int)
section
variable {es:List Ed}{m s i:Nat}{P P':Nat->Nat->Prop}{far xs:List Int}
theorem Bf.skip{w:Nat}(h:Bf es m s i P far xs)(hw:Mk far w)(hP:∀u w',P u w'->w'=w\/P' u w'):Bf es m s i P' far xs:=
 ⟨h.len,h.mkd,h.Py,h.me,λj u w' hj hu ha=>by
  rcases h.wg j u w' hj hu ha with h1|h1
  ·exact .inl h1
  ·rcases hP u w' h1 with rfl|h2
   ·exact .inl hw
   ·exact .inr h2,h.QT,h.bnd⟩
theorem Bf.mark{w:Nat}{x y:Int}(h:Bf es m s i P far xs)(hi:i<=xs.length)(hg:far[w]?=some y)(hy:y<0)(hw:w<m)(hx:0<=x)(hb:x<(xs.length:Int)+1)(hr:Reach es s w)(hP:∀u w',P u w'->w'=w\/P' u w'):Bf es m s i P' (far.set w x) (xs++[(w:Int)]):=by
 have vf:w<far.length:=by rw[h.len];exact hw
 have Y3:=nF hg hy hx;refine⟨by rw[iq];exact h.len,λu=>?_,λz hz=>?_,by simp[h.me],λj u w' hj hu ha=>?_,?_,λz hz=>?_⟩
 ·rw[Mk.set vf hx,h.mkd u,ee,fe];constructor
  ·rintro(rfl|h1)
   ·exact .inr rfl
   ·exact .inl h1
  ·rintro(h1|h1)
   ·exact .inr h1
   ·exact .inl V
 ·rcases ee.1 hz with hz|hz
  ·exact h.Py z hz
  ·exact⟨w,fe.1 hz,hw,hr⟩
 ·rw[eC V]at hu;rcases h.wg j u w' hj hu ha with h1|h1
  ·exact .inl ((Mk.set vf hx).2 (.inr h1))
  ·rcases hP u w' h1 with rfl|h2
   ·exact .inl ((Mk.set vf hx).2 (.inl rfl))
   ·exact .inr h2
 ·rw[cm];show _+1+_<=_
  have:=h.QT;omega
 ·rw[cm];show -1<=z/\z<((xs.length+1:Nat):Int);rcases List.mem_or_eq_of_mem_set hz with h1|rfl
  ·have:=h.bnd z h1;omega
  ·omega
theorem Bf.Y4{v:Nat}(h:Bf es m s i (λ_ _=>False) far xs)(hv:xs[i]?=some (v:Int)):Bf es m s (i+1) (PK es v 0) far xs:=
 ⟨h.len,h.mkd,h.Py,h.me,λj u w hj hu ha=>by
  rcases rD j i with h1|h1
  ·rcases h.wg j u w h1 hu ha with h2|h2
   ·exact .inl h2
   ·exact h2.elim
  ·have:j=i:=V;subst this;rw[hv]at hu;have:v=u:=by have:=jk hu;omega
   subst this;exact .inr (PK.all ha),h.QT,h.bnd⟩
theorem Bf.none(h:Bf es m s i P far xs)(hP:∀u w,P u w->False):Bf es m s i (λ_ _=>False) far xs:=
 ⟨h.len,h.mkd,h.Py,h.me,λj u w hj hu ha=>by
  rcases h.wg j u w hj hu ha with h1|h1
  ·exact .inl h1
  ·exact(hP u w h1).elim,h.QT,h.bnd⟩
theorem Bf.done(h:Bf es m s xs.length (λ_ _=>False) far xs){w:Nat}:(w:Int)∈xs↔Reach es s w:=by
 constructor
 ·intro hw;obtain⟨q,h1,_,h2⟩:=h.Py _ hw;rw[show w=q by omega];exact h2
 ·intro hr
  induction hr with
  | here=>exact h.me
  | @step u v _ ha ih=>
   obtain⟨j,hj,e⟩:=kG ih;rcases h.wg j u v hj (by rw[aM hj,e]) ha with h1|h1
   ·exact(h.mkd v).1 h1
   ·exact h1.elim
theorem Re(m:Nat):left (List.replicate m (-1))=m:=by
 unfold left;rw[List.filter_replicate];simp
theorem Bf.start(hs:s<m):Bf es m s 0 (λ_ _=>False) ((List.replicate m (-1)).set s 0) [(s:Int)]:=by
 have hg:(List.replicate m (-1:Int))[s]?=some (-1):=by rw[mN,aJ hs]
 refine⟨by simp,λw=>?_,λx hx=>⟨s,fe.1 hx,hs,.here⟩,by simp,λj u w hj=>by omega,?_,λx hx=>?_⟩
 ·rw[Mk.set (by simpa using hs) V,fe];constructor
  ·rintro(rfl|⟨x,h1,h2⟩)
   ·rfl
   ·rw[mN]at h1;split at h1
    ·cases h1;omega
    ·cases h1
  ·intro h;exact .inl V
 ·have:=nF hg V (show (0:Int)<=0 by omega);have h2:=Re m;show 1+_<=m;omega
 ·rcases List.mem_or_eq_of_mem_set hx with h1|rfl
  ·have:=(List.mem_replicate.1 h1).2;subst this;exact⟨V,by show (-1:Int)<1;omega⟩
  ·exact⟨V,by show (0:Int)<1;omega⟩
end
end
section
variable {A:aN}{H H':Heap}{nx nx':Nat}{σ:aR}{L:List Value}{Q:cw}
theorem bfI{n:Int}{m s i v pb rb tb bb fb bc fc lo uc:Nat}{ub:Option Addr}{es:List Ed}{base:Option Addr}{ec:Nat}{ov0 ov:Value}{Hs:Heap}{far by_ xs:List Int}(oZ:A.funcs 113=some yI)(jF:zhN A 113)(sk:A.funcs 114=some rz)(lT:zhN A 114)(hm:kK n es)(iL:n=(m:Int))(he:bL Hs lo 2 aW (.slice base es.length ec) es)(ng:Rd Hs pb [.int .i64 n,.slice base es.length ec,ov0])(qk:pb<lo)(hv:v<m)(hrv:Reach es s v)(mI:bP Hs (pb+1) lo 1 (.slice ub (dY es (2*es.length) v).length uc) (dY es (2*es.length) v).length ((dY es (2*es.length) v).map (.int .i64)))(hs:aq Hs H lo)(ts:TS H lo nx tb bb fb bc fc m ov xs by_ far)(bf:Bf es m s (i+1) (PK es v 0) far xs)(hi:i<xs.length)(Q8:Mk far v)(bq:∀σ H' nx' ov' Y5 by' pZ,bD [([],.pointer (some ⟨pb,0,none⟩)),(S4,.pointer (some ⟨rb,0,none⟩)),(S5,.pointer (some ⟨tb,0,none⟩)),(S6,.int .i64 ((i:Nat):Int))] σ->
   aq Hs H' lo->TS H' lo nx' tb bb fb bc fc m ov' Y5 by' pZ->Bf es m s (i+1) (λ_ _=>False) pZ Y5->i<Y5.length->nx<=nx'->Q (.exit 2) σ H' nx') :
  WC A (.loop Yf) [([],.pointer (some ⟨pb,0,none⟩)),(S4,.pointer (some ⟨rb,0,none⟩)),(S5,.pointer (some ⟨tb,0,none⟩)),(S6,.int .i64 ((i:Nat):Int)),(S7,.int .i64 ((v:Nat):Int)),(Mp,.slice ub (dY es (2*es.length) v).length uc),(XT,.int .i64 (((dY es (2*es.length) v).length:Nat):Int)),(TY,.int .i64 0)] H nx Q:=by
 have dx:=hm.2.2.1;have cH:=hm.2.1;refine WC.loop (α:=Nat×Value×List Int×List Int×List Int) (λk=>[([],.pointer (some ⟨pb,0,none⟩)),(S4,.pointer (some ⟨rb,0,none⟩)),(S5,.pointer (some ⟨tb,0,none⟩)),(S6,.int .i64 ((i:Nat):Int)),(S7,.int .i64 ((v:Nat):Int)),(Mp,.slice ub (dY es (2*es.length) v).length uc),(XT,.int .i64 (((dY es (2*es.length) v).length:Nat):Int)),(TY,.int .i64 ((k.1:Nat):Int))])
  (λk H' nx'=>k.1<=(dY es (2*es.length) v).length/\nx<=nx'/\aq Hs H' lo/\TS H' lo nx' tb bb fb bc fc m k.2.1 k.2.2.1 k.2.2.2.1 k.2.2.2.2/\Bf es m s (i+1) (PK es v k.1) k.2.2.2.2 k.2.2.1/\i<k.2.2.1.length/\Mk k.2.2.2.2 v) (λk=>(dY es (2*es.length) v).length-k.1)
  ?_ (0,ov,xs,by_,far) aX ⟨bS _,au _,hs,ts,bf,hi,Q8⟩
 rintro⟨k,ov1,UH,by1,vn⟩ H1 aQ ⟨hk,jY,bt,MS,KM,xr,wO⟩;simp only at hk MS KM xr wO ⊢;have Di:=nD (es:=es) (k:=2*es.length) (v:=v);have htR:Rd H1 tb _:=.inl MS.rd;have oJ:=KM.len;have hfw:=KM.QT;have Cp:ah H1 (at_ fb)=some (.cells (vn.map (.int .i64))):=MS.vn;unfold Yf
 repeat' (first|refine aE ?_|(refine bJ ?_ ?_<;>intro h<;>(try simp only[aL]at h))|fail)
 ·have bQ:k<(dY es (2*es.length) v).length:=V;obtain⟨q,hq,KI,hqe,IL⟩:=Dk bQ;obtain⟨rb',rc,vd,acq,YV,rX,hrx⟩:=mI.cell hq;cases vd;have acr:Rd H1 rb' _:=bt.rd YV (.inl rX);obtain⟨w,hw,YW⟩:=vj hm (bM KI);have IN:w<m:=V;have IP:MO es v w:=⟨q,KI,hqe,hw⟩;have AM:=bt.rd qk ng
  repeat' (first|refine aE ?_|fail)
  refine WO.ca rfl ?_;refine(F3 oZ jF he bt AM KI V).of ?_;rintro _ H2 nx2 ⟨rfl,rfl,rfl⟩;refine⟨bB.look rfl htR rfl rfl (by simp[mc,ff]) .nil,?_⟩;rw[hw]at IL ⊢;have oN:=aM (show w<vn.length by omega);generalize vn[w]=x at oN;have DQ:=aB.cell oN;obtain⟨y,hgy,hy0⟩:=wO;have hcy:=aB.cell hgy;have hyb:=(KM.bnd y (dM hgy)).2
  repeat' (first|refine aE ?_|(refine bJ ?_ ?_<;>intro h<;>(try simp only[aL]at h))|fail)
  ·refine WO.cn rfl ?_;refine(find_spec (d:=y+1) sk lT oZ jF he bt AM KI V hw IN MS V).of ?_;rintro _ H3 bW ⟨ov3,ts3,YY,j8⟩
   repeat' (first|refine aE ?_|fail)
   refine⟨(k+1,ov3,UH++[(w:Int)],by1.set w (q:Int),vn.set w (y+1)),by show (dY es (2*es.length) v).length-(k+1)<(dY es (2*es.length) v).length-k;omega,.cons rfl aX,by show k+1<=_;omega,V,λb hb=>(YY b hb).trans (bt b hb),ts3,KM.mark V oN V IN V V (.step hrv IP) (λ_ _ h=>h.next IL.symm),by show i<(UH++[(w:Int)]).length;rw[cm];omega,(Mk.set V V).2 (.inr ⟨y,hgy,hy0⟩)⟩
  ·exact⟨(k+1,ov1,UH,by1,vn),by show (dY es (2*es.length) v).length-(k+1)<(dY es (2*es.length) v).length-k;omega,.cons rfl aX,by show k+1<=_;omega,V,bt,MS,KM.skip ⟨x,oN,V⟩ (λ_ _ h=>h.next IL.symm),xr,⟨y,hgy,hy0⟩⟩
 ·have:k=(dY es (2*es.length) v).length:=V;subst this;exact bq _ _ _ ov1 UH by1 vn aX bt MS (KM.none λ_ _ h=>h.none) xr jY
theorem lS.cell{lo i:Nat}{v:Value}{xs:List Int}{x:Int}(h:lS H lo nx v xs)(hx:xs[i]?=some x):∃b c cs,v=.slice (some ⟨b,0,some 1⟩) xs.length c/\lo<=b/\b<nx/\ah H (at_ b)=some (.cells cs)/\cs[0+i*1]?=some (.int .i64 x):=by
 obtain⟨b,c,cs,rfl,CR,dS,hr,kI,qj,ht⟩:=h;have hi:=(cS.1 hx).1;refine⟨b,c,cs,rfl,CR,dS,hr,?_⟩;have h1:(cs.take xs.length)[i]?=some (.int .i64 x):=by rw[ht,eD,hx];rfl
 rw[List.getElem?_take_of_lt hi]at h1;rw[Nat.zero_add,Nat.mul_one];exact h1
theorem bfO{n:Int}{m s pb rb tb bb fb bc fc lo ob oc:Nat}{es:List Ed}{base:Option Addr}{ec:Nat}{ov:Value}{Hs:Heap}{far by_ xs:List Int}(oZ:A.funcs 113=some yI)(jF:zhN A 113)(sk:A.funcs 114=some rz)(lT:zhN A 114)(hm:kK n es)(iL:n=(m:Int))(he:bL Hs lo 2 aW (.slice base es.length ec) es)(ng:Rd Hs pb [.int .i64 n,.slice base es.length ec,.slice (some ⟨ob,0,some 1⟩) m oc])(qk:pb<lo)(si:ob<lo)(hg:GS Hs (pb+1) lo ob (iz es m (2*es.length)))(hs:aq Hs H lo)(ts:TS H lo nx tb bb fb bc fc m ov xs by_ far)(bf:Bf es m s 0 (λ_ _=>False) far xs)(bq:∀σ H' nx' ov' Y5 by' pZ,bD [(S4,.pointer (some ⟨rb,0,none⟩)),(S5,.pointer (some ⟨tb,0,none⟩))] σ->
   aq Hs H' lo->TS H' lo nx' tb bb fb bc fc m ov' Y5 by' pZ->Bf es m s Y5.length (λ_ _=>False) pZ Y5->nx<=nx'->Q (.exit 0) σ H' nx') :
  WC A (.loop Yg) [([],.pointer (some ⟨pb,0,none⟩)),(S4,.pointer (some ⟨rb,0,none⟩)),(S5,.pointer (some ⟨tb,0,none⟩)),(S6,.int .i64 0)] H nx Q:=by
 have dx:=hm.2.2.1;have cH:=hm.2.1;refine WC.loop (α:=Nat×Value×List Int×List Int×List Int) (λk=>[([],.pointer (some ⟨pb,0,none⟩)),(S4,.pointer (some ⟨rb,0,none⟩)),(S5,.pointer (some ⟨tb,0,none⟩)),(S6,.int .i64 ((k.1:Nat):Int))])
  (λk H' nx'=>k.1<=k.2.2.1.length/\nx<=nx'/\aq Hs H' lo/\TS H' lo nx' tb bb fb bc fc m k.2.1 k.2.2.1 k.2.2.2.1 k.2.2.2.2/\Bf es m s k.1 (λ_ _=>False) k.2.2.2.2 k.2.2.1) (λk=>m-k.1)
  ?_ (0,ov,xs,by_,far) aX ⟨bS _,au _,hs,ts,bf⟩
 rintro⟨i,ov1,UH,by1,vn⟩ H1 aQ ⟨hi,jY,bt,MS,KM⟩;simp only at hi MS KM ⊢;have htR:Rd H1 tb _:=.inl MS.rd;have hfw:=KM.QT;obtain⟨qb,qc,qcs,zU,_⟩:=MS.ord;rw[zU]at htR;unfold Yg
 repeat' (first|refine aE ?_|(refine bJ ?_ ?_<;>intro h<;>(try simp only[aL]at h))|fail)
 ·have jT:i<UH.length:=V;have gY:=aM jT;obtain⟨v,hv,y7,Mx⟩:=KM.Py UH[i] (jE jT);rw[hv]at gY;obtain⟨qb',qc',ah0,EA,hq0,vR,hqr,hqx⟩:=MS.ord.cell gY;rw[zU]at EA;cases EA;have hqR:Rd H1 qb _:=.inl hqr;have AM:=bt.rd qk ng;obtain⟨us,u,iF,sB,pY,mI⟩:=hg.row (v:=v) (by rw[dG];exact y7);rw[dG]at iF;rw[lp y7]at mI;obtain⟨ub,uc,hu⟩:=jX mI;have Q5:Rd H1 ob us:=bt.rd si (.inl sB);rw[hu]at pY mI;have Di:=nD (es:=es) (k:=2*es.length) (v:=v);have Q8:Mk vn v:=(KM.mkd v).2 (by rw[<-hv];exact jE jT)
  repeat' (first|refine aE ?_|fail)
  refine WC.sub aX (bfI (rb:=rb) oZ jF sk lT hm iL he ng qk y7 Mx mI bt MS (KM.Y4 gY) jT Q8 (λσ H2 nx2 ov2 xs2 by2 Rf hσ bN ts2 bf2 KD fg=>?_));refine kW (Md (lO (WC.sub hσ ?_)))
  repeat' (first|refine aE ?_|fail)
  exact⟨(i+1,ov2,xs2,by2,Rf),by show m-(i+1)<m-i;omega,.cons rfl aX,by show i+1<=xs2.length;omega,V,bN,ts2,bf2⟩
 ·have:i=UH.length:=V;subst this;exact bq _ _ _ ov1 UH by1 vn aX bt MS KM jY
theorem tQ{f:FuncId}(hf:A.funcs f=some lQ)(hh:zhN A f)(oZ:A.funcs 113=some yI)(jF:zhN A 113)(sk:A.funcs 114=some rz)(lT:zhN A 114)(ze:A.funcs 112=some we)(p6:zhN A 112)(G4:A.funcs 90=some kY)(q9:zhN A 90){n:Int}{m s pb ob oc:Nat}{es:List Ed}{base:Option Addr}{ec:Nat}(hm:kK n es)(iL:n=(m:Int))(hs:s<m)(he:bL H nx 2 aW (.slice base es.length ec) es)(ng:Rd H pb [.int .i64 n,.slice base es.length ec,.slice (some ⟨ob,0,some 1⟩) m oc])(qk:pb<nx)(si:ob<nx)(hg:GS H (pb+1) nx ob (iz es m (2*es.length))) :
  WF A f [.pointer (some ⟨pb,0,none⟩),.int .i64 (s:Int)] H nx λv H' nx'=>∃ov bv fv lv xs,v=.agg #[ov,bv,fv,lv]/\lS H' nx nx' ov xs/\(∀w:Nat,(w:Int)∈xs↔Reach es s w)/\(∀x∈xs,∃q:Nat,x=(q:Int)/\q<m)/\xs.length<=m/\aq H H' nx/\nx<=nx':=by
 have cH:=hm.2.1;subst iL;refine WF.enter (hh _ _ _) hf ?_
 repeat' (first|refine aE ?_|fail)
 have bF:aq H (aC H nx [.slice none 0 0,.slice none 0 0,.slice none 0 0,.slice none 0 0]) nx:=aq.refl.set (au _);have af1:=bF.rd qk ng
 skip
 refine WO.cn rfl ?_;refine(MQ ze p6 G4 q9 (m:=m) V hs).of ?_;rintro _ H1 aQ ⟨qb,bb,bc,fb,fc,rfl,g1,g2,g3,g4,g5,g6,g7,bt⟩
 repeat' (first|refine aE ?_|fail)
 refine WC.sub aX (bfO (rb:=nx) (tb:=aQ) (lo:=nx+1) (Hs:=aC H nx [.slice none 0 0,.slice none 0 0,.slice none 0 0,.slice none 0 0]) (ov:=.slice (some ⟨qb,0,some 1⟩) 1 (2*1+1)) (xs:=[(s:Int)]) (by_:=List.replicate m (-1)) (far:=(List.replicate m (-1)).set s 0) (bb:=bb) (fb:=fb) (bc:=bc) (fc:=fc) oZ jF sk lT hm rfl ((he.same bF).up (cE _)) af1 V V
  (hg.frame (by rw[ak,aw V]) (λb _ hb=>by rw[ak,aw V]) (cE _)) ((bt.set V).set V)
  ⟨aj,⟨qb,_,_,rfl,g4,V,ay V (ay V g1),rfl,(by show 1<=aF (2*1+1);decide),rfl⟩,ay V (ay V g2),ay V (ay V g3),by simp,by simp,λe=>by cases e;omega,λe=>by cases e;omega,λe=>by cases e;omega,g6,g7,V,V⟩ (Bf.start hs)
  (λσ H3 bW ov3 xs3 by3 ah1 hσ de ts3 bf3 j8=>?_))
 refine kW (lO (WC.sub hσ ?_));have uh:ah H3 (at_ nx)=some (.cells [.slice none 0 0,.slice none 0 0,.slice none 0 0,.slice none 0 0]):=(de nx V).trans aj;have htR:Rd H3 aQ _:=.inl ts3.rd;have mK:=ts3.ord;obtain⟨ob3,oc3,ah2,acv,_⟩:=mK;have d6:=ts3.d6;have af2:=ts3.ord;rw[acv]at htR
 repeat' (first|refine aE ?_|fail)
 refine kA rfl aj rfl ⟨ov3,_,_,_,xs3,by rw[acv];rfl,?_,λw=>bf3.done,λx hx=>?_,?_,λb hb=>?_,V⟩
 ·obtain⟨b,c,cs,e,h1,h2,h3,h4⟩:=af2;exact⟨b,c,cs,e,V,h2,ay V h3,h4⟩
 ·obtain⟨q,q1,q2,_⟩:=bf3.Py x hx;exact⟨q,q1,q2⟩
 ·have:=bf3.QT;omega
 ·rw[ak,aw V,de b V,ak,aw V]
end
section
variable {A:aN}{H H':Heap}{nx nx':Nat}{σ:aR}{L:List Value}{Q:cw}
def AN(c:List Int)(N:Int)(l:List Int):List Int:=l.foldl (λc x=>c.set x.toNat N) c
theorem Rg{c l:List Int}{N x:Int}{k:Nat}(h:l[k]?=some x):AN c N (l.take (k+1))=(AN c N (l.take k)).set x.toNat N:=by
 unfold AN;rw[List.take_add_one,h,Hc];rfl
theorem Dm{N:Int}:∀{l c:List Int},(AN c N l).length=c.length:=by
 intro l
 induction l with
 | nil=>intro c;rfl
 | cons x l ih=>
  intro c;show (AN (c.set x.toNat N) N l).length=_;rw[ih,iq]
theorem Y6{N:Int}(hN:0<=N):∀{l c:List Int} {w:Nat},(∀x∈l,∃q:Nat,x=(q:Int)/\q<c.length)->(Mk (AN c N l) w↔Mk c w\/(w:Int)∈l):=by
 intro l
 induction l with
 | nil=>intro c w _;exact⟨.inl,λh=>by rcases h with h|h;exact h;cases h⟩
 | cons x l ih=>
  intro c w hl;obtain⟨q,rfl,hq⟩:=hl x (by simp);show Mk (AN (c.set (q:Int).toNat N) N l) w↔_;rw[eE,ih (λy hy=>by rw[iq];exact hl y (by simp[hy])),Mk.set hq hN,dT];constructor
  ·rintro((rfl|h)|h)
   ·exact .inr (.inl rfl)
   ·exact .inl h
   ·exact .inr (.inr h)
  ·rintro(h|h|h)
   ·exact .inl (.inr h)
   ·exact .inl (.inl V)
   ·exact .inr h
theorem wpI{m cb lo N v pb cc:Nat}{nv ov:Value}{c xs:List Int}{Hs:Heap}{nxb:Nat}(hN:N<=1048576)(kI:c.length=m)(hx:∀x∈xs,∃q:Nat,x=(q:Int)/\q<m)(Y7:xs.length<=1048576)(hc:aB H cb c)(hs:aq Hs H lo)(vF:lo<=cb)(LC:cb<nxb)(sQ:nxb<=nx)(st:lS H nxb nx ov xs)(bq:∀σ H' nx',bD [(S1,nv),(S5,.pointer (some ⟨pb,0,none⟩)),(S6,.slice (some ⟨cb,0,some 1⟩) m cc),(S7,.int .i64 ((N:Nat):Int)),(mg,.int .i64 ((m:Nat):Int)),(ky,.int .i64 ((v:Nat):Int))] σ->aB H' cb (AN c (N:Int) xs)->aq Hs H' lo->nx<=nx'->Q (.exit 2) σ H' nx') :
  WC A (.loop X0) [(S1,nv),(S5,.pointer (some ⟨pb,0,none⟩)),(S6,.slice (some ⟨cb,0,some 1⟩) m cc),(S7,.int .i64 ((N:Nat):Int)),(mg,.int .i64 ((m:Nat):Int)),(ky,.int .i64 ((v:Nat):Int)),(Qa,ov),(CZ,.int .i64 ((xs.length:Nat):Int)),(ND,.int .i64 0)] H nx Q:=by
 refine WC.loop (α:=Nat) (λk=>[(S1,nv),(S5,.pointer (some ⟨pb,0,none⟩)),(S6,.slice (some ⟨cb,0,some 1⟩) m cc),(S7,.int .i64 ((N:Nat):Int)),(mg,.int .i64 ((m:Nat):Int)),(ky,.int .i64 ((v:Nat):Int)),(Qa,ov),(CZ,.int .i64 ((xs.length:Nat):Int)),(ND,.int .i64 ((k:Nat):Int))])
  (λk H' nx'=>k<=xs.length/\nx<=nx'/\aB H' cb (AN c (N:Int) (xs.take k))/\aq Hs H' lo/\lS H' nxb nx' ov xs) (λk=>xs.length-k)
  ?_ 0 aX ⟨bS _,au _,hc,hs,st⟩
 rintro k H1 aQ ⟨hk,cH,lZ,bt,ll⟩;have KK:ah H1 (at_ cb)=some (.cells ((AN c (N:Int) (xs.take k)).map (.int .i64))):=lZ;have hlen:(AN c (N:Int) (xs.take k)).length=m:=by rw[Dm];exact kI
 unfold X0
 repeat' (first|refine aE ?_|(refine bJ ?_ ?_<;>intro h<;>(try simp only[aL]at h))|fail)
 ·have bQ:k<xs.length:=V;have gY:=aM bQ;obtain⟨w,hw,IN⟩:=hx xs[k] (jE bQ);rw[hw]at gY;obtain⟨qb,qc,qcs,rfl,hq0,vR,hqr,hqx⟩:=ll.cell gY;have hqR:Rd H1 qb _:=.inl hqr;have bO:=Rg (c:=c) (N:=(N:Int)) gY;rw[eE]at bO
  repeat' (first|refine aE ?_|fail)
  refine⟨k+1,V,.cons rfl aX,V,V,?_,bt.set V,ll.own (λb hb=>by cases hb;rw[ak,aw V]) (au _)⟩;rw[bO];unfold aB;rw[aj,List.map_set,Nat.zero_add,Nat.mul_one]
 ·have:k=xs.length:=V;subst this;rw[iJ]at lZ;exact bq _ _ _ aX lZ bt cH
theorem wpO{n:Int}{m cb lo pb ob oc cc:Nat}{nv:Value}{es:List Ed}{base:Option Addr}{ec:Nat}{c:List Int}{Hs:Heap}(UI:A.funcs 91=some lQ)(Dn:zhN A 91)(oZ:A.funcs 113=some yI)(jF:zhN A 113)(sk:A.funcs 114=some rz)(lT:zhN A 114)(ze:A.funcs 112=some we)(p6:zhN A 112)(G4:A.funcs 90=some kY)(q9:zhN A 90)(hm:kK n es)(iL:n=(m:Int))(he:bL Hs lo 2 aW (.slice base es.length ec) es)(ng:Rd Hs pb [.int .i64 n,.slice base es.length ec,.slice (some ⟨ob,0,some 1⟩) m oc])(qk:pb<lo)(si:ob<lo)(hg:GS Hs (pb+1) lo ob (iz es m (2*es.length)))(kI:c.length=m)(SI:∀w,w<m->(Mk c w↔Old es 0 w))(hc:aB H cb c)(hs:aq Hs H lo)(vF:lo<=cb)(LC:cb<nx)(bq:∀σ H' nx',bD [(S6,.slice (some ⟨cb,0,some 1⟩) m cc),(S7,.int .i64 ((cy es m:Nat):Int))] σ->aq Hs H' lo->nx<=nx'->Q (.exit 0) σ H' nx') :
  WC A (.loop P9) [(S1,nv),(S5,.pointer (some ⟨pb,0,none⟩)),(S6,.slice (some ⟨cb,0,some 1⟩) m cc),(S7,.int .i64 0),(mg,.int .i64 ((m:Nat):Int)),(ky,.int .i64 0)] H nx Q:=by
 have cH:=hm.2.1;refine WC.loop (α:=Nat×List Int) (λk=>[(S1,nv),(S5,.pointer (some ⟨pb,0,none⟩)),(S6,.slice (some ⟨cb,0,some 1⟩) m cc),(S7,.int .i64 ((cy es k.1:Nat):Int)),(mg,.int .i64 ((m:Nat):Int)),(ky,.int .i64 ((k.1:Nat):Int))])
  (λk H' nx'=>k.1<=m/\nx<=nx'/\aB H' cb k.2/\aq Hs H' lo/\k.2.length=m/\∀w,w<m->(Mk k.2 w↔Old es k.1 w)) (λk=>m-k.1)
  ?_ (0,c) aX ⟨bS _,au _,hc,hs,kI,SI⟩
 rintro⟨s,c1⟩ H1 aQ ⟨hk,jY,lZ,bt,sj,BL⟩;simp only at hk lZ sj BL ⊢;have NK:=lq (es:=es) (k:=s);have KK:ah H1 (at_ cb)=some (.cells (c1.map (.int .i64))):=lZ;subst iL;unfold P9
 repeat' (first|refine aE ?_|(refine bJ ?_ ?_<;>intro h<;>(try simp only[aL]at h))|fail)
 ·have pB:s<m:=V;have oN:=aM (show s<c1.length by omega);generalize c1[s]=x at oN;have DQ:=aB.cell oN
  repeat' (first|refine aE ?_|(refine bJ ?_ ?_<;>intro h<;>(try simp only[aL]at h))|fail)
  ·have ho:Old es s s:=(BL s pB).1 ⟨x,oN,V⟩;refine⟨(s+1,c1),by show m-(s+1)<m-s;omega,.cons rfl (.cons rfl (.cons rfl (.cons ?_ (.cons rfl (.cons rfl (.nil _)))))),by show s+1<=m;omega,V,lZ,bt,sj,λw hw=>by rw[Old.same ho];exact BL w hw⟩;show some _=some _;rw[jZ ho]
  ·have gu:¬Old es s s:=λho=>Mk.not oN V ((BL s pB).2 ho)
   refine WO.cn rfl ?_;refine(tQ UI Dn oZ jF sk lT ze p6 G4 q9 hm rfl pB ((he.same bt).up V) (bt.rd qk ng) V V (hg.frame (bt ob si) (λb _ hb=>bt b hb) V)).of ?_;rintro _ H2 nx2 ⟨ov,bv,fv,lv,xs,rfl,st,hxr,Y7,V6,bN,fg⟩;have vE:aB H2 cb c1:=(bN cb V).trans lZ;have p7:aq Hs H2 lo:=bt.trans bN V;obtain⟨qb,qc,qcs,rfl,bO⟩:=id st
   repeat' (first|refine aE ?_|fail)
   refine WC.sub aX (wpI (v:=s) (pb:=pb) (nxb:=aQ) V sj Y7 V vE p7 vF V V st (λσ H3 bW hσ q8 de j8=>?_));refine kW (lO (WC.sub hσ ?_))
   repeat' (first|refine aE ?_|fail)
   refine⟨(s+1,AN c1 ((cy es s:Nat):Int) xs),by show m-(s+1)<m-s;omega,.cons rfl (.cons rfl (.cons rfl (.cons ?_ (.cons rfl (.cons rfl (.nil _)))))),by show s+1<=m;omega,V,q8,de,by show (AN _ _ _).length=m;rw[Dm];exact sj,λw hw=>?_⟩
   ·show some _=some _;rw[gJ gu]
   ·show Mk (AN c1 _ xs) w↔_;rw[Y6 V (λy hy=>by rw[sj];exact Y7 y hy),Old.succ,BL w hw,hxr w]
 ·have:s=m:=V;subst this;exact bq _ _ _ aX bt jY
theorem F7{f:FuncId}(hf:A.funcs f=some xk)(hh:zhN A f)(NH:A.funcs 53=some vZ)(wN:zhN A 53)(h78:A.funcs 89=some Qf)(Rh:zhN A 89)(UI:A.funcs 91=some lQ)(Dn:zhN A 91)(oZ:A.funcs 113=some yI)(jF:zhN A 113)(sk:A.funcs 114=some rz)(lT:zhN A 114)(ze:A.funcs 112=some we)(p6:zhN A 112)(G4:A.funcs 90=some kY)(q9:zhN A 90){n:Int}{m:Nat}{ev:Value}{es:List Ed}(hm:kK n es)(iL:n=(m:Int))(he:bL H nx 2 aW ev es) :
  WF A f [.agg #[.int .i64 n,ev]] H nx λv H' nx'=>∃u,v=oneOf [u,.int .i64 ((cy es m:Nat):Int),.int .i64 0]/\aq H H' nx/\nx<=nx':=by
 obtain⟨base,ec,rfl⟩:=he.form;have cH:=hm.2.1;subst iL;refine WF.enter (hh _ _ _) hf ?_
 repeat' (first|refine aE ?_|fail)
 have bF:aq H (aC H nx [.int .i64 (m:Int),.slice base es.length ec]) nx:=aq.refl.set (au _);refine WO.cn rfl ?_;refine(qC NH wN ((he.same bF).up (cE _))).of ?_;rintro _ H1 aQ ⟨rfl,bt,jY⟩;rw[fB hm];have bu:aq H H1 nx:=bF.trans bt V;have dS:Rd H1 nx [.int .i64 (m:Int),.slice base es.length ec]:=bt.rd V Rd.self
 repeat' (first|refine aE ?_|fail)
 refine WO.cn rfl ?_;refine(F1 h78 Rh hm rfl ((he.same bu).up V)).of ?_;rintro _ H2 nx2 ⟨ob,oc,pb,rfl,uj,Y1,Rc,Y8,ng,hg,bN,fg⟩;have bV:aq H H2 nx:=bu.trans bN V;have k9:Rd H2 nx [.int .i64 (m:Int),.slice base es.length ec]:=bN.rd V dS
 repeat' (first|refine aE ?_|fail)
 refine WO.cn rfl ?_;refine(mJ G4 q9 (m:=m) (x:=-1) V).of ?_;rintro _ H3 bW ⟨cb,cc,rfl,zS,Rb,F5,KK,de⟩
 repeat' (first|refine aE ?_|fail)
 refine WC.sub aX (wpO (lo:=nx2) (Hs:=H2) (c:=List.replicate m (-1)) UI Dn oZ jF sk lT ze p6 G4 q9 hm rfl ((he.same bV).up V) ng Y8 V hg (by simp) (λw hw=>⟨λ⟨x,h1,h2⟩=>by rw[mN,aJ hw]at h1;cases h1;omega,λh=>(Old.zero h).elim⟩) KK de Rb F5 (λσ H4 dA hσ fA oO=>?_));refine kW (lO (WC.sub hσ ?_))
 repeat' (first|refine aE ?_|fail)
 exact aD (vs:=[_,_,_]) rfl ⟨_,rfl,bV.trans fA V,V⟩
end
section
variable {A:aN}{H H':Heap}{nx nx':Nat}{σ:aR}{L:List Value}{Q:cw}
noncomputable def oy(es:List Ed)(r:List (List Int))(m:Nat):Int:=
 IntKind.i64.wrap (Int.tdiv (((2*cy es m:Nat):Int)-(m:Int)+((es.length:Nat):Int)-(((aP es r).length:Nat):Int)) 2)
theorem F8{f:FuncId}(hf:A.funcs f=some C3)(hh:zhN A f)(h24:A.funcs 28=some tI)(Y9:zhN A 28)(Dl:A.funcs 60=some NF)(ox:zhN A 60)(YZ:A.funcs 58=some u9)(IQ:zhN A 58)(Y0:A.funcs 59=some BD)(IS:zhN A 59)(De:A.funcs 87=some pP)(ou:zhN A 87)(h12:A.funcs 43=some tH)(Q3:zhN A 43)(YO:A.funcs 75=some BB)(II:zhN A 75)(QS:A.funcs 74=some wb)(yU:zhN A 74){n:Int}{m:Nat}{ev rv:Value}{es:List Ed}{r:List (List Int)}(g:dk n es r)(ok:iI (aP es r) (2*es.length))(iL:n=(m:Int))(he:bL H nx 2 aW ev es)(hr:er H nx 1 aZ rv r)(cD:cR r) :
  WF A f [.agg #[.int .i64 n,ev],rv] H nx λv H' nx'=>v=.int .i64 (oy es r m)/\aq H H' nx/\nx<=nx':=by
 have hm:=g.may;obtain⟨m0,m1,m2,_⟩:=g.may;obtain⟨base,ec,rfl⟩:=he.form;obtain⟨cN,rc,rfl⟩:=hr.form;subst iL;refine WF.enter (hh _ _ _) hf ?_
 repeat' (first|refine aE ?_|fail)
 have bF:aq H (aC H nx [.int .i64 (m:Int),.slice base es.length ec]) nx:=aq.refl.set (au _);refine WO.cn rfl ?_;refine(F4 h24 Y9 Dl ox YZ IQ Y0 IS De ou hm rfl ((he.same bF).up (cE _))).of ?_;rintro _ H1 aQ ⟨u,rfl,bt,cH⟩;have bu:aq H H1 nx:=bF.trans bt V;have dS:Rd H1 nx [.int .i64 (m:Int),.slice base es.length ec]:=bt.rd V Rd.self;have NK:=lq (es:=es) (k:=m);have Q1:=ok.YQ
 repeat' (first|refine aE ?_|fail)
 refine WO.ca rfl ?_;refine(pW h12 Q3 YO II QS yU g ((he.same bu).up V) ((hr.same bu).up V) cD V).of ?_;rintro fv H2 nx2 ⟨nx0,yz,fg,hL,bN⟩;obtain⟨fb,fc,rfl⟩:=hL.form;have k9:Rd H2 nx [.int .i64 (m:Int),.slice base es.length ec]:=bN.rd V dS;have YH:mc (.slice base es.length ec) (.slice base es.length ec)=true:=by
  obtain⟨Pz,c',q1,q2,_⟩:=he;cases q1;cases base with
  | none=>obtain⟨p1,rfl⟩:=q2 rfl;rw[p1];rfl
  | some a=>simp[mc,ff]
 refine⟨?_,?_⟩
 ·first
   | exact bB.look rfl k9 rfl rfl YH (bB.look rfl k9 rfl rfl (by simp[mc,ff]) .nil)
   | exact bB.look rfl k9 rfl rfl (by simp[mc,ff]) (bB.look rfl k9 rfl rfl YH .nil)
 repeat' (first|refine aE ?_|fail)
 refine WO.n rfl ?_;refine bG.of (Act.Xx rfl rfl (by decide)) ?_
 repeat' (first|refine aE ?_|fail)
 exact aD (vs:=[_]) rfl ⟨rfl,bu.trans bN V,V⟩
theorem IT{f:FuncId}(hf:A.funcs f=some Qg)(hh:zhN A f)(h72:A.funcs 67=some tG)(QX:zhN A 67)(NH:A.funcs 53=some vZ)(wN:zhN A 53)(h73:A.funcs 88=some yH)(QY:zhN A 88)(IH:A.funcs 111=some u7)(yW:zhN A 111)(h56:A.funcs 62=some xk)(af3:zhN A 62)(h78:A.funcs 89=some Qf)(Rh:zhN A 89)(UI:A.funcs 91=some lQ)(Dn:zhN A 91)(oZ:A.funcs 113=some yI)(jF:zhN A 113)(sk:A.funcs 114=some rz)(lT:zhN A 114)(ze:A.funcs 112=some we)(p6:zhN A 112)(G4:A.funcs 90=some kY)(q9:zhN A 90){n:Int}{ev rv:Value}{es:List Ed}{r:List (List Int)}(ok:aH n es r=0->iI (aP es r) (2*es.length))(he:bL H nx 2 aW ev es)(hr:er H nx 1 aZ rv r)(cD:cR r) :
  WF A f [.agg #[.int .i64 n,ev],rv] H nx λv H' nx'=>∃x,v=oneOf [x,.int .i64 (aH n es r)]/\(aH n es r=0->x=.int .i64 (oy es r n.toNat))/\aq H H' nx/\nx<=nx':=by
 obtain⟨base,ec,rfl⟩:=he.form;obtain⟨cN,rc,rfl⟩:=hr.form;refine WF.enter (hh _ _ _) hf ?_
 repeat' (first|refine aE ?_|fail)
 have bF:aq H (aC H nx [.int .i64 n,.slice base es.length ec]) nx:=aq.refl.set (au _);refine WO.cn rfl ?_;refine(mH h72 NH QX wN ((he.same bF).up (cE _)) ((hr.same bF).up (cE _)) cD).of ?_;rintro _ H1 aQ ⟨rfl,bt,cH⟩;have bu:aq H H1 nx:=bF.trans bt V;have dS:Rd H1 nx [.int .i64 n,.slice base es.length ec]:=bt.rd V Rd.self
 repeat' (first|refine aE ?_|(refine bJ ?_ ?_<;>intro h<;>(try simp only[aL]at h))|fail)
 ·have cG:=h;exact aD (vs:=[_,_]) rfl ⟨_,rfl,λh0=>absurd h0 (by first|exact cG|omega),bu,V⟩
 have heq:=h;have h0:aH n es r=0:=V;have g:=dy h0;have hm:=g.may;obtain⟨m0,m1,m2,_⟩:=g.may;obtain⟨m,rfl⟩:∃m:Nat,n=(m:Int):=⟨n.toNat,V⟩;have Q1:=(ok h0).YQ;have NK:=lq (es:=es) (k:=m);refine WO.cn rfl ?_;refine(F7 h56 af3 NH wN h78 Rh UI Dn oZ jF sk lT ze p6 G4 q9 hm rfl ((he.same bu).up V)).of ?_;rintro _ H2 nx2 ⟨u,rfl,bN,fg⟩;have bV:aq H H2 nx:=bu.trans bN V;have k9:Rd H2 nx [.int .i64 (m:Int),.slice base es.length ec]:=bN.rd V dS
 repeat' (first|refine aE ?_|fail)
 refine WO.ca rfl ?_;refine(sf h73 QY IH yW g ((he.same bV).up V) ((hr.same bV).up V) cD V).of ?_;rintro fv H3 bW ⟨nx0,yz,j8,hL,de⟩;obtain⟨fb,fc,rfl⟩:=hL.form;have MP:Rd H3 nx [.int .i64 (m:Int),.slice base es.length ec]:=de.rd V k9;have YH:mc (.slice base es.length ec) (.slice base es.length ec)=true:=by
  obtain⟨Pz,c',q1,q2,_⟩:=he;cases q1;cases base with
  | none=>obtain⟨p1,rfl⟩:=q2 rfl;rw[p1];rfl
  | some a=>simp[mc,ff]
 refine⟨?_,?_⟩
 ·first
   | exact bB.look rfl MP rfl rfl YH (bB.look rfl MP rfl rfl (by simp[mc,ff]) .nil)
   | exact bB.look rfl MP rfl rfl (by simp[mc,ff]) (bB.look rfl MP rfl rfl YH .nil)
 repeat' (first|refine aE ?_|fail)
 refine WO.n rfl ?_;refine bG.of (Act.Xx rfl rfl (by decide)) ?_
 repeat' (first|refine aE ?_|fail)
 rw[h0];exact aD (vs:=[_,_]) rfl ⟨_,rfl,λ_=>rfl,bV.trans de V,V⟩
end
section
variable {A:aN}{H H':Heap}{nx nx':Nat}{σ:aR}{L:List Value}{Q:cw}
noncomputable def dm(n:Int)(es:List Ed)(r:List (List Int)):Int:=if aH n es r=0 then(if oy es r n.toNat=0 then 0 else 5)else aH n es r
theorem F9{f:FuncId}(hf:A.funcs f=some J8)(hh:zhN A f)(h49:A.funcs 56=some Qe)(af4:zhN A 56)(h22:A.funcs 26=some T4)(YJ:zhN A 26)(h50:A.funcs 57=some C3)(af5:zhN A 57)(h24:A.funcs 28=some tI)(Y9:zhN A 28)(Dl:A.funcs 60=some NF)(ox:zhN A 60)(YZ:A.funcs 58=some u9)(IQ:zhN A 58)(Y0:A.funcs 59=some BD)(IS:zhN A 59)(De:A.funcs 87=some pP)(ou:zhN A 87)(h12:A.funcs 43=some tH)(Q3:zhN A 43)(YO:A.funcs 75=some BB)(II:zhN A 75)(QS:A.funcs 74=some wb)(yU:zhN A 74){n:Int}{ev rv:Value}{es:List Ed}{r:List (List Int)}(ok:aH n es r=0->iI (aP es r) (2*es.length))(he:bL H nx 2 aW ev es)(hr:er H nx 1 aZ rv r)(cD:cR r) :
  WF A f [.agg #[.int .i64 n,ev],rv] H nx λv H' nx'=>v=.int .i64 (dm n es r)/\aq H H' nx/\nx<=nx':=by
 obtain⟨base,ec,rfl⟩:=he.form;obtain⟨cN,rc,rfl⟩:=hr.form;refine WF.enter (hh _ _ _) hf ?_
 repeat' (first|refine aE ?_|fail)
 have bF:aq H (aC H nx [.int .i64 n,.slice base es.length ec]) nx:=aq.refl.set (au _);refine WO.cn rfl ?_;refine(MB h49 h22 De af4 YJ ou ((he.same bF).up (cE _)) ((hr.same bF).up (cE _)) cD).of ?_;rintro _ H1 aQ ⟨rfl,bt,cH⟩;have bu:aq H H1 nx:=bF.trans bt V;have dS:Rd H1 nx [.int .i64 n,.slice base es.length ec]:=bt.rd V Rd.self;by_cases h0:aH n es r=0
 ·have g:=dy h0;obtain⟨m0,m1,m2,_⟩:=g.may;obtain⟨m,rfl⟩:∃m:Nat,n=(m:Int):=⟨n.toNat,V⟩;have hp:dm (m:Int) es r=if oy es r m=0 then 0 else 5:=by unfold dm;rw[aJ h0];rfl
  rw[h0]
  repeat' (first|refine aE ?_|(refine bJ ?_ ?_<;>intro h<;>(try simp only[aL]at h))|fail)
  ·refine WO.cn rfl ?_;refine(F8 h50 af5 h24 Y9 Dl ox YZ IQ Y0 IS De ou h12 Q3 YO II QS yU g (ok h0) rfl ((he.same bu).up V) ((hr.same bu).up V) cD).of ?_;rintro _ H2 nx2 ⟨rfl,bN,fg⟩;have bV:aq H H2 nx:=bu.trans bN V
   repeat' (first|refine aE ?_|(refine bJ ?_ ?_<;>intro h<;>(try simp only[aL]at h))|fail)
   ·have cG:=h;refine aD (vs:=[_]) rfl ⟨?_,bV,V⟩;rw[hp,aw (by first|exact cG|omega)];rfl
   ·have cG:=h;refine aD (vs:=[_]) rfl ⟨?_,bV,V⟩;rw[hp,aJ V];rfl
  ·omega
 ·have hp:dm n es r=aH n es r:=by unfold dm;rw[aw h0]
  repeat' (first|refine aE ?_|(refine bJ ?_ ?_<;>intro h<;>(try simp only[aL]at h))|fail)
  ·omega
  ·exact aD (vs:=[_]) rfl ⟨by rw[hp];rfl,bu,V⟩
end
section
theorem KN{n:Int}{es:List Ed}{r:List (List Int)}(g:dk n es r)(i:Nat):∃x:Int,i<2*es.length->∃v k,v<r.length/\k<eZ r v/\jh r v k=((aU i:Nat):Int)/\x=jh r v ((k+1)%eZ r v):=by
 by_cases hi:i<2*es.length
 ·obtain⟨v,k,hv,hk,e⟩:=g.all (aU i) (bM hi);exact⟨_,λ_=>⟨v,k,hv,hk,e,rfl⟩⟩
 ·exact⟨0,λh=>absurd h hi⟩
theorem qG{n:Int}{es:List Ed}{r:List (List Int)}(g:dk n es r):∃l,gi es r l:=by
 refine⟨(List.range (2*es.length)).map λi=>Classical.choose (KN g i),by simp,λv k hv hk=>?_⟩;obtain⟨g1,g2,_⟩:=g.ok v k hv hk;have hi:aU (jh r v k).toNat<2*es.length:=bM V;rw[eD,wz hi];obtain⟨v',k',lY,iS,e,hx⟩:=Classical.choose_spec (KN g (aU (jh r v k).toNat)) hi;rw[cI]at e;obtain⟨rfl,rfl⟩:=g.inj v' k' v k lY iS hv hk V;exact congrArg some hx
theorem iN{n:Int}{es:List Ed}{r:List (List Int)}(h:aH n es r=0):iI (aP es r) (2*es.length):=by
 have g:=dy h;obtain⟨l,hl⟩:=qG g;exact IJ g hl
end
section
theorem Old.root{es:List Ed}{k w:Nat}(h:Old es k w):∃r,r<k/\¬Old es r r/\Reach es r w:=by
 induction k with
 | zero=>exact(Old.zero h).elim
 | succ k ih=>
  by_cases h0:Old es k w
  ·obtain⟨r,h1,h2,h3⟩:=ih h0;exact⟨r,V,h2,h3⟩
  ·have h1:Reach es k w:=(Old.succ.1 h).resolve_left h0;refine⟨k,V,λ⟨t,h2,h3⟩=>h0 ⟨t,h2,h3.trans h1⟩,h1⟩
theorem Ri{es:List Ed}{r r' w:Nat}(h:¬Old es r r)(h':¬Old es r' r')(h1:Reach es r w)(h2:Reach es r' w):r=r':=by
 rcases Nat.lt_trichotomy r r' with e|e|e
 ·exact(h' ⟨r,e,h1.trans h2.symm⟩).elim
 ·exact e
 ·exact(h ⟨r',e,h2.trans h1.symm⟩).elim
structure sG(es:List Ed)(m s:Nat)(c:List Int):Prop where
 len:c.length=m
 old:∀{w r},w<m->r<s->¬Old es r r->Reach es r w->c[w]?=some ((cy es r:Nat):Int)
 new:∀{w},w<m->¬Old es s w->c[w]?=some (-1)
theorem sG.start{es:List Ed}{m:Nat}:sG es m 0 (List.replicate m (-1)):=
 ⟨by simp,λ_ h=>absurd h V,λh _=>by rw[mN,aJ h]⟩
theorem sG.marked{es:List Ed}{m s w:Nat}{c:List Int}(h:sG es m s c)(hw:w<m):Mk c w↔Old es s w:=by
 constructor
 ·rintro⟨x,h1,h2⟩;apply Classical.byContradiction;intro h3;rw[h.new hw h3]at h1;cases h1;omega
 ·intro h1;obtain⟨r,h2,h3,h4⟩:=h1.root;exact⟨_,h.old hw h2 h3 h4,V⟩
theorem sG.same{es:List Ed}{m s:Nat}{c:List Int}(h:sG es m s c)(ho:Old es s s):sG es m (s+1) c:=
 ⟨h.len,λ{w r} hw hr hn tR=>h.old hw (Nat.lt_of_le_of_ne V (λe=>by subst e;exact hn ho)) hn tR,λhw hn=>h.new hw (λh1=>hn ((Old.same ho).2 h1))⟩
theorem sG.next{es:List Ed}{m s:Nat}{c c':List Int}(h:sG es m s c)(gu:¬Old es s s)(hl:c'.length=m)(h1:∀w,w<m->Reach es s w->c'[w]?=some ((cy es s:Nat):Int))(h2:∀w,w<m->¬Reach es s w->c'[w]?=c[w]?):sG es m (s+1) c':=by
 refine⟨hl,λ{w r} hw hr hn tR=>?_,λ{w} hw hn=>?_⟩
 ·by_cases e:r=s
  ·subst e;exact h1 w hw tR
  ·rw[h2 w hw (λh3=>e (Ri hn gu tR h3))];exact h.old hw V hn tR
 ·rw[Old.succ]at hn;rw[h2 w hw (λh3=>hn (.inr h3))];exact h.new hw (λh3=>hn (.inl h3))
theorem Za{N:Int}:∀{l c:List Int} {w:Nat},w<c.length->(∀x∈l,∃q:Nat,x=(q:Int)/\q<c.length)->(w:Int)∈l->(AN c N l)[w]?=some N:=by
 intro l
 induction l with
 | nil=>intro c w _ _ h;cases h
 | cons x l ih=>
  intro c w hw hl h;obtain⟨q,rfl,hq⟩:=hl x (by simp);show (AN (c.set (q:Int).toNat N) N l)[w]?=_;rw[eE];by_cases hm:(w:Int)∈l
  ·exact ih (by rw[iq];exact hw) (λy hy=>by rw[iq];exact hl y (by simp[hy])) hm
  ·have e:w=q:=by
    rcases dT.1 h with h1|h1
    ·omega
    ·exact(hm h1).elim
   subst e;clear ih h;have:∀{l c:List Int},(w:Int)∉l->(∀x∈l,∃q:Nat,x=(q:Int))->(AN c N l)[w]?=c[w]?:=by
    intro l
    induction l with
    | nil=>intro c _ _;rfl
    | cons y l ih=>
     intro c h1 h2;obtain⟨p,rfl⟩:=h2 y (by simp);show (AN (c.set (p:Int).toNat N) N l)[w]?=_;rw[eE,ih (λh3=>h1 (by simp[h3])) (λz hz=>h2 z (by simp[hz])),fZ,aw (λe=>h1 (by simp[e]))]
   rw[this hm (λy hy=>by obtain⟨p,h1,_⟩:=hl y (by simp[hy]);exact⟨p,h1⟩),fZ,aJ rfl,aJ hw]
theorem UJ{N:Int}{w:Nat}:∀{l c:List Int},(w:Int)∉l->(∀x∈l,∃q:Nat,x=(q:Int))->(AN c N l)[w]?=c[w]?:=by
 intro l
 induction l with
 | nil=>intro c _ _;rfl
 | cons y l ih=>
  intro c h1 h2;obtain⟨p,rfl⟩:=h2 y (by simp);show (AN (c.set (p:Int).toNat N) N l)[w]?=_;rw[eE,ih (λh3=>h1 (by simp[h3])) (λz hz=>h2 z (by simp[hz])),fZ,aw (λe=>h1 (by simp[e]))]
end
section
variable {A:aN}{H H':Heap}{nx nx':Nat}{σ:aR}{L:List Value}{Q:cw}
theorem af6{n:Int}{m cb lo pb ob oc cc:Nat}{nv:Value}{es:List Ed}{base:Option Addr}{ec:Nat}{c:List Int}{Hs:Heap}(UI:A.funcs 91=some lQ)(Dn:zhN A 91)(oZ:A.funcs 113=some yI)(jF:zhN A 113)(sk:A.funcs 114=some rz)(lT:zhN A 114)(ze:A.funcs 112=some we)(p6:zhN A 112)(G4:A.funcs 90=some kY)(q9:zhN A 90)(hm:kK n es)(iL:n=(m:Int))(he:bL Hs lo 2 aW (.slice base es.length ec) es)(ng:Rd Hs pb [.int .i64 n,.slice base es.length ec,.slice (some ⟨ob,0,some 1⟩) m oc])(qk:pb<lo)(si:ob<lo)(hg:GS Hs (pb+1) lo ob (iz es m (2*es.length)))(SI:sG es m 0 c)(hc:aB H cb c)(hs:aq Hs H lo)(vF:lo<=cb)(LC:cb<nx)(bq:∀σ H' nx' c',bD [(S6,.slice (some ⟨cb,0,some 1⟩) m cc),(S7,.int .i64 ((cy es m:Nat):Int))] σ->aB H' cb c'->sG es m m c'->aq Hs H' lo->nx<=nx'->Q (.exit 0) σ H' nx') :
  WC A (.loop P9) [(S1,nv),(S5,.pointer (some ⟨pb,0,none⟩)),(S6,.slice (some ⟨cb,0,some 1⟩) m cc),(S7,.int .i64 0),(mg,.int .i64 ((m:Nat):Int)),(ky,.int .i64 0)] H nx Q:=by
 have cH:=hm.2.1;refine WC.loop (α:=Nat×List Int) (λk=>[(S1,nv),(S5,.pointer (some ⟨pb,0,none⟩)),(S6,.slice (some ⟨cb,0,some 1⟩) m cc),(S7,.int .i64 ((cy es k.1:Nat):Int)),(mg,.int .i64 ((m:Nat):Int)),(ky,.int .i64 ((k.1:Nat):Int))])
  (λk H' nx'=>k.1<=m/\nx<=nx'/\aB H' cb k.2/\aq Hs H' lo/\sG es m k.1 k.2) (λk=>m-k.1)
  ?_ (0,c) aX ⟨bS _,au _,hc,hs,SI⟩
 rintro⟨s,c1⟩ H1 aQ ⟨hk,jY,lZ,bt,MT⟩;simp only at hk lZ MT ⊢;have sj:=MT.len;have BL:=λw hw=>MT.marked (w:=w) hw
 have NK:=lq (es:=es) (k:=s);have KK:ah H1 (at_ cb)=some (.cells (c1.map (.int .i64))):=lZ;subst iL;unfold P9
 repeat' (first|refine aE ?_|(refine bJ ?_ ?_<;>intro h<;>(try simp only[aL]at h))|fail)
 ·have pB:s<m:=V;have oN:=aM (show s<c1.length by omega);generalize c1[s]=x at oN;have DQ:=aB.cell oN
  repeat' (first|refine aE ?_|(refine bJ ?_ ?_<;>intro h<;>(try simp only[aL]at h))|fail)
  ·have ho:Old es s s:=(BL s pB).1 ⟨x,oN,V⟩;refine⟨(s+1,c1),by show m-(s+1)<m-s;omega,.cons rfl (.cons rfl (.cons rfl (.cons ?_ (.cons rfl (.cons rfl (.nil _)))))),by show s+1<=m;omega,V,lZ,bt,MT.same ho⟩;show some _=some _;rw[jZ ho]
  ·have gu:¬Old es s s:=λho=>Mk.not oN V ((BL s pB).2 ho)
   refine WO.cn rfl ?_;refine(tQ UI Dn oZ jF sk lT ze p6 G4 q9 hm rfl pB ((he.same bt).up V) (bt.rd qk ng) V V (hg.frame (bt ob si) (λb _ hb=>bt b hb) V)).of ?_;rintro _ H2 nx2 ⟨ov,bv,fv,lv,xs,rfl,st,hxr,Y7,V6,bN,fg⟩;have vE:aB H2 cb c1:=(bN cb V).trans lZ;have p7:aq Hs H2 lo:=bt.trans bN V;obtain⟨qb,qc,qcs,rfl,bO⟩:=id st
   repeat' (first|refine aE ?_|fail)
   refine WC.sub aX (wpI (v:=s) (pb:=pb) (nxb:=aQ) V sj Y7 V vE p7 vF V V st (λσ H3 bW hσ q8 de j8=>?_));refine kW (lO (WC.sub hσ ?_))
   repeat' (first|refine aE ?_|fail)
   refine⟨(s+1,AN c1 ((cy es s:Nat):Int) xs),by show m-(s+1)<m-s;omega,.cons rfl (.cons rfl (.cons rfl (.cons ?_ (.cons rfl (.cons rfl (.nil _)))))),by show s+1<=m;omega,V,q8,de,MT.next gu (by rw[Dm];exact sj) (λw hw hr=>Za V (λy hy=>by rw[sj];exact Y7 y hy) ((hxr w).2 hr)) (λw hw hr=>UJ (λh=>hr ((hxr w).1 h)) (λy hy=>by obtain⟨q,h1,_⟩:=Y7 y hy;exact⟨q,h1⟩))⟩
   ·show some _=some _;rw[gJ gu]
 ·have:s=m:=V;subst this;exact bq _ _ _ c1 aX lZ MT bt jY
theorem Dp{f:FuncId}(hf:A.funcs f=some xk)(hh:zhN A f)(NH:A.funcs 53=some vZ)(wN:zhN A 53)(h78:A.funcs 89=some Qf)(Rh:zhN A 89)(UI:A.funcs 91=some lQ)(Dn:zhN A 91)(oZ:A.funcs 113=some yI)(jF:zhN A 113)(sk:A.funcs 114=some rz)(lT:zhN A 114)(ze:A.funcs 112=some we)(p6:zhN A 112)(G4:A.funcs 90=some kY)(q9:zhN A 90){n:Int}{m:Nat}{ev:Value}{es:List Ed}(hm:kK n es)(iL:n=(m:Int))(he:bL H nx 2 aW ev es) :
  WF A f [.agg #[.int .i64 n,ev]] H nx λv H' nx'=>∃b bc c,v=oneOf [.slice (some ⟨b,0,some 1⟩) m bc,.int .i64 ((cy es m:Nat):Int),.int .i64 0]/\m<=aF bc/\nx<=b/\b<nx'/\aB H' b c/\sG es m m c/\aq H H' nx/\nx<=nx':=by
 obtain⟨base,ec,rfl⟩:=he.form;have cH:=hm.2.1;subst iL;refine WF.enter (hh _ _ _) hf ?_
 repeat' (first|refine aE ?_|fail)
 have bF:aq H (aC H nx [.int .i64 (m:Int),.slice base es.length ec]) nx:=aq.refl.set (au _);refine WO.cn rfl ?_;refine(qC NH wN ((he.same bF).up (cE _))).of ?_;rintro _ H1 aQ ⟨rfl,bt,jY⟩;rw[fB hm];have bu:aq H H1 nx:=bF.trans bt V;have dS:Rd H1 nx [.int .i64 (m:Int),.slice base es.length ec]:=bt.rd V Rd.self
 repeat' (first|refine aE ?_|fail)
 refine WO.cn rfl ?_;refine(F1 h78 Rh hm rfl ((he.same bu).up V)).of ?_;rintro _ H2 nx2 ⟨ob,oc,pb,rfl,uj,Y1,Rc,Y8,ng,hg,bN,fg⟩;have bV:aq H H2 nx:=bu.trans bN V;have k9:Rd H2 nx [.int .i64 (m:Int),.slice base es.length ec]:=bN.rd V dS
 repeat' (first|refine aE ?_|fail)
 refine WO.cn rfl ?_;refine(mJ G4 q9 (m:=m) (x:=-1) V).of ?_;rintro _ H3 bW ⟨cb,cc,rfl,zS,Rb,F5,KK,de⟩
 repeat' (first|refine aE ?_|fail)
 refine WC.sub aX (af6 (lo:=nx2) (Hs:=H2) (c:=List.replicate m (-1)) UI Dn oZ jF sk lT ze p6 G4 q9 hm rfl ((he.same bV).up V) ng Y8 V hg sG.start KK de Rb F5 (λσ H4 dA c4 hσ Zb lb4 fA oO=>?_));refine kW (lO (WC.sub hσ ?_))
 repeat' (first|refine aE ?_|fail)
 exact aD (vs:=[_,_,_]) rfl ⟨cb,cc,c4,rfl,zS,V,V,Zb,lb4,bV.trans fA V,V⟩
end
section
variable {A:aN}{H H':Heap}{nx nx':Nat}{σ:aR}{Q:cw}
def Vl(c0:List Int)(N:Int)(c:List Int):Prop:=∀w,c[w]?=c0[w]?\/(c[w]?=some N/\¬Mk c0 w)
theorem Vl.set{c0 c:List Int}{N x:Int}{w:Nat}(h:Vl c0 N c)(hw:c[w]?=some x)(hx:x<0):Vl c0 N (c.set w N):=by
 intro u;have hl:w<c.length:=(cS.1 hw).1;by_cases e:w=u
 ·subst e;right;rw[fZ,aJ rfl,aJ hl];refine⟨rfl,λ⟨y,h1,h2⟩=>?_⟩;rcases h w with h3|h3
  ·rw[<-h3,hw]at h1;cases h1;omega
  ·exact h3.2 ⟨y,h1,h2⟩
 ·rw[fZ,aw e];exact h u
theorem Vl.AP{n:Int}{es:List Ed}{m s:Nat}{c c':List Int}(hl:sG es m s c)(gu:¬Old es s s)(h:Vl c ((cy es s:Nat):Int) c')(kI:c'.length=m)(hd:∀w,w<m->(Mk c' w↔Old es (s+1) w)):sG es m (s+1) c':=by
 refine hl.next gu kI (λw hw hr=>?_) (λw hw hr=>?_)
 ·rcases h w with h1|h1
  ·obtain⟨x,h2,h3⟩:=(hd w hw).2 (Old.succ.2 (.inr hr));rw[h1]at h2;obtain⟨t,h4,h5⟩:=(hl.marked hw).1 ⟨x,h2,h3⟩;exact(gu ⟨t,h4,h5.trans hr.symm⟩).elim
  ·exact h1.1
 ·rcases h w with h1|h1
  ·exact h1
  ·rcases Old.succ.1 ((hd w hw).1 ⟨_,h1.1,V⟩)with h2|h2
   ·exact(h1.2 ((hl.marked hw).2 h2)).elim
   ·exact(hr h2).elim
theorem af7{n:Int}{m nb cb ob nxo s v:Nat}{es:List Ed}{base:Option Addr}{ec cc oc N:Nat}{H0:Heap}{c0 c todo:List Int}{tv:Value}(Dl:A.funcs 60=some NF)(ox:zhN A 60)(hm:kK n es)(iL:n=(m:Int))(he:bL H0 nb 2 aW (.slice base es.length ec) es)(hN:N<=1048576)(hv:v<m)(hs:s<m)(Q8:Mk c v)(ps:PS H0 H nb cb ob nxo n (.slice base es.length ec) es m c)(st:lS H nxo nx tv todo)(hx:nxo<=nx)(iv:Inv es m s (PK es v 0) c todo)(vl:Vl c0 (N:Int) c)(hb:2*left c+todo.length<=2*m+1)(bq:∀σ H' nx' c' y9 tv',bD [(S1,.slice none 0 0),(S2,.slice none 0 0),(S3,.pointer (some ⟨nb,0,none⟩)),(S8,.slice (some ⟨cb,0,some 1⟩) m cc),(S9,.int .i64 ((N:Nat):Int)),(dQ,.slice (some ⟨ob,0,some 1⟩) m oc),(eN,.int .i64 ((s:Nat):Int)),(jg,tv')] σ->
   PS H0 H' nb cb ob nxo n (.slice base es.length ec) es m c'->lS H' nxo nx' tv' y9->Inv es m s (λ_ _=>False) c' y9->Vl c0 (N:Int) c'->2*left c'+y9.length<=2*left c+todo.length->nx<=nx'->Q (.exit 4) σ H' nx') :
  WC A (.loop P1) [(S1,.slice none 0 0),(S2,.slice none 0 0),(S3,.pointer (some ⟨nb,0,none⟩)),(S8,.slice (some ⟨cb,0,some 1⟩) m cc),(S9,.int .i64 ((N:Nat):Int)),(dQ,.slice (some ⟨ob,0,some 1⟩) m oc),(eN,.int .i64 ((s:Nat):Int)),(jg,tv),(ik,.int .i64 ((v:Nat):Int)),(iV,.int .i64 0)] H nx Q:=by
 have dx:=hm.2.2.1;have cH:=hm.2.1;refine WC.loop (α:=Nat×List Int×List Int×Value) (λk=>[(S1,.slice none 0 0),(S2,.slice none 0 0),(S3,.pointer (some ⟨nb,0,none⟩)),(S8,.slice (some ⟨cb,0,some 1⟩) m cc),(S9,.int .i64 ((N:Nat):Int)),(dQ,.slice (some ⟨ob,0,some 1⟩) m oc),(eN,.int .i64 ((s:Nat):Int)),(jg,k.2.2.2),(ik,.int .i64 ((v:Nat):Int)),(iV,.int .i64 ((k.1:Nat):Int))])
  (λk H' nx'=>k.1<=(dY es (2*es.length) v).length/\nx<=nx'/\PS H0 H' nb cb ob nxo n (.slice base es.length ec) es m k.2.1/\lS H' nxo nx' k.2.2.2 k.2.2.1/\Inv es m s (PK es v k.1) k.2.1 k.2.2.1/\Mk k.2.1 v/\Vl c0 (N:Int) k.2.1/\2*left k.2.1+k.2.2.1.length<=2*left c+todo.length) (λk=>(dY es (2*es.length) v).length-k.1)
  ?_ (0,c,todo,tv) aX ⟨bS _,au _,ps,st,iv,Q8,vl,au _⟩
 rintro⟨k,c1,iA,YU⟩ H1 aQ ⟨hk,jY,kL,ll,za,wO,We,dS⟩;simp only at hk kL ll za wO We dS ⊢;have Di:=nD (es:=es) (k:=2*es.length) (v:=v);obtain⟨us,u,iF,sB,pY,mI⟩:=kL.gs.row (v:=v) (by rw[dG];exact hv);rw[dG]at iF;rw[lp hv]at mI;obtain⟨ub,uc,hu⟩:=jX mI;have Q5:Rd H1 ob us:=.inl sB;have o1:=kL.h1;have o2:=kL.h2;have o3:=kL.h3;have fU:=kL.rd;rw[hu]at pY;have kI:=za.len;have KK:ah H1 (at_ cb)=some (.cells (c1.map (.int .i64))):=kL.ci;unfold P1
 repeat' (first|refine aE ?_|(refine bJ ?_ ?_<;>intro h<;>(try simp only[aL]at h))|fail)
 ·have bQ:k<(dY es (2*es.length) v).length:=V;obtain⟨q,hq,KI,hqe,IL⟩:=Dk bQ;obtain⟨rb,rc,vd,acq,YV,rX,hrx⟩:=mI.cell hq;rw[hu]at vd;cases vd;have acr:Rd H1 rb _:=.inl rX
  repeat' (first|refine aE ?_|fail)
  refine WO.cn rfl ?_;refine(KC Dl ox ((he.same kL.same).up (show nb<=aQ by omega)) KI V).of ?_;rintro _ H2 nx2 ⟨rfl,bN,fg⟩;have IM:=kL.frame (H2:=H2) (λb hb=>bN b V);have xn:=ll.frame (H':=H2) (nx':=nx2) (λb _ hb=>bN b hb) fg;have afY:ah H2 (at_ cb)=some (.cells (c1.map (.int .i64))):=IM.ci;obtain⟨w,hw,YW⟩:=vj hm (bM KI);have IN:w<m:=V;have IP:MO es v w:=⟨q,KI,hqe,hw⟩;rw[hw]at IL ⊢;have hwr:Old es s w\/Reach es s w:=by
   rcases za.only v wO with h|h
   ·exact .inl (h.wg IP)
   ·exact .inr (.step h IP)
  have oN:=aM (show w<c1.length by omega);generalize c1[w]=x at oN;have DQ:=aB.cell oN;have hwc:w<(c1.map (Value.int .i64)).length:=by rw[ja];omega
  repeat' (first|refine aE ?_|(refine bJ ?_ ?_<;>intro h<;>(try simp only[aL]at h))|fail)
  ·refine⟨(k+1,c1,iA,YU),by show (dY es (2*es.length) v).length-(k+1)<(dY es (2*es.length) v).length-k;omega,.cons rfl aX,by show k+1<=_;omega,V,IM,xn,za.skip ⟨x,oN,V⟩ (λ_ _ h=>h.next IL.symm),wO,We,dS⟩
  ·refine WO.n rfl ?_;have YX:=IM.mark (v:=w) (x:=((N:Nat):Int));have My:=xn.frame (H':=aC H2 cb ((c1.map (Value.int .i64)).set (0+w*1) (.int .i64 (N:Int)))) (nx':=nx2) (λb hb _=>by rw[ak,aw V]) (au _);have st4:=My.frame (H':=aC (aC H2 cb ((c1.map (Value.int .i64)).set (0+w*1) (.int .i64 (N:Int)))) nx2 [.int .i64 (w:Int)]) (nx':=nx2+1) (λb _ hb=>by rw[ak,aw V]) (cE _);have hlf:=nF oN V (show (0:Int)<=(N:Int) by omega);have Q9:=za.mark IN (show (0:Int)<=(N:Int) by omega) hwr (P':=PK es v (k+1)) (λ_ _ h=>h.next IL.symm);refine bG.Wc (lo:=nxo) rfl rfl Rd.self st4 V (by unfold small;omega) (by unfold small;omega) ?_;intro UF H3 bW j8 NJ YY;have ps4:=YX.frame (H2:=H3) (λb hb=>by rw[YY b hb,ak,aw V])
   repeat' (first|refine aE ?_|fail)
   refine⟨(k+1,c1.set w (N:Int),iA++[(w:Int)],UF),by show (dY es (2*es.length) v).length-(k+1)<(dY es (2*es.length) v).length-k;omega,.cons rfl aX,by show k+1<=_;omega,V,ps4,NJ,Q9,(Mk.set V V).2 (.inr wO),We.set oN V,?_⟩;show 2*left (c1.set w (N:Int))+(iA++[(w:Int)]).length<=_;rw[cm];show _+(iA.length+1)<=_;omega
 ·have:k=(dY es (2*es.length) v).length:=V;subst this;exact bq _ _ _ c1 iA YU aX kL ll (za.none λ_ _ h=>h.none) We dS jY
theorem af8{n:Int}{m nb cb ob nxo s:Nat}{es:List Ed}{base:Option Addr}{ec cc oc N:Nat}{H0:Heap}{c0 c todo:List Int}{tv:Value}(Dl:A.funcs 60=some NF)(ox:zhN A 60)(hm:kK n es)(iL:n=(m:Int))(he:bL H0 nb 2 aW (.slice base es.length ec) es)(hN:N<=1048576)(hs:s<m)(ps:PS H0 H nb cb ob nxo n (.slice base es.length ec) es m c)(st:lS H nxo nx tv todo)(hx:nxo<=nx)(iv:Inv es m s (λ_ _=>False) c todo)(vl:Vl c0 (N:Int) c)(hb:2*left c+todo.length<=2*m+1)(bq:∀σ H' nx' c',bD [(S1,.slice none 0 0),(S2,.slice none 0 0),(S3,.pointer (some ⟨nb,0,none⟩)),(S8,.slice (some ⟨cb,0,some 1⟩) m cc),(S9,.int .i64 ((N:Nat):Int)),(dQ,.slice (some ⟨ob,0,some 1⟩) m oc),(eN,.int .i64 ((s:Nat):Int))] σ->
   PS H0 H' nb cb ob nxo n (.slice base es.length ec) es m c'->Inv es m s (λ_ _=>False) c' []->Vl c0 (N:Int) c'->nx<=nx'->Q (.exit 2) σ H' nx') :
  WC A (.loop Ir) [(S1,.slice none 0 0),(S2,.slice none 0 0),(S3,.pointer (some ⟨nb,0,none⟩)),(S8,.slice (some ⟨cb,0,some 1⟩) m cc),(S9,.int .i64 ((N:Nat):Int)),(dQ,.slice (some ⟨ob,0,some 1⟩) m oc),(eN,.int .i64 ((s:Nat):Int)),(jg,tv)] H nx Q:=by
 have cH:=hm.2.1;refine WC.loop (α:=List Int×List Int×Value) (λk=>[(S1,.slice none 0 0),(S2,.slice none 0 0),(S3,.pointer (some ⟨nb,0,none⟩)),(S8,.slice (some ⟨cb,0,some 1⟩) m cc),(S9,.int .i64 ((N:Nat):Int)),(dQ,.slice (some ⟨ob,0,some 1⟩) m oc),(eN,.int .i64 ((s:Nat):Int)),(jg,k.2.2)])
  (λk H' nx'=>nx<=nx'/\PS H0 H' nb cb ob nxo n (.slice base es.length ec) es m k.1/\lS H' nxo nx' k.2.2 k.2.1/\Inv es m s (λ_ _=>False) k.1 k.2.1/\Vl c0 (N:Int) k.1/\2*left k.1+k.2.1.length<=2*m+1) (λk=>2*left k.1+k.2.1.length)
  ?_ (c,todo,tv) aX ⟨au _,ps,st,iv,vl,hb⟩
 rintro⟨c1,iA,YU⟩ H1 aQ ⟨jY,kL,ll,za,We,dS⟩;simp only at kL ll za We dS ⊢;by_cases cG:iA=[]
 ·subst cG;obtain⟨b,tc,cs,rfl,_⟩:=ll;unfold Ir
  repeat' (first|refine aE ?_|(refine bJ ?_ ?_<;>intro h<;>(try simp only[aL]at h))|fail)
  ·exact absurd h (by simp)
  exact bq _ _ _ c1 aX kL za We jY
 ·obtain⟨xs,x,rfl⟩:∃xs x,iA=xs++[x]:=⟨iA.dropLast,iA.getLast cG,(List.dropLast_concat_getLast cG).symm⟩;obtain⟨v,rfl,_,_⟩:=za.Wd x (by simp);obtain⟨Q9,hv,Q8⟩:=za.pop;obtain⟨b,tc,cs,rfl,PB,hr,bH,xn⟩:=ll.last;have hrR:Rd H1 b cs:=.inl hr;have Ra:cs[0+(xs.length+1-1)*1]?=some (.int .i64 (v:Int)):=bH;rw[cm]at dS;have k9:2*left c1+(xs.length+1)<=2*m+1:=dS;unfold Ir
  repeat' (first|refine aE ?_|(refine bJ ?_ ?_<;>intro h<;>(try simp only[aL]at h))|fail)
  ·refine WC.sub aX (af7 Dl ox hm iL he hN hv hs Q8 kL xn V Q9 We V (λσ H2 nx2 c2 zd UF hσ IM My UG vl3 MP fg=>?_));refine kW (Md ⟨(c2,zd,UF),?_,hσ,V,IM,My,UG,vl3,?_⟩)
   ·show 2*left c2+zd.length<2*left c1+(xs++[(v:Int)]).length;rw[cm];show _<_+(xs.length+1);omega
   ·show 2*left c2+zd.length<=2*m+1;omega
  ·omega
theorem af9{n:Int}{m nb cb ob nxo:Nat}{es:List Ed}{base:Option Addr}{ec cc oc:Nat}{H0:Heap}{c:List Int}(Dl:A.funcs 60=some NF)(ox:zhN A 60)(hm:kK n es)(iL:n=(m:Int))(he:bL H0 nb 2 aW (.slice base es.length ec) es)(ps:PS H0 H nb cb ob nxo n (.slice base es.length ec) es m c)(hx:nxo<=nx)(hc:sG es m 0 c)(bq:∀σ H' nx' c',bD [(S8,.slice (some ⟨cb,0,some 1⟩) m cc),(S9,.int .i64 ((cy es m:Nat):Int))] σ->aB H' cb c'->sG es m m c'->aq H0 H' nb->nx<=nx'->Q (.exit 0) σ H' nx') :
  WC A (.loop P3) [(S1,.slice none 0 0),(S2,.slice none 0 0),(S3,.pointer (some ⟨nb,0,none⟩)),(S8,.slice (some ⟨cb,0,some 1⟩) m cc),(S9,.int .i64 0),(dQ,.slice (some ⟨ob,0,some 1⟩) m oc),(eN,.int .i64 0)] H nx Q:=by
 have cH:=hm.2.1;refine WC.loop (α:=Nat×List Int) (λk=>[(S1,.slice none 0 0),(S2,.slice none 0 0),(S3,.pointer (some ⟨nb,0,none⟩)),(S8,.slice (some ⟨cb,0,some 1⟩) m cc),(S9,.int .i64 ((cy es k.1:Nat):Int)),(dQ,.slice (some ⟨ob,0,some 1⟩) m oc),(eN,.int .i64 ((k.1:Nat):Int))])
  (λk H' nx'=>k.1<=m/\nx<=nx'/\PS H0 H' nb cb ob nxo n (.slice base es.length ec) es m k.2/\sG es m k.1 k.2) (λk=>m-k.1)
  ?_ (0,c) aX ⟨bS _,au _,ps,hc⟩
 rintro⟨s,c1⟩ H1 aQ ⟨hs,jY,kL,MT⟩;simp only at hs kL MT ⊢;have sj:=MT.len;have lZ:=λw hw=>MT.marked (w:=w) hw
 have NK:=lq (es:=es) (k:=s);have o1:=kL.h1;have o2:=kL.h2;have o3:=kL.h3;have fU:=kL.rd;have KK:ah H1 (at_ cb)=some (.cells (c1.map (.int .i64))):=kL.ci;subst iL;unfold P3
 repeat' (first|refine aE ?_|(refine bJ ?_ ?_<;>intro h<;>(try simp only[aL]at h))|fail)
 ·have pB:s<m:=V;have oN:=aM (show s<c1.length by omega);generalize c1[s]=x at oN;have DQ:=aB.cell oN
  repeat' (first|refine aE ?_|(refine bJ ?_ ?_<;>intro h<;>(try simp only[aL]at h))|fail)
  ·have ho:Old es s s:=(lZ s pB).1 ⟨x,oN,V⟩;refine⟨(s+1,c1),by show m-(s+1)<m-s;omega,.cons rfl (.cons rfl (.cons rfl (.cons rfl (.cons ?_ (.cons rfl (.cons rfl (.nil _))))))),by show s+1<=m;omega,V,kL,MT.same ho⟩;show some _=some _;rw[jZ ho]
  ·have gu:¬Old es s s:=λho=>Mk.not oN V ((lZ s pB).2 ho)
   have hlf:=nF oN V (show (0:Int)<=((cy es s:Nat):Int) by omega);have uo:=KJ (c:=c1);have IM:=(kL.frame (H2:=aC H1 aQ [.int .i64 (s:Int)]) (λb hb=>by rw[ak,aw V])).mark (v:=s) (x:=((cy es s:Nat):Int));have xn:=(lS.one (H:=H1) (x:=(s:Int)) (show nxo<=aQ by omega)).frame (H':=aC (aC H1 aQ [.int .i64 (s:Int)]) cb ((c1.map (Value.int .i64)).set (0+s*1) (.int .i64 ((cy es s:Nat):Int)))) (nx':=aQ+1) (λb hb _=>by rw[ak,aw V]) (au _);have Q9:=Inv.start (x:=((cy es s:Nat):Int)) hm rfl sj pB V lZ;refine WC.sub aX (af8 Dl ox hm rfl he V pB IM xn V Q9 (Vl.set (c0:=c1) (λ_=>.inl rfl) oN V) (by show 2*left _+1<=_;omega) (λσ H3 bW c3 hσ YX UG vl3 j8=>?_));refine kW (lO (WC.sub hσ ?_))
   repeat' (first|refine aE ?_|fail)
   refine⟨(s+1,c3),by show m-(s+1)<m-s;omega,.cons rfl (.cons rfl (.cons rfl (.cons rfl (.cons ?_ (.cons rfl (.cons rfl (.nil _))))))),by show s+1<=m;omega,V,YX,vl3.AP (n:=0) MT gu UG.len (λw hw=>UG.done hm rfl pB hw)⟩;show some _=some _;rw[gJ gu]
 ·have:s=m:=V;subst this;exact bq _ _ _ c1 aX kL.ci MT kL.same jY
theorem Dq{f:FuncId}(hf:A.funcs f=some tI)(hh:zhN A f)(Dl:A.funcs 60=some NF)(ox:zhN A 60)(YZ:A.funcs 58=some u9)(IQ:zhN A 58)(Y0:A.funcs 59=some BD)(IS:zhN A 59)(De:A.funcs 87=some pP)(ou:zhN A 87){n:Int}{m:Nat}{ev:Value}{es:List Ed}(hm:kK n es)(iL:n=(m:Int))(he:bL H nx 2 aW ev es) :
  WF A f [.agg #[.int .i64 n,ev],.slice none 0 0,.slice none 0 0] H nx λv H' nx'=>∃b bc c,v=oneOf [.slice (some ⟨b,0,some 1⟩) m bc,.int .i64 ((cy es m:Nat):Int)]/\m<=aF bc/\nx<=b/\b<nx'/\aB H' b c/\sG es m m c/\aq H H' nx/\nx<=nx':=by
 obtain⟨base,ec,rfl⟩:=he.form;have cH:=hm.2.1;subst iL;refine WF.enter (hh _ _ _) hf ?_
 repeat' (first|refine aE ?_|fail)
 have bF:aq H (aC H nx [.int .i64 (m:Int),.slice base es.length ec]) nx:=aq.refl.set (au _);refine WO.cn rfl ?_;refine(y8 YZ IQ (m:=m) (x:=-1) V).of ?_;rintro _ H1 aQ ⟨cb,cc,rfl,zS,Rb,F5,KK,bt⟩;have bu:aq H H1 nx:=bF.trans bt V;have dS:Rd H1 nx [.int .i64 (m:Int),.slice base es.length ec]:=bt.rd V Rd.self
 repeat' (first|refine aE ?_|fail)
 refine WO.cn rfl ?_;refine(BO Y0 IS De ou hm rfl ((he.same bu).up V)).of ?_;rintro _ H2 nx2 ⟨ob,oc,rfl,uj,Y1,Rc,hg,bN,fg⟩
 repeat' (first|refine aE ?_|fail)
 refine WC.sub aX (af9 (nb:=nx) (cb:=cb) (ob:=ob) (nxo:=nx2) (c:=List.replicate m (-1)) Dl ox hm rfl he ⟨bu.trans bN V,bN.rd V dS,hg,(bN cb F5).trans KK,V,V,Rc⟩ (au _) sG.start (λσ H3 bW c3 hσ q8 lb3 de j8=>?_));refine kW (lO (WC.sub hσ ?_))
 repeat' (first|refine aE ?_|fail)
 exact aD (vs:=[_,_]) rfl ⟨cb,cc,c3,rfl,zS,V,V,q8,lb3,de,V⟩
end
section
def tS(l:List Int):Nat:=l.findIdx λx=>decide (∀y∈l,x<=y)
def jv(l:List Int):List Int:=l.drop (tS l)++l.take (tS l)
def cV(r:List (List Int)):List (List Int):=r.map jv
theorem zf{l:List Int}{i:Nat}{x:Int}(hi:l[i]?=some x)(h1:∀y∈l,x<=y)(h2:∀j y,j<i->l[j]?=some y->x<y):tS l=i:=by
 obtain⟨cg,hx⟩:=cS.1 hi;unfold tS;rw[List.findIdx_eq cg];refine⟨by rw[hx];exact fB h1,λj hj=>?_⟩;refine im λh=>?_
 have Ho:j<l.length:=V;have:=h2 j _ hj (aM Ho);have:=h _ (dM hi);omega
theorem j0(l:List Int):(jv l).Perm l:=by
 unfold jv;exact List.perm_append_comm.trans (by rw[K6])
theorem zg(l:List Int):(jv l).length=l.length:=(j0 l).length_eq
theorem fX(r:List (List Int)):(cV r).length=r.length:=by unfold cV;simp
theorem kB(r:List (List Int))(v:Nat):(cV r).getD v []=jv (r.getD v []):=by
 unfold cV;rw[aY,aY,eD];cases r[v]?<;>rfl
def aga(l:List Int)(h:Int):List Int:=match l with
 | []=>[h]
 | x::t=>x::h::t
def acw(r:List (List Int))(v:Nat)(h:Int):List (List Int):=r.set v (aga (r.getD v []) h)
def agb(m:Nat)(r:List (List Int))(v w:Nat):List (List Int):=cV (acw (acw r v ((2*m:Nat):Int)) w ((2*m+1:Nat):Int))
theorem Rj{r r':List (List Int)}:∀{w:Nat},(∀v,v<w->(r'.getD v []).Perm (r.getD v []))->(fh r' w).Perm (fh r w):=by
 intro w
 induction w with
 | zero=>intro _;exact .refl _
 | succ w ih=>
  intro h;rw[dF,dF];refine(ih λv hv=>h v V).append ?_;unfold rowP;rw[iJ,iJ];exact(h w V).map _
theorem Rk{r r':List (List Int)}:∀{w:Nat},(∀v,v<w->r'.getD v []=r.getD v [])->fh r' w=fh r w:=by
 intro w
 induction w with
 | zero=>intro _;rfl
 | succ w ih=>
  intro h;rw[dF,dF,ih λv hv=>h v V];unfold rowP;rw[h w V]
theorem KO{r r':List (List Int)}{v:Nat}{h:Int}(h1:∀u,u≠v->r'.getD u []=r.getD u [])(h2:(r'.getD v []).Perm (r.getD v []++[h])):∀{w:Nat},v<w->(fh r' w).Perm (fh r w++[(v,h)]):=by
 intro w
 induction w with
 | zero=>intro hv;omega
 | succ w ih=>
  intro hv;rw[dF,dF];by_cases e:w=v
  ·subst e;rw[Rk (r:=r) (r':=r') (λu hu=>h1 u V),jj];refine(List.Perm.refl _).append ?_;unfold rowP;rw[iJ,iJ];have:=h2.map λh=>(w,h)
   rwa [jG]at this
  ·have e2:rowP r' w (r'.getD w []).length=rowP r w (r.getD w []).length:=by unfold rowP;rw[h1 w e]
   rw[e2];refine((ih V).append (.refl _)).trans ?_;rw[jj,jj];exact(List.Perm.refl _).append List.perm_append_comm
theorem MU{es:List Ed}:∀{xs:List (Nat×Int)} {s0:List Bool},(∀x∈xs,0<=x.2/\x.2<(s0.length:Int)/\bZ es x.2.toNat=x.1/\s0[x.2.toNat]?=some false)->xs.Pairwise (λx y=>x.2≠y.2)->∃s,xs.foldl (iw es) (some s0)=some s:=by
 intro xs
 induction xs with
 | nil=>intro s0 _ _;exact⟨s0,rfl⟩
 | cons x xs ih=>
  intro s0 h hp;obtain⟨h1,h2,h3,h4⟩:=h x (by simp);obtain⟨p1,p2⟩:=List.pairwise_cons.1 hp;have hb:bad es s0 x=false:=Dc h1 h2 (by rw[aY,h4];rfl) h3;have e:iw es (some s0) x=some (s0.set x.2.toNat true):=by
   show (if bad es s0 x then none else _)=_;rw[hb];rfl
  rw[List.foldl_cons,e];refine ih (λy hy=>?_) p2;obtain⟨g1,g2,g3,g4⟩:=h y (by simp[hy]);refine⟨g1,by simpa using g2,g3,?_⟩;rw[fZ,aw (λe=>p1 y hy V)];exact g4
def UK(es:List Ed)(x:Nat×Int):Prop:=0<=x.2/\x.2<((2*es.length:Nat):Int)/\bZ es x.2.toNat=x.1
theorem IU{n:Int}{es:List Ed}{r:List (List Int)}(hm:kK n es)(hl:(r.length:Int)=n)(h1:∀x∈fh r r.length,UK es x)(h2:(fh r r.length).Pairwise λx y=>x.2≠y.2)(h3:(fh r r.length).length=2*es.length):aH n es r=0:=by
 obtain⟨s,hs⟩:=MU (es:=es) (xs:=fh r r.length) (s0:=kz es) (λx hx=>by
  obtain⟨g1,g2,g3⟩:=h1 x hx;refine⟨g1,by unfold kz;rw[NY];exact g2,g3,?_⟩;unfold kz;rw[mN,aJ V]) h2
 unfold aH;rw[aJ hm,aJ hl];have:gF es (fh r r.length)=some s:=hs;rw[this];show (if _ then _ else _)=_;rw[aJ h3]
theorem bR{n:Int}{es:List Ed}{r:List (List Int)}(h:aH n es r=0):kK n es/\(r.length:Int)=n/\(∀x∈fh r r.length,UK es x)/\((fh r r.length).Pairwise λx y=>x.2≠y.2)/\(fh r r.length).length=2*es.length:=by
 unfold aH at h;split at h
 case isFalse=>omega
 rename_i hm;split at h
 case isFalse=>omega
 rename_i hl;split at h
 ·omega
 ·rename_i s hf;split at h
  case isFalse=>omega
  rename_i hc;obtain⟨f1,f2,f3⟩:=yT hf;have h0:(kz es).length=2*es.length:=by simp[kz]
  exact⟨hm,hl,λx hx=>by obtain⟨g1,g2,g3,_⟩:=f1 x hx;exact⟨g1,by rw[h0]at g2;exact g2,g3⟩,f2,hc⟩
theorem Rl{n:Int}{es:List Ed}{r r':List (List Int)}(h:aH n es r=0)(hl:r'.length=r.length)(hp:(fh r' r.length).Perm (fh r r.length)):aH n es r'=0:=by
 obtain⟨h1,h2,h3,h4,h5⟩:=bR h;have e:fh r' r'.length=fh r' r.length:=by rw[hl]
 refine IU h1 V ?_ ?_ ?_
 ·rw[e];exact λx hx=>h3 x (hp.mem_iff.1 hx)
 ·rw[e];exact(hp.pairwise_iff (λh=>h.symm)).2 h4
 ·rw[e,hp.length_eq,h5]
theorem j3{n:Int}{es:List Ed}{r:List (List Int)}(h:aH n es r=0):aH n es (cV r)=0:=
 Rl h (fX r) (Rj λv _=>by rw[kB];exact j0 _)
theorem MV{es:List Ed}{e:Ed}{h:Nat}(hh:h<2*es.length):bZ (es++[e]) h=bZ es h:=by
 unfold bZ;rw[aY,eC V,<-aY]
theorem IV{es:List Ed}{e:Ed}:bZ (es++[e]) (2*es.length)=e.1:=by
 unfold bZ;rw[aJ V,aY,show 2*es.length / 2=es.length by omega,aiQ (au _),He];rfl
theorem IW{es:List Ed}{e:Ed}:bZ (es++[e]) (2*es.length+1)=e.2:=by
 unfold bZ;rw[aw V,aY,show (2*es.length+1) / 2=es.length by omega,aiQ (au _),He];rfl
theorem KP{n:Int}{es:List Ed}{v w:Nat}(hm:kK n es)(hv:(v:Int)<n)(hw:(w:Int)<n)(dx:es.length<3072):kK n (es++[((v:Int),(w:Int))]):=by
 obtain⟨h1,h2,h3,h4⟩:=hm;refine⟨h1,h2,by rw[cm];show es.length+1<=3072;omega,λe he=>?_⟩;rcases ee.1 he with he|he
 ·exact h4 e he
 ·rw[fe]at he;subst he;unfold zZ;simp only;omega
def agc(es:List Ed)(P:Nat->Prop):Prop:=∀a b,P a->MO es a b->P b
theorem zh{es:List Ed}{a b:Nat}(h:a<=b):cy es a<=cy es b:=by
 induction b with
 | zero=>
   obtain rfl:a=0:=V;exact au _
 | succ b ih=>
  rcases(show a<=b\/a=b+1 by omega)with h1|rfl
  ·have:=ih h1;by_cases ho:Old es b b
   ·rw[jZ ho];exact this
   ·rw[gJ ho];omega
  ·exact au _
theorem IX{es:List Ed}{a b:Nat}(ha:¬Old es a a)(hb:¬Old es b b)(h:cy es a=cy es b):a=b:=by
 rcases Nat.lt_trichotomy a b with e|e|e
 ·have:=zh (es:=es) (show a+1<=b by omega);rw[gJ ha]at this;omega
 ·exact e
 ·have:=zh (es:=es) (show b+1<=a by omega);rw[gJ hb]at this;omega
theorem sG.root{es:List Ed}{m:Nat}{c:List Int}(h:sG es m m c){a:Nat}(ha:a<m):∃r,r<m/\¬Old es r r/\Reach es r a/\c[a]?=some ((cy es r:Nat):Int):=by
 obtain⟨r,h1,h2,h3⟩:=Old.root (es:=es) (k:=m) (w:=a) ⟨a,ha,.here⟩;exact⟨r,h1,h2,h3,h.old ha h1 h2 h3⟩
theorem sG.apart{es:List Ed}{m:Nat}{c:List Int}(h:sG es m m c){a b:Nat}{x y:Int}(ha:c[a]?=some x)(hb:c[b]?=some y)(hr:¬Reach es a b):x≠y:=by
 have qi:a<m:=by have:=(cS.1 ha).1;rw[h.len]at this;exact this
 have pI:b<m:=by have:=(cS.1 hb).1;rw[h.len]at this;exact this
 obtain⟨r,h1,h2,h3,h4⟩:=h.root qi;obtain⟨s,g1,g2,g3,g4⟩:=h.root pI;rw[h4]at ha;rw[g4]at hb;cases ha;cases hb
 intro e;have:r=s:=IX h2 g2 V;subst this;exact hr (h3.symm.trans g3)
def Rm(c:List Int)(i:Nat):Nat:=c.findIdx λx=>decide (x=(i:Int))
def KQ(c:List Int)(es:List Ed):Nat->List Ed
 | 0=>es
 | k+1=>KQ c es k++[(((0:Nat):Int),((Rm c (k+1):Nat):Int))]
def Wf(c:List Int)(es:List Ed)(r:List (List Int)):Nat->List (List Int)
 | 0=>cV r
 | k+1=>agb (KQ c es k).length (Wf c es r k) 0 (Rm c (k+1))
structure ahy(n:Int)(m:Nat)(c:List Int)(es:List Ed)(r:List (List Int))(k:Nat):Prop where
 zi:aH n (KQ c es k) (Wf c es r k)=0
 shut:agc (KQ c es k) λu=>∃x,c[u]?=some x/\x<((k+1:Nat):Int)
end
section
variable {A:aN}{H H':Heap}{nx nx':Nat}{σ:aR}{L:List Value}{Q:cw}
def mi(l:List Int):List Value:=l.map (Value.int .i64)
theorem fj(l:List Int):l.flatMap aZ=mi l:=by
 induction l with
 | nil=>rfl
 | cons x l ih=>rw[List.flatMap_cons,ih];rfl
theorem IY(l:List Int):cq (mi l)=true:=by
 induction l with
 | nil=>rfl
 | cons x l ih=>exact ih
theorem mY(l:List Int):(mi l).length=l.length:=by unfold mi;rw[ja]
theorem nG(l:List (Int×Int)):cq (l.flatMap aW)=true:=by
 induction l with
 | nil=>rfl
 | cons x l ih=>exact ih
theorem iB(l:List (Int×Int)):(l.flatMap aW).length=l.length*2:=by
 induction l with
 | nil=>rfl
 | cons x l ih=>rw[List.flatMap_cons,cm,ih,hO,Nat.succ_mul];show 2+_=_;omega
def o7(H:Heap)(lo nx b:Nat)(u:Value)(l:List Int):Prop:=
 (u=.slice none 0 0/\l=[])\/∃d c,u=.slice (some ⟨d,0,some 1⟩) l.length c/\0<l.length/\l.length<=aF c/\aF c<=9223372036854775807/\lo<=d/\d<nx/\d≠b/\ah H (at_ d)=some (.cells (mi l))
structure dK(H:Heap)(lo nx b:Nat)(us:List Value)(r:List (List Int)):Prop where
 h1:lo<=b
 h2:b<nx
 cells:ah H (at_ b)=some (.cells us)
 len:us.length=r.length
 row:∀(i:Nat) (u:Value) (l:List Int),us[i]?=some u->r[i]?=some l->o7 H lo nx b u l
 inj:∀(i j:Nat) (u w:Value) (d:Nat),us[i]?=some u->us[j]?=some w->bk u=some d->bk w=some d->i=j
theorem o7.blk{lo b:Nat}{u:Value}{l:List Int}(h:o7 H lo nx b u l){d:Nat}(hd:bk u=some d):lo<=d/\d<nx/\d≠b:=by
 rcases h with⟨rfl,_⟩|⟨e,c,rfl,_,_,_,h1,h2,h3,_⟩
 ·cases hd
 ·cases hd;exact⟨h1,h2,h3⟩
theorem o7.frame{lo b:Nat}{u:Value}{l:List Int}(h:o7 H lo nx b u l)(hs:∀d,lo<=d->d<nx->bk u=some d->ah H' (at_ d)=ah H (at_ d))(hn:nx<=nx'):o7 H' lo nx' b u l:=by
 rcases h with h|⟨e,c,rfl,g1,g2,g3,h1,h2,h3,h4⟩
 ·exact .inl h
 ·exact .inr ⟨e,c,rfl,g1,g2,g3,h1,V,h3,(hs e h1 h2 rfl).trans h4⟩
theorem o7.sle{lo b:Nat}{u:Value}{l:List Int}(h:o7 H lo nx b u l):bL H nx 1 aZ u l:=by
 rcases h with⟨rfl,rfl⟩|⟨e,c,rfl,g1,g2,g3,h1,h2,h3,h4⟩
 ·exact .nil
 ·exact .pre (rest:=[]) (.inl (by rw[fj,gN];exact h4)) h2 g2 (λ_=>rfl)
theorem o7.form{lo b:Nat}{u:Value}{l:List Int}(h:o7 H lo nx b u l):∃a c,u=.slice a l.length c:=h.sle.form
def GN(H:Heap)(nx0 nx:Nat)(v:Value)(l:List Int):Prop:=
 (v=.slice none 0 0/\l=[])\/∃d,v=.slice (some ⟨d,0,some 1⟩) l.length (2*l.length)/\0<l.length/\nx0<=d/\d<nx/\ah H (at_ d)=some (.cells (mi l))
theorem GN.nil{nx0:Nat}:GN H nx0 nx (.slice none 0 0) []:=.inl ⟨rfl,rfl⟩
theorem GN.Wg{nx0:Nat}{v:Value}{l:List Int}(h:GN H nx0 nx v l):bP H nx0 nx 1 v l.length (mi l):=by
 refine⟨by rw[mY];omega,?_⟩;rcases h with⟨rfl,rfl⟩|⟨d,rfl,_,h1,h2,h3⟩
 ·exact .inl ⟨rfl,rfl⟩
 ·exact .inr ⟨d,rfl,h1,h2,h3⟩
theorem GN.row{nx0 lo b:Nat}{v:Value}{l:List Int}(h:GN H nx0 nx v l)(h1:lo<=nx0)(h2:b<nx0)(hm:l.length<=4194304):o7 H lo nx b v l:=by
 rcases h with h|⟨d,rfl,g0,g1,g2,g3⟩
 ·exact .inl h
 ·exact .inr ⟨d,_,rfl,g0,by rw[bT];exact au _,by rw[bT];omega,V,g2,V,g3⟩
theorem GN.form{nx0:Nat}{v:Value}{l:List Int}(h:GN H nx0 nx v l):∃a c,v=.slice a l.length c:=by
 rcases h with⟨rfl,rfl⟩|⟨d,rfl,_⟩
 ·exact⟨_,_,rfl⟩
 ·exact⟨_,_,rfl⟩
theorem GN.blk{nx0 d:Nat}{v:Value}{l:List Int}(h:GN H nx0 nx v l)(hd:bk v=some d):nx0<=d/\d<nx:=by
 rcases h with⟨rfl,rfl⟩|⟨e,rfl,_,h1,h2,_⟩
 ·cases hd
 ·cases hd;exact⟨h1,h2⟩
theorem GN.frame{nx0:Nat}{v:Value}{l:List Int}(h:GN H nx0 nx v l)(hs:∀d,nx0<=d->d<nx->ah H' (at_ d)=ah H (at_ d))(hn:nx<=nx'):GN H' nx0 nx' v l:=by
 rcases h with h|⟨e,rfl,g0,h1,h2,h3⟩
 ·exact .inl h
 ·exact .inr ⟨e,rfl,g0,h1,V,(hs e h1 h2).trans h3⟩
theorem GN.low{nx0 aQ:Nat}{v:Value}{l:List Int}(h:GN H nx0 nx v l)(hl:aQ<=nx0):GN H aQ nx v l:=by
 rcases h with h|⟨e,rfl,g0,h1,h2,h3⟩
 ·exact .inl h
 ·exact .inr ⟨e,rfl,g0,V,h2,h3⟩
theorem GN.sle{nx0:Nat}{v:Value}{l:List Int}(h:GN H nx0 nx v l):bL H nx 1 aZ v l:=by
 rcases h with⟨rfl,rfl⟩|⟨e,rfl,g0,h1,h2,h3⟩
 ·exact .nil
 ·exact .pre (rest:=[]) (.inl (by rw[fj,gN];exact h3)) h2 (by rw[bT];exact au _) (λ_=>rfl)
theorem dK.frame{lo b:Nat}{us:List Value}{r:List (List Int)}(h:dK H lo nx b us r)(hs:∀d,lo<=d->d<nx->ah H' (at_ d)=ah H (at_ d))(hn:nx<=nx'):dK H' lo nx' b us r:=
 ⟨h.h1,kN h.h2 hn,(hs b h.h1 h.h2).trans h.cells,h.len,λi u l hu hl=>(h.row i u l hu hl).frame (λd h1 h2 _=>hs d h1 h2) hn,h.inj⟩
theorem dK.same{lo b:Nat}{us:List Value}{r:List (List Int)}(h:dK H lo nx b us r)(hs:aq H H' nx)(hn:nx<=nx'):dK H' lo nx' b us r:=h.frame (λd _ hd=>hs d hd) hn
theorem dK.low{lo lo' b:Nat}{us:List Value}{r:List (List Int)}(h:dK H lo nx b us r)(hl:lo'<=lo):dK H lo' nx b us r:=by
 refine⟨hX hl h.h1,h.h2,h.cells,h.len,λi u l hu mR=>?_,h.inj⟩;rcases h.row i u l hu mR with g|⟨e,c,rfl,g1,g2,g3,h1,h2,h3,h4⟩
 ·exact .inl g
 ·exact .inr ⟨e,c,rfl,g1,g2,g3,V,h2,h3,h4⟩
theorem dK.start{lo b n:Nat}(h1:lo<=b)(h2:b<nx)(hc:ah H (at_ b)=some (.cells (bj [.slice none 0 0] n))):dK H lo nx b (List.replicate n (.slice none 0 0)) (List.replicate n []):=by
 rw[gG]at hc;refine⟨h1,h2,hc,by simp,λi u l hu hl=>?_,λi j u w d hu _ hd=>?_⟩
 ·rw[mN]at hu hl;split at hu
  ·cases hu;rename_i hi;rw[aJ hi]at hl;cases hl;exact .inl ⟨rfl,rfl⟩
  ·cases hu
 ·rw[mN]at hu;split at hu
  ·cases hu;cases hd
  ·cases hu
theorem dK.put{lo b v:Nat}{us:List Value}{r:List (List Int)}{u w0:Value}{l:List Int}(h:dK H lo nx b us r)(h0:us[v]?=some w0)(hn:nx<=nx')(hs:∀d,lo<=d->d<nx->d≠b->bk w0≠some d->ah H' (at_ d)=ah H (at_ d))(hu:o7 H' lo nx' b u l)(hf:∀d,bk u=some d->nx<=d)(hb:ah H' (at_ b)=some (.cells (us.set v u))):dK H' lo nx' b (us.set v u) (r.set v l):=by
 have hv:v<us.length:=(cS.1 h0).1;have hr:∀i x l,i≠v->us[i]?=some x->r[i]?=some l->o7 H' lo nx' b x l:=λi x l hi hx hl=>
  (h.row i x l hx hl).frame (λd h1 h2 hd=>hs d h1 h2 ((h.row i x l hx hl).blk hd).2.2 (λe=>hi (h.inj i v x w0 d hx h0 hd e))) hn
 refine⟨h.h1,kN h.h2 hn,hb,by rw[iq,iq,h.len],λi x y hx hy=>?_,λi j x y d hx hy hdx hdy=>?_⟩
 ·rw[fZ]at hx hy;by_cases e:v=i
  ·subst e;rw[aJ rfl,aJ hv]at hx;rw[aJ rfl,aJ (by rw[<-h.len];exact hv)]at hy;cases hx;cases hy
   exact hu
  ·rw[aw e]at hx hy;exact hr i x y (λh=>e h.symm) hx hy
 ·have old:∀i x,i≠v->us[i]?=some x->bk x=some d->d<nx:=λi x hi hx hd=>by
   have jT:=(cS.1 hx).1;exact((h.row i x _ hx (aM (by rw[<-h.len];exact jT))).blk hd).2.1
  rw[fZ]at hx hy;by_cases e:v=i
  ·rw[aJ e,aJ hv]at hx;cases hx;by_cases e':v=j
   ·omega
   ·rw[aw e']at hy;have:=old j y (λh=>e' h.symm) hy hdy;have:=hf d hdx;omega
  ·rw[aw e]at hx;by_cases e':v=j
   ·rw[aJ e',aJ hv]at hy;cases hy;have:=old i x (λh=>e h.symm) hx hdx;have:=hf d hdy;omega
   ·rw[aw e']at hy;exact h.inj i j x y d hx hy hdx hdy
theorem dK.at{lo b:Nat}{us:List Value}{r:List (List Int)}(h:dK H lo nx b us r){i:Nat}(hi:i<r.length):∃u,us[i]?=some u/\us[0+i*1]?=some u/\o7 H lo nx b u (r.getD i []):=by
 have hl:i<us.length:=by rw[h.len];exact hi
 have hu:=aM hl;have hr:=aM hi;refine⟨us[i],hu,by rw[show 0+i*1=i by omega];exact hu,?_⟩;rw[aY,hr];exact h.row i _ _ hu hr
theorem dK.FW{lo b c:Nat}{us:List Value}{r:List (List Int)}(h:dK H lo nx b us r)(hc:r.length<=aF c):er H nx 1 aZ (.slice (some ⟨b,0,some 1⟩) r.length c) r:=by
 refine⟨us,h.len,?_,λi u l hu hl=>(h.row i u l hu hl).sle⟩;rw[<-h.len];exact .pre (rest:=[]) (.inl (by rw[ln,gN];exact h.cells)) h.h2 (by rw[h.len];exact hc) (λ_=>rfl)
def kM(g:List Int->List Int)(r:List (List Int))(k:Nat):List (List Int):=(List.range r.length).map λv=>if v<k then g (r.getD v [])else[]
theorem iX(g:List Int->List Int)(r:List (List Int))(k:Nat):(kM g r k).length=r.length:=by unfold kM;simp
theorem oz(g:List Int->List Int)(r:List (List Int)):kM g r 0=List.replicate r.length []:=by
 unfold kM;apply mb;intro i;rw[eD,mN];by_cases h:i<r.length
 ·rw[wz h,aJ h];rfl
 ·rw[gx (by simp;omega),aw h];rfl
theorem qH(g:List Int->List Int)(r:List (List Int)):kM g r r.length=r.map g:=by
 unfold kM;apply mb;intro i;rw[eD,eD];by_cases h:i<r.length
 ·rw[wz h,aM h];show some (if i<r.length then g (r.getD i [])else[])=some (g r[i]);rw[aJ h,aY,aM h];rfl
 ·rw[gx (by simp;omega),gx V];rfl
theorem qI(g:List Int->List Int)(r:List (List Int)){k:Nat}(hk:k<r.length):(kM g r k).set k (g (r.getD k []))=kM g r (k+1):=by
 unfold kM;apply mb;intro i;rw[fZ,eD,eD];by_cases h:k=i
 ·subst h;rw[aJ rfl,aJ (by simpa using hk),wz hk];show _=some (if k<k+1 then _ else _);rw[aJ V]
 ·rw[aw h];by_cases h2:i<r.length
  ·rw[wz h2];show some (if i<k then _ else _)=some (if i<k+1 then _ else _);by_cases h3:i<k
   ·rw[aJ h3,aJ V]
   ·rw[aw h3,aw V]
  ·rw[gx (by simp;omega)];rfl
theorem IZ(g:List Int->List Int)(r:List (List Int)){k:Nat}(h0:g (r.getD k [])=[]):kM g r (k+1)=kM g r k:=by
 unfold kM;apply List.map_congr_left;intro i hi;by_cases h:i<k
 ·rw[aJ h,aJ V]
 ·by_cases h2:i=k
  ·subst h2;rw[aJ V,aw h,h0]
  ·rw[aw h,aw V]
theorem bL.dropped{α:Type}{z n c k:Nat}{enc:α->List Value}{b o:Nat}{xs:List α}(h:bL H nx z enc (.slice (some ⟨b,o,some z⟩) n c) xs)(hk:k<=xs.length):bL H nx z enc (.slice (some ⟨b,o+k*z,some z⟩) (xs.length-k) (c-2*k)) (xs.drop k):=by
 obtain⟨base,c',h1,h2,h3⟩:=h;cases h1;rcases h3 _ rfl with⟨h0,_⟩|⟨g1,b',o',e,g3,g4⟩
 ·cases h0
 ·cases e;refine⟨_,_,by rw[pf],λe=>(by cases e),λa ha=>?_⟩;cases ha;refine .inr ⟨by rw[pf];unfold aF at g1 ⊢;show _<=(c-2*k) / 2;have:xs.length<=c / 2:=g1;omega,b,o+k*z,rfl,g3,λhx=>?_⟩;obtain⟨cs,q1,q2⟩:=g4 (λe=>hx (by rw[e];simp));refine⟨cs,q1,λi x hi=>?_⟩;rw[List.getElem?_drop]at hi;have:=q2 _ x hi
  rwa [Nat.add_mul,<-Nat.add_assoc]at this
theorem bL.taken{α:Type}{z n c k:Nat}{enc:α->List Value}{b o:Nat}{xs:List α}(h:bL H nx z enc (.slice (some ⟨b,o,some z⟩) n c) xs)(hk:k<=xs.length):bL H nx z enc (.slice (some ⟨b,o+0*z,some z⟩) (k-0) (c-2*0)) (xs.take k):=by
 obtain⟨base,c',h1,h2,h3⟩:=h;cases h1;rcases h3 _ rfl with⟨h0,_⟩|⟨g1,b',o',e,g3,g4⟩
 ·cases h0
 ·cases e;refine⟨_,_,by rw[iZ];congr 1;omega,λe=>(by cases e),λa ha=>?_⟩;cases ha;refine .inr ⟨by rw[iZ];show _<=aF c;omega,b,o+0*z,rfl,g3,λhx=>?_⟩;obtain⟨cs,q1,q2⟩:=g4 (λe=>hx (by rw[e];simp));refine⟨cs,q1,λi x hi=>?_⟩;rw[wA]at hi;split at hi
  ·have:=q2 _ x hi
   rwa [Nat.zero_mul,Hf]
  ·cases hi
theorem Act.Rn{x:Od}{lo hi:Option Od}{z:Nat}(hx:ev σ L x=some (.slice (some ⟨0,0,none⟩) 0 1))(hl:TL σ L 0 lo=some 0)(hh:TL σ L 0 hi=some 0):Act A (.lx x lo hi none z) σ L H nx (.slice (some ⟨0,0,none⟩) 0 1) H nx:=by
 refine⟨λT hT k=>?_⟩;show bI T L x (λv=>Ah T L lo hi none z (λv=>k v H nx) v)=_;rw[hT.bI hx];show jd T L lo 0 (λl=>jd T L hi 0 λh=>cond (and (Nat.beq l 0) (and (Nat.beq h 0) true)) (k (.slice (some ⟨0,0,none⟩) 0 1) H nx) none)=_;rw[hT.jd hl,hT.jd hh];rfl
theorem qJ{x:Od}{d n:Nat}(hx:ev σ L x=some (.int .i64 (n:Int))):TL σ L d (some x)=some n:=by
 unfold TL;simp only[hx]
theorem bG.acx{α:Type}{z k:Nat}{enc:α->List Value}{x lo:Od}{v:Value}{xs:List α}{K:Value->Heap->Nat->Prop}(hx:ev σ L x=some v)(vF:ev σ L lo=some (.int .i64 (k:Int)))(h:bL H nx z enc v xs)(hk:k<=xs.length)(hK:∀v',bL H nx z enc v' (xs.drop k)->K v' H nx):bG A (.lx x (some lo) none none z) σ L H nx K:=by
 obtain⟨base,c,rfl,h2,h3⟩:=id h;cases base with
 | none=>
  obtain⟨rfl,rfl⟩:=h2 rfl;obtain rfl:k=0:=by simpa using hk
  exact .of (.Pw hx (qJ vF) rfl) (hK _ .nil)
 | some a=>
  rcases h3 a rfl with⟨rfl,rfl,rfl⟩|⟨g1,b,o,rfl,g3,g4⟩
  ·obtain rfl:k=0:=by simpa using hk
   exact .of (.Rn hx (qJ vF) rfl) (hK _ h)
  ·exact .of (.lx hx (qJ vF) rfl hk (by exact g1)) (hK _ (h.dropped hk))
theorem bG.acy{α:Type}{z k:Nat}{enc:α->List Value}{x hi:Od}{v:Value}{xs:List α}{K:Value->Heap->Nat->Prop}(hx:ev σ L x=some v)(Hr:ev σ L hi=some (.int .i64 (k:Int)))(h:bL H nx z enc v xs)(hk:k<=xs.length)(hK:∀v',bL H nx z enc v' (xs.take k)->K v' H nx):bG A (.lx x none (some hi) none z) σ L H nx K:=by
 obtain⟨base,c,rfl,h2,h3⟩:=id h;cases base with
 | none=>
  obtain⟨rfl,rfl⟩:=h2 rfl;obtain rfl:k=0:=by simpa using hk
  exact .of (.Pw hx rfl (qJ Hr)) (hK _ .nil)
 | some a=>
  rcases h3 a rfl with⟨rfl,rfl,rfl⟩|⟨g1,b,o,rfl,g3,g4⟩
  ·obtain rfl:k=0:=by simpa using hk
   exact .of (.Rn hx rfl (qJ Hr)) (hK _ h)
  ·exact .of (.lx hx rfl (qJ Hr) (bS _) V) (hK _ (h.taken hk))
theorem bG.more{nx0:Nat}{zero:List Value}{s x:Od}{v xv:Value}{l m:List Int}{K:Value->Heap->Nat->Prop}(hs:ev σ L s=some v)(hx:ev σ L x=some xv)(hg:GN H nx0 nx v l)(hm:bL H nx 1 aZ xv m)(yz:nx0<=nx)(hb:l.length+m.length<=4194304)(h:∀v' H' nx',nx<=nx'->GN H' nx0 nx' v' (l++m)->aq H H' nx0->(∀d,d<nx->bk v≠some d->ah H' (at_ d)=ah H (at_ d))->K v' H' nx'):bG A (.app 1 8 zero s x false) σ L H nx K:=by
 have eJ:=hm.src (λ_=>rfl);by_cases h0:m=[]
 ·subst h0;have hk:=h v H nx (au _) (by rw[gN];exact hg) .refl (λ_ _ _=>rfl);rcases hg with⟨rfl,rfl⟩|⟨d,rfl,_,_⟩
  ·exact .of (.J1 hs hx eJ) hk
  ·exact .of (.TM hs hx eJ V) hk
 ·have iu:0<m.length:=List.length_pos_iff.2 h0;refine .push hs hx hg.Wg eJ V V (by rw[fj];exact IY _) (by rw[fj,mY];omega) yz (by unfold small;omega) (by unfold small;omega) (λv' H' h2 h3 h4=>h v' H' (nx+1) V ?_ h3 (λd hd cG=>h4 d hd (λc z' k e=>?_)))
  ·rw[fj]at h2;unfold mi at h2;rw[<-jG]at h2;obtain⟨_,⟨_,e⟩|⟨d,rfl,g1,g2,g3⟩⟩:=h2
   ·omega
   ·exact .inr ⟨d,by rw[cm],by rw[cm];omega,g1,g2,g3⟩
  ·rcases hg with⟨rfl,_⟩|⟨q,rfl,_⟩
   ·cases e
   ·cases e;exact cG rfl
theorem jw{n:Int}{es:List Ed}{r:List (List Int)}(h:aH n es r=0)(v:Nat):(r.getD v []).length<=2*es.length:=by
 obtain⟨_,_,_,_,h5⟩:=bR h;by_cases hv:v<r.length
 ·obtain⟨ys,hp⟩:=KB r (show v+1<=r.length by omega);rw[hp,dF]at h5;unfold rowP at h5;simp only[cm,ja,iJ]at h5;omega
 ·rw[aY,gx V];simp
theorem cC{n:Int}{es:List Ed}{r:List (List Int)}(h:aH n es r=0):cR r:=by
 obtain⟨⟨h1,h2,h3,_⟩,hl,_⟩:=bR h;refine⟨V,λl mR=>?_⟩;obtain⟨v,hv,rfl⟩:=kG mR;have:=jw h v;rw[aY,aM hv]at this;simp only[wB]at this;omega
def SJ(b:Nat)(us:List Value)(ev:Value):Prop:=∀d,bk ev=some d->d≠b/\∀(i:Nat) (u:Value),us[i]?=some u->bk u≠some d
theorem dK.off{lo b:Nat}{us:List Value}{r:List (List Int)}{ev:Value}(h:dK H lo nx b us r)(hev:∀d,bk ev=some d->d<lo\/nx<=d):SJ b us ev:=by
 intro d hd;have h1:=h.h1;have h2:=h.h2;refine⟨by rcases hev d hd with h|h<;>omega,λi u hu hb=>?_⟩;have jT:=(cS.1 hu).1;have:=(h.row i u _ hu (aM (by rw[<-h.len];exact jT))).blk hb;rcases hev d hd with h|h<;>omega
end
end Go.Eng
