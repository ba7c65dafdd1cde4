import Derived.Test.YthbaplapbfbnoaaGreatWa
/- Walks over the program: part 2. -/

set_option maxRecDepth 100000
set_option maxHeartbeats 1000000
namespace Go.Eng
section
variable {A:aN}{H H':Heap}{nx nx':Nat}{σ:aR}{Q:cw}
def pV(nxt:List Int):Prop:=∀i,i<nxt.length->∃q:Nat,nxt[i]?=some (q:Int)/\q<nxt.length
theorem MF(l:List Int):l.flatMap aZ=l.map (.int .i64):=by
 induction l with
 | nil=>rfl
 | cons u us ih=>rw[List.flatMap_cons,ih];rfl
theorem KF{nx0:Nat}{v:Value}{l:List Int}(h:bP H nx0 nx 1 v l.length (l.map (.int .i64))):bL H nx 1 aZ v l/\∀b,bk v=some b->nx0<=b/\b<nx:=by
 refine⟨bP.sle (enc:=aZ) (by rw[MF];exact h) (λ_=>rfl),λb hb=>?_⟩;obtain⟨_,⟨rfl,_⟩|⟨c,rfl,g1,g2,_⟩⟩:=h
 ·cases hb
 ·cases hb;exact⟨g1,g2⟩
structure Orb(nxt:List Int)(s:List Bool)(h:Nat)(H H':Heap)(nx nx' sb:Nat)(fv:Value):Prop where
 le:nx<=nx'
 seen:cU H' sb (qE nxt nxt.length s h []).1
 len:(qE nxt nxt.length s h []).1.length=nxt.length
 ahU:bP H' nx nx' 1 fv (qE nxt nxt.length s h []).2.length ((qE nxt nxt.length s h []).2.map (.int .i64))
 QT:(qE nxt nxt.length s h []).2.length<=nxt.length
 vX:∀b,b<nx->b≠sb->ah H' (at_ b)=ah H (at_ b)
theorem afO{nxt:List Int}{lb sb h:Nat}{lc sc:Nat}{lv:Value}{rv:Value}{s:List Bool}(hn:pV nxt)(hm:nxt.length<=8000)(hl:aB H lb nxt)(hs:cU H sb s)(vh:s.length=nxt.length)(hh:h<nxt.length)(cG:lb≠sb)(pI:lb<nx)(Ns:sb<nx)(bq:∀σ H' nx' fv,bD [(S1,rv),(mg,.int .i64 ((nxt.length:Nat):Int)),(ky,.int .i64 ((h:Nat):Int)),(S5,.slice (some ⟨lb,0,some 1⟩) nxt.length lc),(S6,.slice (some ⟨sb,0,some 1⟩) nxt.length sc),(S7,lv),(S9,fv)] σ->Orb nxt s h H H' nx nx' sb fv->Q (.exit 2) σ H' nx') :
  WC A (.loop Qb) [(S1,rv),(mg,.int .i64 ((nxt.length:Nat):Int)),(ky,.int .i64 ((h:Nat):Int)),(S5,.slice (some ⟨lb,0,some 1⟩) nxt.length lc),(S6,.slice (some ⟨sb,0,some 1⟩) nxt.length sc),(S7,lv),(S9,.slice none 0 0),(dQ,.int .i64 ((h:Nat):Int))] H nx Q:=by
 refine WC.loop (α:=(Nat×Nat)×List Bool×List Int×Value) (λst=>[(S1,rv),(mg,.int .i64 ((nxt.length:Nat):Int)),(ky,.int .i64 ((h:Nat):Int)),(S5,.slice (some ⟨lb,0,some 1⟩) nxt.length lc),(S6,.slice (some ⟨sb,0,some 1⟩) nxt.length sc),(S7,lv),(S9,st.2.2.2),(dQ,.int .i64 ((st.1.1:Nat):Int))])
  (λst H' nx'=>st.1.1<nxt.length/\nx<=nx'/\qE nxt st.1.2 st.2.1 st.1.1 st.2.2.1=qE nxt nxt.length s h []/\st.2.1.count false<=st.1.2/\st.2.1.length=nxt.length/\st.2.2.1.length+st.2.1.count false<=nxt.length/\cU H' sb st.2.1/\bP H' nx nx' 1 st.2.2.2 st.2.2.1.length (st.2.2.1.map (.int .i64))/\(∀b,b<nx->b≠sb->ah H' (at_ b)=ah H (at_ b))) (λst=>st.2.1.count false)
  ?_ ((h,nxt.length),s,[],.slice none 0 0) aX ⟨hh,au _,rfl,by rw[<-vh];exact List.count_le_length,vh,by show 0+s.count false<=_;have:=List.count_le_length (a:=false) (l:=s);omega,hs,.nil,λ_ _ _=>rfl⟩
 rintro⟨⟨k,m⟩,s1,f1,fv⟩ H1 aQ ⟨hk,cH,ho,hc,tO,oJ,bt,sd,dS⟩;simp only at hk ho hc tO oJ bt sd ⊢;have IC:ah H1 (at_ sb)=some (.cells (s1.map .bool)):=bt;have jB:ah H1 (at_ lb)=some (.cells (nxt.map (.int .i64))):=(dS lb pI cG).trans hl;have QU:=aM (show k<s1.length by omega);generalize MA:s1[k]=bw at QU;have q1:=QP QU;have m9:s1.getD k true=bw:=by rw[aY,QU];rfl
 obtain⟨q,hq,MG⟩:=hn k hk;have q2:=aB.cell hq;have hgq:(nxt.getD k 0).toNat=q:=by rw[aY,hq];rfl
 unfold Qb;cases bw with
 | true=>
  repeat' (first|refine aE ?_|fail)
  have bO:=pS (nxt:=nxt) (m:=m) (f:=f1) m9;rw[ho]at bO;exact bq _ _ _ fv aX ⟨cH,by rw[bO];exact bt,by rw[bO];exact tO,by rw[bO];exact sd,by rw[bO];show f1.length<=_;omega,dS⟩
 | false=>
  have oG:=count_set (s:=s1) (k:=k) V MA;obtain⟨m',rfl⟩:∃m',m=m'+1:=⟨m-1,V⟩;have bO:=pT (nxt:=nxt) (m:=m') (f:=f1) m9;rw[hgq,ho]at bO
  repeat' (first|refine aE ?_|fail)
  refine WO.n rfl ?_;refine bG.push (nx0:=nx) rfl rfl (sd.vX (H':=aC (aC H1 sb ((s1.map Value.bool).set (0+k*1) (.bool true))) aQ [.int .i64 (k:Int)]) (λb hb cg=>by rw[ak,aw V,ak,aw V]) (cE _)) (dL Rd.self rfl) V V rfl rfl V (by unfold small;omega) (by unfold small;omega) ?_;intro fv' H2 MH bN k9;have bH:∀b,b<nx->ah H2 (at_ b)=ah (aC H1 sb ((s1.map Value.bool).set (0+k*1) (.bool true))) (at_ b):=λb hb=>(bN b hb).trans (by rw[ak,aw V])
  have nc:ah H2 (at_ lb)=some (.cells (nxt.map (.int .i64))):=by
   rw[bH lb pI,ak,aw cG];exact jB
  have Ux:cU H2 sb (s1.set k true):=by
   unfold cU;rw[bH sb Ns,aj,List.map_set]
   congr 3
   first|done|omega
  repeat' (first|refine aE ?_|fail)
  refine⟨((q,m'),s1.set k true,f1++[(k:Int)],fv'),by show (s1.set k true).count false<s1.count false;omega,aX,MG,V,bO.symm,by show (s1.set k true).count false<=m';omega,by show (s1.set k true).length=_;rw[iq];exact tO,by show (f1++[(k:Int)]).length+(s1.set k true).count false<=_;rw[cm];show f1.length+1+_<=_;omega,Ux,?_,λb hb IG=>?_⟩
  ·show bP H2 nx _ 1 fv' (f1++[(k:Int)]).length ((f1++[(k:Int)]).map _);rw[cm,jG];exact MH
  ·rw[bH b hb,ak,aw IG];exact dS b hb IG
theorem afP{nxt:List Int}{lb sb h:Nat}{lc sc:Nat}{lv:Value}{rv nv:Value}{s:List Bool}(hn:pV nxt)(hm:nxt.length<=8000)(hl:aB H lb nxt)(hs:cU H sb s)(vh:s.length=nxt.length)(hh:h<nxt.length)(cG:lb≠sb)(pI:lb<nx)(Ns:sb<nx)(bq:∀σ H' nx' fv,bD [(S1,rv),(S2,nv),(S8,.int .i64 ((h:Nat):Int)),(S5,.slice (some ⟨lb,0,some 1⟩) nxt.length lc),(S6,.slice (some ⟨sb,0,some 1⟩) nxt.length sc),(S7,lv),(S9,fv)] σ->Orb nxt s h H H' nx nx' sb fv->Q (.exit 2) σ H' nx') :
  WC A (.loop P4) [(S1,rv),(S2,nv),(S8,.int .i64 ((h:Nat):Int)),(S5,.slice (some ⟨lb,0,some 1⟩) nxt.length lc),(S6,.slice (some ⟨sb,0,some 1⟩) nxt.length sc),(S7,lv),(S9,.slice none 0 0),(dQ,.int .i64 ((h:Nat):Int))] H nx Q:=by
 refine WC.loop (α:=(Nat×Nat)×List Bool×List Int×Value) (λst=>[(S1,rv),(S2,nv),(S8,.int .i64 ((h:Nat):Int)),(S5,.slice (some ⟨lb,0,some 1⟩) nxt.length lc),(S6,.slice (some ⟨sb,0,some 1⟩) nxt.length sc),(S7,lv),(S9,st.2.2.2),(dQ,.int .i64 ((st.1.1:Nat):Int))])
  (λst H' nx'=>st.1.1<nxt.length/\nx<=nx'/\qE nxt st.1.2 st.2.1 st.1.1 st.2.2.1=qE nxt nxt.length s h []/\st.2.1.count false<=st.1.2/\st.2.1.length=nxt.length/\st.2.2.1.length+st.2.1.count false<=nxt.length/\cU H' sb st.2.1/\bP H' nx nx' 1 st.2.2.2 st.2.2.1.length (st.2.2.1.map (.int .i64))/\(∀b,b<nx->b≠sb->ah H' (at_ b)=ah H (at_ b))) (λst=>st.2.1.count false)
  ?_ ((h,nxt.length),s,[],.slice none 0 0) aX ⟨hh,au _,rfl,by rw[<-vh];exact List.count_le_length,vh,by show 0+s.count false<=_;have:=List.count_le_length (a:=false) (l:=s);omega,hs,.nil,λ_ _ _=>rfl⟩
 rintro⟨⟨k,m⟩,s1,f1,fv⟩ H1 aQ ⟨hk,cH,ho,hc,tO,oJ,bt,sd,dS⟩;simp only at hk ho hc tO oJ bt sd ⊢;have IC:ah H1 (at_ sb)=some (.cells (s1.map .bool)):=bt;have jB:ah H1 (at_ lb)=some (.cells (nxt.map (.int .i64))):=(dS lb pI cG).trans hl;have QU:=aM (show k<s1.length by omega);generalize MA:s1[k]=bw at QU;have q1:=QP QU;have m9:s1.getD k true=bw:=by rw[aY,QU];rfl
 obtain⟨q,hq,MG⟩:=hn k hk;have q2:=aB.cell hq;have hgq:(nxt.getD k 0).toNat=q:=by rw[aY,hq];rfl
 unfold P4;cases bw with
 | true=>
  repeat' (first|refine aE ?_|fail)
  have bO:=pS (nxt:=nxt) (m:=m) (f:=f1) m9;rw[ho]at bO;exact bq _ _ _ fv aX ⟨cH,by rw[bO];exact bt,by rw[bO];exact tO,by rw[bO];exact sd,by rw[bO];show f1.length<=_;omega,dS⟩
 | false=>
  have oG:=count_set (s:=s1) (k:=k) V MA;obtain⟨m',rfl⟩:∃m',m=m'+1:=⟨m-1,V⟩;have bO:=pT (nxt:=nxt) (m:=m') (f:=f1) m9;rw[hgq,ho]at bO
  repeat' (first|refine aE ?_|fail)
  refine WO.n rfl ?_;refine bG.push (nx0:=nx) rfl rfl (sd.vX (H':=aC (aC H1 sb ((s1.map Value.bool).set (0+k*1) (.bool true))) aQ [.int .i64 (k:Int)]) (λb hb cg=>by rw[ak,aw V,ak,aw V]) (cE _)) (dL Rd.self rfl) V V rfl rfl V (by unfold small;omega) (by unfold small;omega) ?_;intro fv' H2 MH bN k9;have bH:∀b,b<nx->ah H2 (at_ b)=ah (aC H1 sb ((s1.map Value.bool).set (0+k*1) (.bool true))) (at_ b):=λb hb=>(bN b hb).trans (by rw[ak,aw V])
  have nc:ah H2 (at_ lb)=some (.cells (nxt.map (.int .i64))):=by
   rw[bH lb pI,ak,aw cG];exact jB
  have Ux:cU H2 sb (s1.set k true):=by
   unfold cU;rw[bH sb Ns,aj,List.map_set]
   congr 3
   first|done|omega
  repeat' (first|refine aE ?_|fail)
  refine⟨((q,m'),s1.set k true,f1++[(k:Int)],fv'),by show (s1.set k true).count false<s1.count false;omega,aX,MG,V,bO.symm,by show (s1.set k true).count false<=m';omega,by show (s1.set k true).length=_;rw[iq];exact tO,by show (f1++[(k:Int)]).length+(s1.set k true).count false<=_;rw[cm];show f1.length+1+_<=_;omega,Ux,?_,λb hb IG=>?_⟩
  ·show bP H2 nx _ 1 fv' (f1++[(k:Int)]).length ((f1++[(k:Int)]).map _);rw[cm,jG];exact MH
  ·rw[bH b hb,ak,aw IG];exact dS b hb IG
theorem se{nxt:List Int}{k:Nat}(h:(aV nxt k).2.length<=k):(aV nxt (k+1)).2.length<=k+1:=by
 rw[gH];unfold pU;show (if _ then _ else _:List (List Int)).length<=_;split
 ·omega
 ·rw[cm];show _+1<=_;omega
theorem QV{nxt:List Int}:∀{m k:Nat} {s:List Bool} {f:List Int},f≠[]->(qE nxt m s k f).2≠[]:=by
 intro m
 induction m with
 | zero=>intro k s f h;exact h
 | succ m ih=>
  intro k s f h;show (if s.getD k true then(s,f)else _:List Bool×List Int).2≠[];split
  ·exact h
  ·exact ih (by simp)
theorem YN{nxt:List Int}{k:Nat}{s:List Bool}(hk:k<nxt.length)(h:s.getD k true=false):(qE nxt nxt.length s k []).2≠[]:=by
 obtain⟨m,hm⟩:∃m,nxt.length=m+1:=⟨nxt.length-1,V⟩;rw[hm,pT h];exact QV (by simp)
theorem afQ{nxt:List Int}{nb lb sb:Nat}{lc sc:Nat}{rv:Value}{H0:Heap}(hn:pV nxt)(hm:nxt.length<=8000)(hl:aB H lb nxt)(hs:cU H sb (List.replicate nxt.length false))(cG:lb≠sb)(pI:lb<nx)(Ns:sb<nx)(gg:nb<=lb)(hns:nb<=sb)(cM:aq H0 H nb)(bq:∀σ H' nx' lv,bD [(S1,rv),(S7,lv)] σ->LL H' nx nx' lv (aV nxt nxt.length).2->(aV nxt nxt.length).2.length<=nxt.length->aq H0 H' nb->nx<=nx'->Q (.exit 0) σ H' nx') :
  WC A (.loop Qc) [(S1,rv),(S5,.slice (some ⟨lb,0,some 1⟩) nxt.length lc),(S6,.slice (some ⟨sb,0,some 1⟩) nxt.length sc),(S7,.slice none 0 0),(mg,.int .i64 ((nxt.length:Nat):Int)),(ky,.int .i64 0)] H nx Q:=by
 refine WC.loop (α:=Nat×Value) (λst=>[(S1,rv),(S5,.slice (some ⟨lb,0,some 1⟩) nxt.length lc),(S6,.slice (some ⟨sb,0,some 1⟩) nxt.length sc),(S7,st.2),(mg,.int .i64 ((nxt.length:Nat):Int)),(ky,.int .i64 ((st.1:Nat):Int))])
  (λst H' nx'=>st.1<=nxt.length/\nx<=nx'/\cU H' sb (aV nxt st.1).1/\(aV nxt st.1).1.length=nxt.length/\LL H' nx nx' st.2 (aV nxt st.1).2/\(aV nxt st.1).2.length<=st.1/\aB H' lb nxt/\aq H0 H' nb) (λst=>nxt.length-st.1)
  ?_ (0,.slice none 0 0) aX ⟨bS _,au _,hs,by show (List.replicate _ _).length=_;rw[NY],.nil,bS _,hl,cM⟩
 rintro⟨k,lv⟩ H1 aQ ⟨hk,cH,bt,tO,vM,jP,jB,br⟩;simp only at hk bt tO vM jP ⊢;unfold Qc
 repeat' (first|refine aE ?_|(refine bJ ?_ ?_<;>intro h<;>(try simp only[aL]at h))|fail)
 ·have bQ:k<nxt.length:=V;refine WC.sub aX (afO (lb:=lb) (sb:=sb) (h:=k) (lv:=lv) hn hm jB bt tO bQ cG V V (λσ H2 nx2 fv hσ o=>?_));refine kW (lO (WC.sub hσ ?_));obtain⟨o1,o2,o3,o4,o5,o6⟩:=o;obtain⟨z1,z2⟩:=KF o4;obtain⟨fb,fc,rfl⟩:=z1.form;have MI:LL H2 nx nx2 lv (aV nxt k).2:=vM.vX (λb hb cg=>o6 b cg V) o1;have nc:aB H2 lb nxt:=(o6 lb V cG).trans jB;have eK:aq H0 H2 nb:=λb hb=>(o6 b V V).trans (br b hb)
  have hlen:=se jP;have e1:(aV nxt (k+1)).1=(qE nxt nxt.length (aV nxt k).1 k []).1:=by rw[gH];rfl
  have e2:(aV nxt (k+1)).2=if (qE nxt nxt.length (aV nxt k).1 k []).2=[]then(aV nxt k).2 else(aV nxt k).2++[(qE nxt nxt.length (aV nxt k).1 k []).2]:=by rw[gH];rfl
  generalize(qE nxt nxt.length (aV nxt k).1 k []).2=f at *
  repeat' (first|refine aE ?_|(refine bJ ?_ ?_<;>intro h<;>(try simp only[aL]at h))|fail)
  ·refine WO.n rfl ?_;have iu:0<f.length:=V;have e3:f≠[]:=by intro e;rw[e]at iu;simp at iu
   rw[aw e3]at e2;have KG:=MI.vX (H':=aC H2 nx2 [.slice fb f.length fc]) (nx':=nx2+1) (λb hb cg=>by rw[ak,aw V]) (cE _);refine bG.KE (nx0:=nx) rfl rfl Rd.self KG ((z1.same (aq.refl.set (au _))).up (cE _)) (λb hb=>⟨by have:=z2 b hb;omega,by have:=z2 b hb;omega,λe=>by have:=z2 b hb;have:=vM.blk e;omega⟩) V (by unfold small;omega) (by unfold small;omega) ?_;intro yV H3 NI KH;have q8:∀b,b<nx->ah H3 (at_ b)=ah H2 (at_ b):=λb hb=>(KH b V (λe=>by have:=vM.blk e;omega)).trans (by rw[ak,aw V])
   repeat' (first|refine aE ?_|fail)
   refine⟨(k+1,yV),by show nxt.length-(k+1)<nxt.length-k;omega,.cons rfl aX,by show k+1<=_;omega,V,?_,?_,?_,hlen,(q8 lb pI).trans nc,λb hb=>(q8 b V).trans (eK b hb)⟩
   ·show cU _ sb (aV nxt (k+1)).1;rw[e1];exact(q8 sb Ns).trans o2
   ·show (aV nxt (k+1)).1.length=_;rw[e1];exact o3
   ·show LL _ _ _ yV (aV nxt (k+1)).2;rw[e2];exact NI
  ·have e3:f=[]:=mM V;rw[aJ e3]at e2;refine⟨(k+1,lv),by show nxt.length-(k+1)<nxt.length-k;omega,.cons rfl aX,by show k+1<=_;omega,V,?_,?_,?_,hlen,nc,eK⟩
   ·show cU _ sb (aV nxt (k+1)).1;rw[e1];exact o2
   ·show (aV nxt (k+1)).1.length=_;rw[e1];exact o3
   ·show LL _ _ _ lv (aV nxt (k+1)).2;rw[e2];exact MI
 ·have:k=nxt.length:=V;subst this;exact bq _ _ _ lv aX vM jP br cH
theorem afR{r F:List (List Int)}{nb nx0:Nat}{cN:Option Addr}{rc:Nat}{lv:Value}{H0:Heap}(hr:er H0 nb 1 aZ (.slice cN r.length rc) r)(cD:cR r)(hF:F.length<=8000)(hL:LL H nx0 nx lv F)(h1:nb<=nx0)(h2:nx0<=nx)(cM:aq H0 H nb)(bq:∀σ H' nx' lv,bD [(S7,lv)] σ->LL H' nx0 nx' lv (F++qF r r.length)->aq H0 H' nb->nx<=nx'->Q (.exit 4) σ H' nx') :
  WC A (.loop Qd) [(S7,lv),(S49,.slice cN r.length rc),(TZ,.int .i64 ((r.length:Nat):Int)),(SG,.int .i64 0)] H nx Q:=by
 refine WC.loop (α:=Nat×Value) (λst=>[(S7,st.2),(S49,.slice cN r.length rc),(TZ,.int .i64 ((r.length:Nat):Int)),(SG,.int .i64 ((st.1:Nat):Int))])
  (λst H' nx'=>st.1<=r.length/\nx<=nx'/\LL H' nx0 nx' st.2 (F++qF r st.1)/\aq H0 H' nb) (λst=>r.length-st.1)
  ?_ (0,lv) aX ⟨bS _,au _,by show LL _ _ _ _ (F++qF r 0);rw[show qF r 0=[]from rfl,gN];exact hL,cM⟩
 rintro⟨v,G3⟩ H1 aQ ⟨hv,cH,vM,br⟩;simp only at hv vM ⊢;have ql:=cD.1;unfold Qd
 repeat' (first|refine aE ?_|(refine bJ ?_ ?_<;>intro h<;>(try simp only[aL]at h))|fail)
 ·have mG:v<r.length:=V;have kE:r.getD v []=r[v]:=by rw[aY,aM mG];rfl
  obtain⟨rb,ro,Wa,ib,ic,rfl,uh,rX,vd,hi⟩:=hr.at mG;rw[<-kE]at vd hi;have FT:=br.rd uh rX;have jT:=IF (r:=r) (k:=v);have oJ:(F++qF r v).length<=8000+v:=by rw[cm];omega
  have hs:=FV mG
  repeat' (first|refine aE ?_|(refine bJ ?_ ?_<;>intro h<;>(try simp only[aL]at h))|fail)
  ·refine WO.n rfl ?_;rw[aJ V]at hs;have KG:=vM.vX (H':=aC H1 aQ [.slice none 0 0]) (nx':=aQ+1) (λb hb cg=>by rw[ak,aw V]) (cE _);refine bG.KE (nx0:=nx0) (f:=[]) rfl rfl Rd.self KG .nil (λb hb=>by cases hb) V (by unfold small;omega) (by unfold small;omega) ?_;intro yV H3 NI KH;have q8:∀b,b<nb->ah H3 (at_ b)=ah H1 (at_ b):=λb hb=>(KH b V (λe=>by have:=vM.blk e;omega)).trans (by rw[ak,aw V])
   repeat' (first|refine aE ?_|fail)
   refine⟨(v+1,yV),by show r.length-(v+1)<r.length-v;omega,.cons rfl aX,by show v+1<=_;omega,V,?_,λb hb=>(q8 b hb).trans (br b hb)⟩;show LL _ _ _ yV (F++qF r (v+1));rw[hs,<-jj];exact NI
  ·rw[aw V]at hs;refine⟨(v+1,G3),by show r.length-(v+1)<r.length-v;omega,.cons rfl aX,by show v+1<=_;omega,V,?_,br⟩;show LL _ _ _ G3 (F++qF r (v+1));rw[hs];exact vM
 ·have:v=r.length:=V;subst this;exact bq _ _ _ G3 aX vM br cH
theorem vi{n:Int}{es:List Ed}{r:List (List Int)}{l:List Int}(g:dk n es r)(h:gi es r l):pV l:=by
 intro i hi;rw[h.1]at hi ⊢;exact h.lt g hi
theorem sf{f:FuncId}(hf:A.funcs f=some yH)(hh:zhN A f)(IH:A.funcs 111=some u7)(yW:zhN A 111){n:Int}{ev rv:Value}{es:List Ed}{r:List (List Int)}(g:dk n es r)(he:bL H nx 2 aW ev es)(hr:er H nx 1 aZ rv r)(cD:cR r)(dx:es.length<=4000) :
  WF A f [.agg #[.int .i64 n,ev],rv] H nx λv H' nx'=>∃nx0,nx<=nx0/\nx0<=nx'/\LL H' nx0 nx' v (aP es r)/\aq H H' nx:=by
 obtain⟨base,ec,rfl⟩:=he.form;obtain⟨cN,rc,rfl⟩:=hr.form;refine WF.enter (hh _ _ _) hf ?_
 repeat' (first|refine aE ?_|fail)
 have bF:aq H (aC H nx [.int .i64 n,.slice base es.length ec]) nx:=aq.refl.set (au _);refine WO.cn rfl ?_;refine(IE IH yW g ((he.same bF).up (cE _)) ((hr.same bF).up (cE _)) cD dx).of ?_;rintro _ H1 aQ ⟨lb,lc,l,rfl,hlc,afS,afT,gg,jT,bt⟩;have bu:aq H H1 nx:=bF.trans bt V;have uo:=gg.1
 repeat' (first|refine aE ?_|fail)
 rw[<-uo];refine WC.sub aX (afQ (nb:=nx) (lb:=lb) (sb:=aQ) (nxt:=l) (vi g gg) V (ay V jT) (by show ah _ _=_;rw[aj,gG,List.map_replicate]) V V V V V (bu.set V) (λσ H2 nx2 lv hσ MI hF2 bN fg=>?_));refine kW (lO (WC.sub hσ ?_))
 repeat' (first|refine aE ?_|fail)
 refine WC.sub aX (afR (nb:=nx) (nx0:=aQ+1) hr cD V MI V V bN (λσ H3 bW lv3 hσ KG de j8=>?_));refine kW (lO (WC.sub hσ ?_))
 repeat' (first|refine aE ?_|fail)
 refine aD (vs:=[_]) rfl ⟨aQ+1,V,V,?_,de⟩;unfold aP ow;rw[iW g gg];exact KG
theorem afU{nxt:List Int}{nb lb sb:Nat}{lc sc:Nat}{rv nv:Value}{cn:List Value}{H0:Heap}(hn:pV nxt)(hm:nxt.length<=8000)(hl:aB H lb nxt)(hs:cU H sb (List.replicate nxt.length false))(cG:lb≠sb)(pI:lb<nx)(Ns:sb<nx)(gg:nb<=lb)(hns:nb<=sb)(cM:aq H0 H nb)(jz:Rd H nb cn)(ru:nb<lb)(DP:nb<sb)(bq:∀σ H' nx' lv,bD [(S1,rv),(S2,nv),(S7,lv)] σ->LL H' nx nx' lv (aV nxt nxt.length).2->(aV nxt nxt.length).2.length<=nxt.length->aq H0 H' nb->Rd H' nb cn->nx<=nx'->Q (.exit 0) σ H' nx') :
  WC A (.loop P5) [(S1,rv),(S2,nv),(S5,.slice (some ⟨lb,0,some 1⟩) nxt.length lc),(S6,.slice (some ⟨sb,0,some 1⟩) nxt.length sc),(S7,.slice none 0 0),(S8,.int .i64 0)] H nx Q:=by
 refine WC.loop (α:=Nat×Value) (λst=>[(S1,rv),(S2,nv),(S5,.slice (some ⟨lb,0,some 1⟩) nxt.length lc),(S6,.slice (some ⟨sb,0,some 1⟩) nxt.length sc),(S7,st.2),(S8,.int .i64 ((st.1:Nat):Int))])
  (λst H' nx'=>st.1<=nxt.length/\nx<=nx'/\cU H' sb (aV nxt st.1).1/\(aV nxt st.1).1.length=nxt.length/\LL H' nx nx' st.2 (aV nxt st.1).2/\(aV nxt st.1).2.length<=st.1/\aB H' lb nxt/\aq H0 H' nb/\Rd H' nb cn) (λst=>nxt.length-st.1)
  ?_ (0,.slice none 0 0) aX ⟨bS _,au _,hs,by show (List.replicate _ _).length=_;rw[NY],.nil,bS _,hl,cM,jz⟩
 rintro⟨k,lv⟩ H1 aQ ⟨hk,cH,bt,tO,vM,jP,jB,br,fU⟩;simp only at hk bt tO vM jP ⊢;unfold P5
 repeat' (first|refine aE ?_|(refine bJ ?_ ?_<;>intro h<;>(try simp only[aL]at h))|fail)
 ·have bQ:k<nxt.length:=V;have QU:=aM (show k<(aV nxt k).1.length by omega);generalize MA:(aV nxt k).1[k]=bw at QU;have q1:=QP QU;have m9:(aV nxt k).1.getD k true=bw:=by rw[aY,QU];rfl
  have IC:ah H1 (at_ sb)=some (.cells ((aV nxt k).1.map .bool)):=bt;have hlen:=se jP;have e1:(aV nxt (k+1)).1=(qE nxt nxt.length (aV nxt k).1 k []).1:=by rw[gH];rfl
  have e2:(aV nxt (k+1)).2=if (qE nxt nxt.length (aV nxt k).1 k []).2=[]then(aV nxt k).2 else(aV nxt k).2++[(qE nxt nxt.length (aV nxt k).1 k []).2]:=by rw[gH];rfl
  cases bw with
  | true=>
   rw[pS m9]at e1 e2;rw[aJ rfl]at e2
   repeat' (first|refine aE ?_|fail)
   refine⟨(k+1,lv),by show nxt.length-(k+1)<nxt.length-k;omega,.cons rfl aX,by show k+1<=_;omega,V,?_,?_,?_,hlen,jB,br,fU⟩
   ·show cU _ sb (aV nxt (k+1)).1;rw[e1];exact bt
   ·show (aV nxt (k+1)).1.length=_;rw[e1];exact tO
   ·show LL _ _ _ lv (aV nxt (k+1)).2;rw[e2];exact vM
  | false=>
   have afV:=YN bQ m9;rw[aw afV]at e2
   repeat' (first|refine aE ?_|fail)
   refine WC.sub aX (afP (lb:=lb) (sb:=sb) (h:=k) (lv:=lv) hn hm jB bt tO bQ cG V V (λσ H2 nx2 fv hσ o=>?_));refine kW (lO (WC.sub hσ ?_));obtain⟨o1,o2,o3,o4,o5,o6⟩:=o;obtain⟨z1,z2⟩:=KF o4;obtain⟨fb,fc,rfl⟩:=z1.form;have MI:LL H2 nx nx2 lv (aV nxt k).2:=vM.vX (λb hb cg=>o6 b cg V) o1;have nc:aB H2 lb nxt:=(o6 lb V cG).trans jB;have eK:aq H0 H2 nb:=λb hb=>(o6 b V V).trans (br b hb)
   generalize(qE nxt nxt.length (aV nxt k).1 k []).2=f at *
   repeat' (first|refine aE ?_|fail)
   refine WO.n rfl ?_;have KG:=MI.vX (H':=aC H2 nx2 [.slice fb f.length fc]) (nx':=nx2+1) (λb hb cg=>by rw[ak,aw V]) (cE _);refine bG.KE (nx0:=nx) rfl rfl Rd.self KG ((z1.same (aq.refl.set (au _))).up (cE _)) (λb hb=>⟨by have:=z2 b hb;omega,by have:=z2 b hb;omega,λe=>by have:=z2 b hb;have:=vM.blk e;omega⟩) V (by unfold small;omega) (by unfold small;omega) ?_;intro yV H3 NI KH;have q8:∀b,b<nx->ah H3 (at_ b)=ah H2 (at_ b):=λb hb=>(KH b V (λe=>by have:=vM.blk e;omega)).trans (by rw[ak,aw V])
   repeat' (first|refine aE ?_|fail)
   refine⟨(k+1,yV),by show nxt.length-(k+1)<nxt.length-k;omega,.cons rfl aX,by show k+1<=_;omega,V,?_,?_,?_,hlen,(q8 lb pI).trans nc,λb hb=>(q8 b V).trans (eK b hb),by unfold Rd;rw[q8 nb V,o6 nb V V];exact fU⟩
   ·show cU _ sb (aV nxt (k+1)).1;rw[e1];exact(q8 sb Ns).trans o2
   ·show (aV nxt (k+1)).1.length=_;rw[e1];exact o3
   ·show LL _ _ _ yV (aV nxt (k+1)).2;rw[e2];exact NI
 ·have:k=nxt.length:=V;subst this;exact bq _ _ _ lv aX vM jP br fU cH
theorem afW{n:Int}{ev:Value}{r F:List (List Int)}{nb nx0:Nat}{cN:Option Addr}{rc:Nat}{lv:Value}{H0:Heap}(hr:er H0 nb 1 aZ (.slice cN r.length rc) r)(cD:cR r)(hF:F.length<=8000)(hL:LL H nx0 nx lv F)(h1:nb<=nx0)(h2:nx0<=nx)(cM:aq H0 H nb)(jz:Rd H nb [.int .i64 n,ev])(hlen:(r.length:Int)=n)(ru:nb<nx0)(bq:∀σ H' nx' lv,bD [(S7,lv)] σ->LL H' nx0 nx' lv (F++qF r r.length)->aq H0 H' nb->nx<=nx'->Q (.exit 4) σ H' nx') :
  WC A (.loop P6) [(S7,lv),(S1,.slice cN r.length rc),(S2,.pointer (some ⟨nb,0,none⟩)),(eN,.int .i64 0)] H nx Q:=by
 refine WC.loop (α:=Nat×Value) (λst=>[(S7,st.2),(S1,.slice cN r.length rc),(S2,.pointer (some ⟨nb,0,none⟩)),(eN,.int .i64 ((st.1:Nat):Int))])
  (λst H' nx'=>st.1<=r.length/\nx<=nx'/\LL H' nx0 nx' st.2 (F++qF r st.1)/\aq H0 H' nb/\Rd H' nb [.int .i64 n,ev]) (λst=>r.length-st.1)
  ?_ (0,lv) aX ⟨bS _,au _,by show LL _ _ _ _ (F++qF r 0);rw[show qF r 0=[]from rfl,gN];exact hL,cM,jz⟩
 rintro⟨v,G3⟩ H1 aQ ⟨hv,cH,vM,br,fU⟩;simp only at hv vM ⊢;have ql:=cD.1;unfold P6
 repeat' (first|refine aE ?_|(refine bJ ?_ ?_<;>intro h<;>(try simp only[aL]at h))|fail)
 ·have mG:v<r.length:=V;have kE:r.getD v []=r[v]:=by rw[aY,aM mG];rfl
  obtain⟨rb,ro,Wa,ib,ic,rfl,uh,rX,vd,hi⟩:=hr.at mG;rw[<-kE]at vd hi;have FT:=br.rd uh rX;have jT:=IF (r:=r) (k:=v);have oJ:(F++qF r v).length<=8000+v:=by rw[cm];omega
  have hs:=FV mG
  repeat' (first|refine aE ?_|(refine bJ ?_ ?_<;>intro h<;>(try simp only[aL]at h))|fail)
  ·refine WO.n rfl ?_;rw[aJ V]at hs;have KG:=vM.vX (H':=aC H1 aQ [.slice none 0 0]) (nx':=aQ+1) (λb hb cg=>by rw[ak,aw V]) (cE _);refine bG.KE (nx0:=nx0) (f:=[]) rfl rfl Rd.self KG .nil (λb hb=>by cases hb) V (by unfold small;omega) (by unfold small;omega) ?_;intro yV H3 NI KH;have q8:∀b,b<=nb->ah H3 (at_ b)=ah H1 (at_ b):=λb hb=>(KH b V (λe=>by have:=vM.blk e;omega)).trans (by rw[ak,aw V])
   repeat' (first|refine aE ?_|fail)
   refine⟨(v+1,yV),by show r.length-(v+1)<r.length-v;omega,.cons rfl aX,by show v+1<=_;omega,V,?_,λb hb=>(q8 b V).trans (br b hb),?_⟩
   rotate_left
   ·unfold Rd;rw[q8 nb (au _)];exact fU
   show LL _ _ _ yV (F++qF r (v+1));rw[hs,<-jj];exact NI
  ·rw[aw V]at hs;refine⟨(v+1,G3),by show r.length-(v+1)<r.length-v;omega,.cons rfl aX,by show v+1<=_;omega,V,?_,br,fU⟩;show LL _ _ _ G3 (F++qF r (v+1));rw[hs];exact vM
 ·have:v=r.length:=V;subst this;exact bq _ _ _ G3 aX vM br cH
theorem pW{f:FuncId}(hf:A.funcs f=some tH)(hh:zhN A f)(YO:A.funcs 75=some BB)(II:zhN A 75)(QS:A.funcs 74=some wb)(yU:zhN A 74){n:Int}{ev rv:Value}{es:List Ed}{r:List (List Int)}(g:dk n es r)(he:bL H nx 2 aW ev es)(hr:er H nx 1 aZ rv r)(cD:cR r)(dx:es.length<=4000) :
  WF A f [.agg #[.int .i64 n,ev],rv] H nx λv H' nx'=>∃nx0,nx<=nx0/\nx0<=nx'/\LL H' nx0 nx' v (aP es r)/\aq H H' nx:=by
 obtain⟨base,ec,rfl⟩:=he.form;obtain⟨cN,rc,rfl⟩:=hr.form;refine WF.enter (hh _ _ _) hf ?_
 repeat' (first|refine aE ?_|fail)
 have bF:aq H (aC H nx [.int .i64 n,.slice base es.length ec]) nx:=aq.refl.set (au _);refine WO.cn rfl ?_;refine(ME YO II QS yU g ((he.same bF).up (cE _)) ((hr.same bF).up (cE _)) cD dx).of ?_;rintro _ H1 aQ ⟨lb,lc,l,rfl,hlc,afS,afT,gg,jT,bt⟩;have bu:aq H H1 nx:=bF.trans bt V;have uo:=gg.1;have dS:Rd H1 nx [.int .i64 n,.slice base es.length ec]:=bt.rd V Rd.self
 repeat' (first|refine aE ?_|fail)
 rw[<-uo];refine WC.sub aX (afU (nb:=nx) (lb:=lb) (sb:=aQ) (nxt:=l) (vi g gg) V (ay V jT) (by show ah _ _=_;rw[aj,gG,List.map_replicate]) V V V V V (bu.set V) (Rd.skip V dS) V V (λσ H2 nx2 lv hσ MI hF2 bN mh fg=>?_));refine kW (lO (WC.sub hσ ?_))
 repeat' (first|refine aE ?_|fail)
 refine WC.sub aX (afW (nb:=nx) (nx0:=aQ+1) hr cD V MI V V bN mh g.len V (λσ H3 bW lv3 hσ KG de j8=>?_));refine kW (lO (WC.sub hσ ?_))
 repeat' (first|refine aE ?_|fail)
 refine aD (vs:=[_]) rfl ⟨aQ+1,V,V,?_,de⟩;unfold aP ow;rw[iW g gg];exact KG
end
section
theorem UA{nxt:List Int}:∀{m k:Nat} {s:List Bool} {f:List Int},(qE nxt m s k f).2.length<=f.length+m:=by
 intro m
 induction m with
 | zero=>intro k s f;exact au _
 | succ m ih=>
  intro k s f;show (if s.getD k true then(s,f)else _:List Bool×List Int).2.length<=_;split
  ·show f.length<=_;omega
  ·refine hX ih ?_;rw[cm];show f.length+1+m<=_;omega
theorem yX{nxt:List Int}:∀{k:Nat},(aV nxt k).2.length<=k:=by
 intro k
 induction k with
 | zero=>exact au _
 | succ k ih=>exact se ih
theorem yY{nxt:List Int}:∀{k:Nat} {f:List Int},f∈(aV nxt k).2->∃h,h<k/\f=(qE nxt nxt.length (aV nxt h).1 h []).2/\f≠[]:=by
 intro k
 induction k with
 | zero=>intro f hf;simp[aV]at hf
 | succ k ih=>
  intro f hf;rw[gH]at hf;unfold pU at hf;simp only at hf;split at hf
  ·obtain⟨h,h1,h2,h3⟩:=ih hf;exact⟨h,V,h2,h3⟩
  ·rename_i cG;rcases ee.1 hf with hf|hf
   ·obtain⟨h,h1,h2,h3⟩:=ih hf;exact⟨h,V,h2,h3⟩
   ·have:=fe.1 hf;exact⟨k,V,this,by rw[this];exact cG⟩
theorem YP{nxt:List Int}(hn:pV nxt):∀{m k:Nat} {s:List Bool} {f:List Int},k<nxt.length->(∀x∈f,∃q:Nat,x=(q:Int)/\q<nxt.length)->∀x∈(qE nxt m s k f).2,∃q:Nat,x=(q:Int)/\q<nxt.length:=by
 intro m
 induction m with
 | zero=>intro k s f hk hf;exact hf
 | succ m ih=>
  intro k s f hk hf;show ∀x∈(if s.getD k true then(s,f)else _:List Bool×List Int).2,_;split
  ·exact hf
  ·obtain⟨q,h1,h2⟩:=hn k hk;have e:(nxt.getD k 0).toNat=q:=by rw[aY,h1];rfl
   refine ih (by rw[e];exact h2) λx hx=>?_
   rcases ee.1 hx with hx|hx
   ·exact hf x hx
   ·exact⟨k,fe.1 hx,hk⟩
structure iI(fs:List (List Int))(m:Nat):Prop where
 YQ:fs.length<=20000
 row:∀i,(fs.getD i []).length<=8000
 inn:∀i k,k<(fs.getD i []).length->∃q:Nat,(fs.getD i [])[k]?=some (q:Int)/\q<m
theorem yZ{r:List (List Int)}{nxt:List Int}{f:List Int}(hf:f∈ow r nxt):f=[]\/∃h,h<nxt.length/\f=(qE nxt nxt.length (aV nxt h).1 h []).2/\f≠[]:=by
 rcases ee.1 hf with hf|hf
 ·exact .inr (yY hf)
 ·unfold qF at hf;have:=(rC.1 hf).2;exact .inl (mM (by simpa using this))
theorem FX{α:Type}{l:List (List α)}{i:Nat}(h:l.getD i []≠[]):l.getD i []∈l:=by
 rw[aY]at h ⊢;cases h1:l[i]? with
 | none=>rw[h1]at h;exact absurd rfl h
 | some x=>exact dM h1
theorem QW{n:Int}{es:List Ed}{r:List (List Int)}{l:List Int}(g:dk n es r)(h:gi es r l):iI (ow r l) (2*es.length):=by
 obtain⟨m0,m1,m2,_⟩:=g.may;have hn:=g.len;have hl:=h.1;have hh:=vi g h;refine⟨?_,λi=>?_,λi k hk=>?_⟩
 ·unfold ow;rw[cm];have:=yX (nxt:=l) (k:=l.length);have:=IF (r:=r) (k:=r.length);omega
 ·by_cases e:(ow r l).getD i []=[]
  ·rw[e];exact bS _
  ·rcases yZ (FX e)with h1|⟨h,_,h1,_⟩
   ·rw[h1];exact bS _
   ·rw[h1];have:=UA (nxt:=l) (m:=l.length) (k:=h) (s:=(aV l h).1) (f:=[]);simp only[gp]at this;omega
 ·have e:(ow r l).getD i []≠[]:=by intro e;rw[e]at hk;simp at hk
  rcases yZ (FX e)with h1|⟨h,h0,h1,_⟩
  ·exact absurd h1 e
  ·have:=YP hh (m:=l.length) (s:=(aV l h).1) (f:=[]) h0 (λx hx=>by cases hx) ((ow r l).getD i [])[k] (by rw[<-h1];exact jE hk);obtain⟨q,q1,q2⟩:=this;exact⟨q,by rw[aM hk,q1],V⟩
def FY(l:List Int)(i:Nat)(f:List Int):List Int:=f.foldl (λl h=>l.set h.toNat (i:Int)) l
def SH(m:Nat)(fs:List (List Int))(k:Nat):List Int:=(List.range k).foldl (λl i=>FY l i (fs.getD i [])) (List.replicate m 0)
theorem tP{m k:Nat}{fs:List (List Int)}:SH m fs (k+1)=FY (SH m fs k) k (fs.getD k []):=by
 unfold SH;rw[K8,Hc];rfl
theorem FZ{l f:List Int}{i k:Nat}{x:Int}(h:f[k]?=some x):FY l i (f.take (k+1))=(FY l i (f.take k)).set x.toNat (i:Int):=by
 unfold FY;rw[List.take_add_one,h,Hc];rfl
theorem Dh{i:Nat}:∀{f l:List Int},(FY l i f).length=l.length:=by
 intro f
 induction f with
 | nil=>intro l;rfl
 | cons x f ih=>
  intro l;show (FY (l.set x.toNat (i:Int)) i f).length=_;rw[ih,iq]
theorem xq{m:Nat}{fs:List (List Int)}:∀{k:Nat},(SH m fs k).length=m:=by
 intro k
 induction k with
 | zero=>show (List.replicate m 0).length=m;rw[NY]
 | succ k ih=>rw[tP,Dh,ih]
noncomputable def aG(es:List Ed)(r:List (List Int)):List Int:=SH (2*es.length) (aP es r) (aP es r).length
end
section
variable {A:aN}{H H':Heap}{nx nx':Nat}{σ:aR}{Q:cw}
theorem AL{f:FuncId}(hf:A.funcs f=some BC)(hh:zhN A f)(h72:A.funcs 67=some tG)(QX:zhN A 67)(NH:A.funcs 53=some vZ)(wN:zhN A 53)(h73:A.funcs 88=some yH)(QY:zhN A 88)(IH:A.funcs 111=some u7)(yW:zhN A 111){n:Int}{ev rv:Value}{es:List Ed}{r:List (List Int)}(h0:aH n es r=0)(he:bL H nx 2 aW ev es)(hr:er H nx 1 aZ rv r)(cD:cR r) :
  WF A f [.agg #[.int .i64 n,ev],rv] H nx λv H' nx'=>∃fv nx0,v=oneOf [fv,.int .i64 0]/\nx<=nx0/\nx0<=nx'/\LL H' nx0 nx' fv (aP es r)/\aq H H' nx:=by
 have g:=dy h0;obtain⟨m0,m1,m2,_⟩:=g.may;obtain⟨base,ec,rfl⟩:=he.form;obtain⟨cN,rc,rfl⟩:=hr.form;refine WF.enter (hh _ _ _) hf ?_
 repeat' (first|refine aE ?_|fail)
 have bF:aq H (aC H nx [.int .i64 n,.slice base es.length ec]) nx:=aq.refl.set (au _);refine WO.cn rfl ?_;refine(mH h72 NH QX wN ((he.same bF).up (cE _)) ((hr.same bF).up (cE _)) cD).of ?_;rintro _ H1 aQ ⟨rfl,bt,cH⟩;have bu:aq H H1 nx:=bF.trans bt V;have dS:Rd H1 nx [.int .i64 n,.slice base es.length ec]:=bt.rd V Rd.self;rw[h0]
 repeat' (first|refine aE ?_|(refine bJ ?_ ?_<;>intro h<;>(try simp only[aL]at h))|fail)
 ·omega
 refine WO.cn rfl ?_;refine(sf h73 QY IH yW g ((he.same bu).up V) ((hr.same bu).up V) cD V).of ?_;rintro fv H2 nx2 ⟨nx0,yz,fg,hL,bN⟩
 repeat' (first|refine aE ?_|fail)
 exact aD (vs:=[_,_]) rfl ⟨fv,nx0,rfl,V,fg,hL,bu.trans bN V⟩
theorem QZ{m i:Nat}{fs:List (List Int)}{na nx0 nb lb:Nat}{ib:Option Addr}{ic lc:Nat}{fv:Value}{Ha H0:Heap}{l:List Int}(ok:iI fs m)(hi:bL H0 nb 1 aZ (.slice ib (fs.getD i []).length ic) (fs.getD i []))(uo:l.length=m)(jT:i<=1048576)(Hz:∀q,bk (.slice ib (fs.getD i []).length ic)=some q->nx0<=q)(hl:aB H lb l)(YR:na<=lb)(sQ:lb<nx0)(o9:lb<nx)(cM:aq Ha H na)(ie:eL H0 H nx0 nb)(bq:∀σ H' nx',bD [(S7,.slice (some ⟨lb,0,some 1⟩) m lc),(vY,fv),(tC,.int .i64 ((fs.length:Nat):Int)),(xi,.int .i64 ((i:Nat):Int))] σ->
   aB H' lb (FY l i (fs.getD i []))->aq Ha H' na->eL H0 H' nx0 nb->nx<=nx'->Q (.exit 2) σ H' nx') :
  WC A (.loop X5) [(S7,.slice (some ⟨lb,0,some 1⟩) m lc),(vY,fv),(tC,.int .i64 ((fs.length:Nat):Int)),(xi,.int .i64 ((i:Nat):Int)),(S8,.int .i64 ((i:Nat):Int)),(Qa,.slice ib (fs.getD i []).length ic),(CZ,.int .i64 (((fs.getD i []).length:Nat):Int)),(ND,.int .i64 0)] H nx Q:=by
 refine WC.loop (α:=Nat) (λk=>[(S7,.slice (some ⟨lb,0,some 1⟩) m lc),(vY,fv),(tC,.int .i64 ((fs.length:Nat):Int)),(xi,.int .i64 ((i:Nat):Int)),(S8,.int .i64 ((i:Nat):Int)),(Qa,.slice ib (fs.getD i []).length ic),(CZ,.int .i64 (((fs.getD i []).length:Nat):Int)),(ND,.int .i64 ((k:Nat):Int))])
  (λk H' nx'=>k<=(fs.getD i []).length/\nx<=nx'/\aB H' lb (FY l i ((fs.getD i []).take k))/\aq Ha H' na/\eL H0 H' nx0 nb) (λk=>(fs.getD i []).length-k)
  ?_ 0 aX ⟨bS _,au _,hl,cM,ie⟩
 rintro k H1 aQ ⟨hk,cH,jB,br,sg⟩;have dv:=ok.row i;have MC:ah H1 (at_ lb)=some (.cells ((FY l i ((fs.getD i []).take k)).map (.int .i64))):=jB;have hlen:(FY l i ((fs.getD i []).take k)).length=m:=by rw[Dh];exact uo
 unfold X5
 repeat' (first|refine aE ?_|(refine bJ ?_ ?_<;>intro h<;>(try simp only[aL]at h))|fail)
 ·have bQ:k<(fs.getD i []).length:=V;obtain⟨bb,bo,tN,rfl,iy,_,_,G2,jC⟩:=hi.at (by intro e;rw[e]at bQ;simp at bQ);obtain⟨q,hq,KI⟩:=ok.inn i k bQ;have q1:=cX (v:=.int .i64 (q:Int)) (jC k _ hq);have QR:=sg.rd (Hz bb rfl) iy G2;have bO:=FZ (l:=l) (i:=i) hq;rw[eE]at bO
  repeat' (first|refine aE ?_|fail)
  refine⟨k+1,by show (fs.getD i []).length-(k+1)<(fs.getD i []).length-k;omega,.cons rfl aX,V,V,?_,br.set V,sg.set V⟩;rw[bO];unfold aB;rw[aj,List.map_set]
  congr 3
  first|done|rfl|omega
 ·have:k=(fs.getD i []).length:=V;subst this;rw[iJ]at jB;exact bq _ _ _ aX jB br sg cH
theorem Q0{m:Nat}{fs:List (List Int)}{na nx0 nb lb:Nat}{fb:Option Addr}{fc lc:Nat}{Ha H0:Heap}(ok:iI fs m)(AH:LL H0 nx0 nb (.slice fb fs.length fc) fs)(hl:aB H lb (List.replicate m 0))(YR:na<=lb)(sQ:lb<nx0)(o9:lb<nx)(cM:aq Ha H na)(ie:eL H0 H nx0 nb)(bq:∀σ H' nx',bD [(S7,.slice (some ⟨lb,0,some 1⟩) m lc)] σ->aB H' lb (SH m fs fs.length)->aq Ha H' na->eL H0 H' nx0 nb->nx<=nx'->Q (.exit 0) σ H' nx') :
  WC A (.loop X6) [(S7,.slice (some ⟨lb,0,some 1⟩) m lc),(vY,.slice fb fs.length fc),(tC,.int .i64 ((fs.length:Nat):Int)),(xi,.int .i64 0)] H nx Q:=by
 refine WC.loop (α:=Nat) (λv=>[(S7,.slice (some ⟨lb,0,some 1⟩) m lc),(vY,.slice fb fs.length fc),(tC,.int .i64 ((fs.length:Nat):Int)),(xi,.int .i64 ((v:Nat):Int))])
  (λv H' nx'=>v<=fs.length/\nx<=nx'/\aB H' lb (SH m fs v)/\aq Ha H' na/\eL H0 H' nx0 nb) (λv=>fs.length-v)
  ?_ 0 aX ⟨bS _,au _,hl,cM,ie⟩
 rintro v H1 aQ ⟨hv,cH,jB,br,sg⟩;have Q1:=ok.YQ;have dv:=ok.row v;unfold X6
 repeat' (first|refine aE ?_|(refine bJ ?_ ?_<;>intro h<;>(try simp only[aL]at h))|fail)
 ·have mG:v<fs.length:=V;have kE:fs.getD v []=fs[v]:=by rw[aY,aM mG];rfl
  obtain⟨rb,ro,Wa,ib,ic,rfl,HL,uh,rX,vd,hi,Hz⟩:=AH.at mG;rw[<-kE]at vd hi Hz;have FT:=sg.rd HL uh rX
  repeat' (first|refine aE ?_|fail)
  refine WC.sub aX (QZ ok hi xq V Hz jB YR sQ V br sg (λσ H2 nx2 hσ nc eK QM fg=>?_));refine kW (Md (lO (WC.sub hσ ?_)))
  repeat' (first|refine aE ?_|fail)
  exact⟨v+1,by show fs.length-(v+1)<fs.length-v;omega,.cons rfl aX,V,V,by rw[tP];exact nc,eK,QM⟩
 ·have:v=fs.length:=V;subst this;exact bq _ _ _ aX jB br sg cH
theorem IJ{n:Int}{es:List Ed}{r:List (List Int)}{l:List Int}(g:dk n es r)(h:gi es r l):iI (aP es r) (2*es.length):=by
 unfold aP;rw[iW g h];exact QW g h
theorem UB{f:FuncId}(hf:A.funcs f=some xOf)(hh:zhN A f)(h72:A.funcs 67=some tG)(QX:zhN A 67)(NH:A.funcs 53=some vZ)(wN:zhN A 53)(h73:A.funcs 88=some yH)(QY:zhN A 88)(IH:A.funcs 111=some u7)(yW:zhN A 111){n:Int}{ev rv:Value}{es:List Ed}{r:List (List Int)}(h0:aH n es r=0)(ok:iI (aP es r) (2*es.length))(he:bL H nx 2 aW ev es)(hr:er H nx 1 aZ rv r)(cD:cR r) :
  WF A f [.agg #[.int .i64 n,ev],rv] H nx λv H' nx'=>∃b c,v=oneOf [.slice (some ⟨b,0,some 1⟩) (2*es.length) c,.int .i64 0]/\2*es.length<=aF c/\nx<=b/\b<nx'/\aB H' b (aG es r)/\aq H H' nx/\nx<=nx':=by
 have g:=dy h0;obtain⟨m0,m1,m2,_⟩:=g.may;obtain⟨base,ec,rfl⟩:=he.form;obtain⟨cN,rc,rfl⟩:=hr.form;refine WF.enter (hh _ _ _) hf ?_
 repeat' (first|refine aE ?_|fail)
 have bF:aq H (aC H nx [.int .i64 n,.slice base es.length ec]) nx:=aq.refl.set (au _);refine WO.cn rfl ?_;refine(mH h72 NH QX wN ((he.same bF).up (cE _)) ((hr.same bF).up (cE _)) cD).of ?_;rintro _ H1 aQ ⟨rfl,bt,cH⟩;have bu:aq H H1 nx:=bF.trans bt V;have dS:Rd H1 nx [.int .i64 n,.slice base es.length ec]:=bt.rd V Rd.self;rw[h0]
 repeat' (first|refine aE ?_|(refine bJ ?_ ?_<;>intro h<;>(try simp only[aL]at h))|fail)
 ·omega
 have bV:=bu.set (H1:=H1) (b:=aQ) (cs:=bj [.int .i64 0] (2*es.length)) V;refine WO.ck rfl ?_;refine(sf h73 QY IH yW g ((he.same bV).up V) ((hr.same bV).up V) cD V).of ?_;rintro fv H2 nx2 ⟨nx0,yz,fg,hL,bN⟩;obtain⟨fb,fc,rfl⟩:=hL.form
 repeat' (first|refine aE ?_|fail)
 have k9:aB H2 aQ (List.replicate (2*es.length) 0):=fW ((bN aQ V).trans aj);refine WC.sub aX (Q0 (na:=nx) (nx0:=nx0) (nb:=nx2) ok hL k9 V V V (bV.trans bN V) .refl (λσ H3 bW hσ YM de afX j8=>?_));refine kW (lO (WC.sub hσ ?_))
 repeat' (first|refine aE ?_|fail)
 exact aD (vs:=[_,_]) rfl ⟨_,_,rfl,by rw[bU];omega,V,V,YM,de,V⟩
theorem MJ{m i:Nat}{fs:List (List Int)}{na nx0 nb lb:Nat}{fb:Option Addr}{fc lc:Nat}{Ha H0:Heap}{l:List Int}(ok:iI fs m)(AH:LL H0 nx0 nb (.slice fb fs.length fc) fs)(uo:l.length=m)(jT:i<fs.length)(hl:aB H lb l)(YR:na<=lb)(sQ:lb<nx0\/nb<=lb)(o9:lb<nx)(cM:aq Ha H na)(ie:eL H0 H nx0 nb)(bq:∀σ H' nx',bD [(S5,.slice fb fs.length fc),(S6,.slice (some ⟨lb,0,some 1⟩) m lc),(S7,.int .i64 ((i:Nat):Int))] σ->
   aB H' lb (FY l i (fs.getD i []))->aq Ha H' na->eL H0 H' nx0 nb->nx<=nx'->Q (.exit 2) σ H' nx') :
  WC A (.loop P7) [(S5,.slice fb fs.length fc),(S6,.slice (some ⟨lb,0,some 1⟩) m lc),(S7,.int .i64 ((i:Nat):Int)),(S8,.int .i64 0)] H nx Q:=by
 refine WC.loop (α:=Nat) (λk=>[(S5,.slice fb fs.length fc),(S6,.slice (some ⟨lb,0,some 1⟩) m lc),(S7,.int .i64 ((i:Nat):Int)),(S8,.int .i64 ((k:Nat):Int))])
  (λk H' nx'=>k<=(fs.getD i []).length/\nx<=nx'/\aB H' lb (FY l i ((fs.getD i []).take k))/\aq Ha H' na/\eL H0 H' nx0 nb) (λk=>(fs.getD i []).length-k)
  ?_ 0 aX ⟨bS _,au _,hl,cM,ie⟩
 rintro k H1 aQ ⟨hk,cH,jB,br,sg⟩;have dv:=ok.row i;have Q1:=ok.YQ;have MC:ah H1 (at_ lb)=some (.cells ((FY l i ((fs.getD i []).take k)).map (.int .i64))):=jB;have hlen:(FY l i ((fs.getD i []).take k)).length=m:=by rw[Dh];exact uo
 have kE:fs.getD i []=fs[i]:=by rw[aY,aM jT];rfl
 obtain⟨rb,ro,Wa,ib,ic,rfl,HL,uh,rX,vd,hi,Hz⟩:=AH.at jT;rw[<-kE]at vd hi Hz;have FT:=sg.rd HL uh rX;unfold P7
 repeat' (first|refine aE ?_|(refine bJ ?_ ?_<;>intro h<;>(try simp only[aL]at h))|fail)
 ·have bQ:k<(fs.getD i []).length:=V;obtain⟨bb,bo,tN,rfl,iy,_,_,G2,jC⟩:=hi.at (by intro e;rw[e]at bQ;simp at bQ);obtain⟨q,hq,KI⟩:=ok.inn i k bQ;have q1:=cX (v:=.int .i64 (q:Int)) (jC k _ hq);have QR:=sg.rd (Hz bb rfl) iy G2;have bO:=FZ (l:=l) (i:=i) hq;rw[eE]at bO
  repeat' (first|refine aE ?_|fail)
  refine⟨k+1,by show (fs.getD i []).length-(k+1)<(fs.getD i []).length-k;omega,.cons rfl aX,V,V,?_,br.set V,sg.set V⟩;rw[bO];unfold aB;rw[aj,List.map_set]
  congr 3
  first|done|rfl|omega
 ·have:k=(fs.getD i []).length:=V;subst this;rw[iJ]at jB;exact bq _ _ _ aX jB br sg cH
theorem MK{m:Nat}{fs:List (List Int)}{na nx0 nb lb:Nat}{fb:Option Addr}{fc lc:Nat}{Ha H0:Heap}(ok:iI fs m)(AH:LL H0 nx0 nb (.slice fb fs.length fc) fs)(hl:aB H lb (List.replicate m 0))(YR:na<=lb)(sQ:lb<nx0\/nb<=lb)(o9:lb<nx)(cM:aq Ha H na)(ie:eL H0 H nx0 nb)(bq:∀σ H' nx',bD [(S6,.slice (some ⟨lb,0,some 1⟩) m lc)] σ->aB H' lb (SH m fs fs.length)->aq Ha H' na->eL H0 H' nx0 nb->nx<=nx'->Q (.exit 0) σ H' nx') :
  WC A (.loop P8) [(S5,.slice fb fs.length fc),(S6,.slice (some ⟨lb,0,some 1⟩) m lc),(S7,.int .i64 0)] H nx Q:=by
 refine WC.loop (α:=Nat) (λv=>[(S5,.slice fb fs.length fc),(S6,.slice (some ⟨lb,0,some 1⟩) m lc),(S7,.int .i64 ((v:Nat):Int))])
  (λv H' nx'=>v<=fs.length/\nx<=nx'/\aB H' lb (SH m fs v)/\aq Ha H' na/\eL H0 H' nx0 nb) (λv=>fs.length-v)
  ?_ 0 aX ⟨bS _,au _,hl,cM,ie⟩
 rintro v H1 aQ ⟨hv,cH,jB,br,sg⟩;have Q1:=ok.YQ;have dv:=ok.row v;unfold P8
 repeat' (first|refine aE ?_|(refine bJ ?_ ?_<;>intro h<;>(try simp only[aL]at h))|fail)
 ·have mG:v<fs.length:=V;refine WC.sub aX (MJ ok AH xq mG jB YR sQ V br sg (λσ H2 nx2 hσ nc eK QM fg=>?_));refine kW (Md (lO (WC.sub hσ ?_)))
  repeat' (first|refine aE ?_|fail)
  exact⟨v+1,by show fs.length-(v+1)<fs.length-v;omega,.cons rfl aX,V,V,by rw[tP];exact nc,eK,QM⟩
 ·have:v=fs.length:=V;subst this;exact bq _ _ _ aX jB br sg cH
theorem Q2{f:FuncId}(hf:A.funcs f=some abY)(hh:zhN A f)(h12:A.funcs 43=some tH)(Q3:zhN A 43)(YO:A.funcs 75=some BB)(II:zhN A 75)(QS:A.funcs 74=some wb)(yU:zhN A 74){n:Int}{ev rv:Value}{es:List Ed}{r:List (List Int)}(g:dk n es r)(ok:iI (aP es r) (2*es.length))(he:bL H nx 2 aW ev es)(hr:er H nx 1 aZ rv r)(cD:cR r) :
  WF A f [.agg #[.int .i64 n,ev],rv] H nx λv H' nx'=>∃b c,v=.slice (some ⟨b,0,some 1⟩) (2*es.length) c/\2*es.length<=aF c/\nx<=b/\b<nx'/\aB H' b (aG es r)/\aq H H' nx/\nx<=nx':=by
 obtain⟨m0,m1,m2,_⟩:=g.may;obtain⟨base,ec,rfl⟩:=he.form;obtain⟨cN,rc,rfl⟩:=hr.form;refine WF.enter (hh _ _ _) hf ?_
 repeat' (first|refine aE ?_|fail)
 have bF:aq H (aC H nx [.int .i64 n,.slice base es.length ec]) nx:=aq.refl.set (au _);refine WO.cn rfl ?_;refine(pW h12 Q3 YO II QS yU g ((he.same bF).up V) ((hr.same bF).up V) cD V).of ?_;rintro fv H2 nx2 ⟨nx0,yz,fg,hL,bN⟩;obtain⟨fb,fc,rfl⟩:=hL.form;have k9:Rd H2 nx [.int .i64 n,.slice base es.length ec]:=bN.rd V Rd.self
 repeat' (first|refine aE ?_|fail)
 have bV:=(bF.trans bN V).set (b:=nx2) (cs:=bj [.int .i64 0] (2*es.length)) V;refine WC.sub aX (MK (na:=nx) (nx0:=nx0) (nb:=nx2) ok hL (fW aj) V V V bV (eL.refl.set (.inr (au _))) (λσ H3 bW hσ YM de afX j8=>?_));refine kW (lO (WC.sub hσ ?_))
 repeat' (first|refine aE ?_|fail)
 exact aD (vs:=[_]) rfl ⟨_,_,rfl,by rw[bU];omega,V,V,YM,de,V⟩
end
section
def dY(es:List Ed)(k v:Nat):List Int:=((List.range k).filter λh=>bZ es h=(v:Int)).map λ(h:Nat)=>(h:Int)
def iz(es:List Ed)(n k:Nat):List (List Int):=(List.range n).map (dY es k)
theorem dG{es:List Ed}{n k:Nat}:(iz es n k).length=n:=by unfold iz;simp
theorem pX{es:List Ed}{n k v:Nat}(hv:v<n):(iz es n k)[v]?=some (dY es k v):=by
 unfold iz;rw[eD,wz hv];rfl
theorem lp{es:List Ed}{n k v:Nat}(hv:v<n):(iz es n k).getD v []=dY es k v:=by
 rw[aY,pX hv];rfl
theorem ML{es:List Ed}{k v:Nat}:dY es (k+1) v=if bZ es k=(v:Int)then dY es k v++[(k:Int)]else dY es k v:=by
 unfold dY;rw[K8,List.filter_append,jG];by_cases e:bZ es k=(v:Int)
 ·rw[aJ e,List.filter_cons_of_pos (by simpa using e)];rfl
 ·rw[aw e,List.filter_cons_of_neg (by simpa using e)];show _++[]=_;rw[gN]
theorem BN{es:List Ed}{n k v:Nat}(hv:v<n)(he:bZ es k=(v:Int)):iz es n (k+1)=(iz es n k).set v ((iz es n k).getD v []++[(k:Int)]):=by
 apply mb;intro i;rw[fZ,lp hv];by_cases hi:i<n
 ·rw[pX hi,ML,dG];by_cases e:v=i
  ·subst e;rw[aJ rfl,aJ hv,aJ he]
  ·rw[aw e,aw (by rw[he];omega),pX hi]
 ·rw[gx (by rw[dG];omega)];by_cases e:v=i
  ·omega
  ·rw[aw e,gx (by rw[dG];omega)]
theorem nD{es:List Ed}{k v:Nat}:(dY es k v).length<=k:=by
 unfold dY;rw[ja];refine hX (Ac _ _) ?_;rw[SQ];exact au _
theorem F0{es:List Ed}{k v:Nat}{x:Int}:x∈dY es k v↔∃h:Nat,x=(h:Int)/\h<k/\bZ es h=(v:Int):=by
 unfold dY;constructor
 ·intro hx;obtain⟨h,h1,rfl⟩:=pg.1 hx;obtain⟨h2,h3⟩:=rC.1 h1;exact⟨h,rfl,wC.1 h2,by simpa using h3⟩
 ·rintro⟨h,rfl,h1,h2⟩;exact pg.2 ⟨h,rC.2 ⟨wC.2 h1,by simpa using h2⟩,rfl⟩
def GS(H:Heap)(nx0 nx ob:Nat)(ls:List (List Int)):Prop:=
 ∃us:List Value,us.length=ls.length/\ah H (at_ ob)=some (.cells us)/\(∀(i:Nat) (u:Value) (l:List Int),us[i]?=some u->ls[i]?=some l->bP H nx0 nx 1 u l.length (l.map (.int .i64)))/\∀(i j:Nat) (u w:Value) (b:Nat),us[i]?=some u->us[j]?=some w->bk u=some b->bk w=some b->i=j
section
variable {A:aN}{H H':Heap}{nx nx':Nat}{σ:aR}{L:List Value}
theorem y0:∀n:Nat,bj [Value.slice none 0 0] n=List.replicate n (.slice none 0 0):=λn=>gG _ n
theorem GS.zero{nx0 ob n:Nat}(h:ah H (at_ ob)=some (.cells (bj [.slice none 0 0] n))):GS H nx0 nx ob (List.replicate n []):=by
 refine⟨List.replicate n (.slice none 0 0),by simp,by rw[h,y0],λi u l hu hl=>?_,λi j u w b hu hw hbu=>?_⟩
 ·rw[mN]at hu hl;split at hu
  ·rename_i hi;rw[aJ hi]at hl;cases hu;cases hl
   exact .nil
  ·cases hu
 ·rw[mN]at hu;split at hu
  ·cases hu;cases hbu
  ·cases hu
theorem nE{nx0 n b:Nat}{v:Value}{cs:List Value}(h:bP H nx0 nx 1 v n cs)(hb:bk v=some b):nx0<=b/\b<nx/\ah H (at_ b)=some (.cells cs)/\v=.slice (some ⟨b,0,some 1⟩) n (2*n):=by
 obtain⟨_,⟨rfl,_⟩|⟨c,rfl,g1,g2,g3⟩⟩:=h
 ·cases hb
 ·cases hb;exact⟨g1,g2,g3,rfl⟩
theorem jX{nx0 n:Nat}{v:Value}{cs:List Value}(h:bP H nx0 nx 1 v n cs):∃b c,v=.slice b n c:=by
 obtain⟨_,⟨rfl,rfl⟩|⟨c,rfl,g1,g2,g3⟩⟩:=h
 ·exact⟨_,_,rfl⟩
 ·exact⟨_,_,rfl⟩
theorem GS.frame{nx0 ob:Nat}{ls:List (List Int)}(h:GS H nx0 nx ob ls)(ho:ah H' (at_ ob)=ah H (at_ ob))(hs:eL H H' nx0 nx)(hn:nx<=nx'):GS H' nx0 nx' ob ls:=by
 obtain⟨us,h1,h2,h3,h4⟩:=h;exact⟨us,h1,ho.trans h2,λi u l hu hl=>(h3 i u l hu hl).vX hs hn,h4⟩
theorem GS.row{nx0 ob v:Nat}{ls:List (List Int)}(h:GS H nx0 nx ob ls)(hv:v<ls.length) :
  ∃us u,us.length=ls.length/\ah H (at_ ob)=some (.cells us)/\us[0+v*1]?=some u/\bP H nx0 nx 1 u (ls.getD v []).length ((ls.getD v []).map (.int .i64)):=by
 obtain⟨us,h1,h2,h3,_⟩:=h;have hu:us[v]?=some us[v]:=aM V;refine⟨us,us[v],h1,h2,by rw[Nat.zero_add,Nat.mul_one];exact hu,h3 v _ _ hu ?_⟩;rw[aY,aM hv];rfl
theorem GS.push{nx0 ob v:Nat}{x:Int}{ls:List (List Int)}{us:List Value}{u:Value}{H1:Heap}(h:GS H nx0 nx ob ls)(hv:v<ls.length)(sB:ah H (at_ ob)=some (.cells us))(hu:us[0+v*1]?=some u)(ho:ob<nx0)(h0:nx0<=nx)(k1:ah H1 (at_ nx)=some (.cells ((ls.getD v []).map (.int .i64)++[.int .i64 x])))(k2:∀b,nx0<=b->b<nx->bk u≠some b->ah H1 (at_ b)=ah H (at_ b)) :
  GS (aC H1 ob (us.set v (.slice (some ⟨nx,0,some 1⟩) ((ls.getD v []).length+1) (2*((ls.getD v []).length+1))))) nx0 (nx+1) ob (ls.set v (ls.getD v []++[x])):=by
 obtain⟨us',h1,h2,h3,h4⟩:=h;rw[sB]at h2;cases h2;rw[Nat.zero_add,Nat.mul_one]at hu;refine⟨us.set v (.slice (some ⟨nx,0,some 1⟩) ((ls.getD v []).length+1) (2*((ls.getD v []).length+1))),by rw[iq,iq];exact h1,by rw[aj],λi w l hw hl=>?_,λi j w w' b hw LD hb ia=>?_⟩
 ·rw[fZ]at hw hl;by_cases e:v=i
  ·subst e;rw[aJ rfl,aJ V]at hw;rw[aJ rfl,aJ hv]at hl;cases hw;cases hl
   refine⟨by simp,.inr ⟨nx,by simp,h0,V,?_⟩⟩;rw[ak,aw V,k1,jG];rfl
  ·rw[aw e]at hw hl;have hg:=h3 i w l hw hl;obtain⟨mR,Nx|⟨b,rfl,g1,g2,g3⟩⟩:=hg
   ·exact⟨mR,.inl Nx⟩
   ·refine⟨mR,.inr ⟨b,rfl,g1,V,?_⟩⟩;rw[ak,aw V,k2 b g1 g2 (λhub=>e (h4 v i u _ b hu hw hub rfl))];exact g3
 ·have key:∀(i:Nat) (w:Value) (b:Nat),(us.set v (.slice (some ⟨nx,0,some 1⟩) ((ls.getD v []).length+1) (2*((ls.getD v []).length+1))))[i]?=some w->bk w=some b->(i=v/\b=nx)\/(i≠v/\us[i]?=some w/\b<nx):=by
   intro i w b hw hb;rw[fZ]at hw;by_cases e:v=i
   ·subst e;rw[aJ rfl,aJ V]at hw;cases hw;cases hb
    exact .inl ⟨rfl,rfl⟩
   ·rw[aw e]at hw;have hi:i<us.length:=(cS.1 hw).1;exact .inr ⟨λh=>e h.symm,hw,(nE (h3 i w _ hw (aM V)) hb).2.1⟩
  rcases key i w b hw hb with⟨rfl,e1⟩|⟨n1,w1,l1⟩<;>rcases key j w' b LD ia with⟨e2,e3⟩|⟨n2,w2,l2⟩
  ·exact e2.symm
  ·omega
  ·omega
  ·exact h4 i j w w' b w1 w2 hb ia
theorem bP.cell{nx0 k:Nat}{u:Value}{l:List Int}{x:Int}(h:bP H nx0 nx 1 u l.length (l.map (.int .i64)))(hx:l[k]?=some x):∃b c,u=.slice (some ⟨b,0,some 1⟩) l.length c/\nx0<=b/\b<nx/\ah H (at_ b)=some (.cells (l.map (.int .i64)))/\(l.map (Value.int .i64))[0+k*1]?=some (.int .i64 x):=by
 have hk:=(cS.1 hx).1;obtain⟨_,⟨_,h0⟩|⟨b,rfl,g1,g2,g3⟩⟩:=h
 ·omega
 ·exact⟨b,_,rfl,g1,g2,g3,aB.cell hx⟩
end
end
section
variable {A:aN}{H H':Heap}{nx nx':Nat}{σ:aR}{Q:cw}
theorem UC{n:Int}{es:List Ed}{base:Option Addr}{c:Nat}{H:Heap}{nx:Nat}(he:bL H nx 2 aW (.slice base es.length c) es):mc (.agg #[.int .i64 n,.slice base es.length c]) (.agg #[.int .i64 n,.slice base es.length c])=true:=by
 obtain⟨Pz,c',q1,q2,_⟩:=he;cases q1;have:ff (.slice base es.length c) (.slice base es.length c)=true:=by
  cases base with
  | none=>obtain⟨p1,rfl⟩:=q2 rfl;rw[p1];rfl
  | some a=>simp[ff]
 show (ff (.int .i64 n) (.int .i64 n)&&(ff (.slice base es.length c) (.slice base es.length c)&&true))=true;rw[this];simp[ff]
theorem vj{n:Int}{es:List Ed}(hm:kK n es){h:Nat}(hl:h<2*es.length):∃v:Nat,bZ es h=(v:Int)/\(v:Int)<n:=by
 obtain⟨_,_,_,ie⟩:=hm;have nc:h / 2<es.length:=V;obtain⟨q1,q2,q3,q4⟩:=ie es[h / 2] (jE nc);have hg:es.getD (h / 2) (0,0)=es[h / 2]:=by rw[aY,aM nc];rfl
 unfold bZ;rw[hg];split
 ·exact⟨es[h / 2].1.toNat,V,V⟩
 ·exact⟨es[h / 2].2.toNat,V,V⟩
theorem ouL{n:Int}{m nb ob:Nat}{es:List Ed}{base:Option Addr}{ec oc:Nat}{H0:Heap}(De:A.funcs 87=some pP)(ou:zhN A 87)(hm:kK n es)(iL:n=(m:Int))(he:bL H0 nb 2 aW (.slice base es.length ec) es)(sQ:nb<ob)(si:ob<nx)(hs:aq H0 H nb)(jz:Rd H nb [.int .i64 n,.slice base es.length ec])(hg:GS H (ob+1) nx ob (List.replicate m []))(bq:∀σ H' nx',bD [(S3,.slice (some ⟨ob,0,some 1⟩) m oc)] σ->GS H' (ob+1) nx' ob (iz es m (2*es.length))->aq H0 H' nb->nx<=nx'->Q (.exit 0) σ H' nx') :
  WC A (.loop XZ) [(S1,.pointer (some ⟨nb,0,none⟩)),(S3,.slice (some ⟨ob,0,some 1⟩) m oc),(S4,.int .i64 0)] H nx Q:=by
 have dx:=hm.2.2.1;have cH:=hm.2.1;refine WC.loop (α:=Nat) (λh=>[(S1,.pointer (some ⟨nb,0,none⟩)),(S3,.slice (some ⟨ob,0,some 1⟩) m oc),(S4,.int .i64 ((h:Nat):Int))])
  (λh H' nx'=>h<=2*es.length/\nx<=nx'/\GS H' (ob+1) nx' ob (iz es m h)/\aq H0 H' nb/\Rd H' nb [.int .i64 n,.slice base es.length ec]) (λh=>2*es.length-h)
  ?_ 0 aX ⟨bS _,au _,by
   have:iz es m 0=List.replicate m []:=by
    apply mb;intro i;by_cases hi:i<m
    ·rw[pX hi,mN,aJ hi];rfl
    ·rw[gx (by rw[dG];omega),gx (by simp;omega)]
   rw[this];exact hg,hs,jz⟩
 rintro q H1 aQ ⟨hh,jY,sd,bt,fU⟩;unfold XZ
 repeat' (first|refine aE ?_|(refine bJ ?_ ?_<;>intro h<;>(try simp only[aL]at h))|fail)
 ·have cg:q<2*es.length:=V;obtain⟨v,hv,hvn⟩:=vj hm cg;have y7:v<m:=V;have hvq:=UC (n:=n) he;refine WO.ca rfl ?_;refine(vg De ou ((he.same bt).up (show nb<=aQ by omega)) cg V).of ?_;rintro _ H2 nx2 ⟨rfl,bN,fg⟩;have mh:=bN.rd V fU;refine⟨bB.look rfl mh rfl rfl hvq .nil,?_⟩;have bV:aq H0 H2 nb:=bt.trans bN V;refine WO.cn rfl ?_;refine(vg De ou ((he.same bV).up (show nb<=nx2 by omega)) cg V).of ?_;rintro _ H3 bW ⟨rfl,de,j8⟩;have dZ:aq H0 H3 nb:=bV.trans de V;have Q4:=de.rd V mh;have acp:aq H1 H3 aQ:=bN.trans de V;have MM:GS H3 (ob+1) bW ob (iz es m q):=sd.frame (acp ob V) (λb _ hb=>acp b hb) V;rw[hv];obtain⟨us,u,iF,sB,pY,mI⟩:=MM.row (v:=v) (by rw[dG];exact y7);rw[dG]at iF;obtain⟨ub,uc,hu⟩:=jX mI;have Q5:Rd H3 ob us:=.inl sB;have Di:((iz es m q).getD v []).length<=q:=by rw[lp y7];exact nD
  repeat' (first|refine aE ?_|fail)
  refine WO.n rfl ?_;have IK:bP (aC H3 bW [.int .i64 (q:Int)]) (ob+1) (bW+1) 1 u ((iz es m q).getD v []).length (((iz es m q).getD v []).map (.int .i64)):=mI.vX (λb _ hb=>by rw[ak,aw V]) (cE _);refine bG.tz rfl rfl IK (dL Rd.self rfl) V V rfl (by unfold small;omega) (by unfold small;omega) ?_;intro H4 k1 k2;have CI:∀b,b<bW->bk u≠some b->ah H4 (at_ b)=ah H3 (at_ b):=by
   intro b hb cG;rw[k2 b V (λc z k e=>cG (by
    obtain⟨_,⟨rfl,_⟩|⟨d,rfl,_⟩⟩:=mI
    ·cases e
    ·cases e;rfl)),ak,aw V]
  have ma:=(MM.frame (H':=aC H3 bW [.int .i64 (q:Int)]) (nx':=bW+1) (by rw[ak,aw V]) (λb _ hb=>by rw[ak,aw V]) (cE _)).push (x:=(q:Int)) (H1:=H4) (by rw[dG];exact y7) (by rw[ak,aw V];exact sB) pY V V k1
   (λb h1 h2 cG=>k2 b h2 (λc z k e=>cG (by
    obtain⟨_,⟨rfl,_⟩|⟨d,rfl,_⟩⟩:=mI
    ·cases e
    ·cases e;rfl)))
  have fE:∀b,b<=ob->ah H4 (at_ b)=ah H3 (at_ b):=λb hb=>CI b V (λe=>by have:=(nE mI e).1;omega)
  have YS:ah H4 (at_ ob)=some (.cells us):=(fE ob (au _)).trans sB;have Q6:us.length=m:=iF
  repeat' (first|refine aE ?_|fail)
  refine⟨q+1,V,.cons rfl aX,V,V,?_,λb hb=>?_,?_⟩
  ·rw[BN y7 hv];have e0:0+v*1=v:=V
   first|exact ma|(rw[e0];exact ma)
  ·rw[ak,aw V,fE b V];exact dZ b hb
  ·refine Rd.skip V ?_;unfold Rd;rw[fE nb V];exact Q4
 ·have:q=2*es.length:=V;subst this;exact bq _ _ _ aX sd bt jY
theorem BO{f:FuncId}(hf:A.funcs f=some BD)(hh:zhN A f)(De:A.funcs 87=some pP)(ou:zhN A 87){n:Int}{m:Nat}{ev:Value}{es:List Ed}(hm:kK n es)(iL:n=(m:Int))(he:bL H nx 2 aW ev es) :
  WF A f [.agg #[.int .i64 n,ev]] H nx λv H' nx'=>∃ob oc,v=.slice (some ⟨ob,0,some 1⟩) m oc/\m<=aF oc/\nx<=ob/\ob<nx'/\GS H' (ob+1) nx' ob (iz es m (2*es.length))/\aq H H' nx/\nx<=nx':=by
 obtain⟨base,ec,rfl⟩:=he.form;have cH:=hm.2.1;subst iL;refine WF.enter (hh _ _ _) hf ?_
 repeat' (first|refine aE ?_|fail)
 have bF:aq H (aC H nx [.int .i64 (m:Int),.slice base es.length ec]) nx:=aq.refl.set (au _);refine WC.sub aX (ouL (nb:=nx) (ob:=nx+1) De ou hm rfl he V V (bF.set V) (Rd.skip V Rd.self) (GS.zero aj) (λσ H2 nx2 hσ hg bN fg=>?_));refine kW (lO (WC.sub hσ ?_))
 repeat' (first|refine aE ?_|fail)
 exact aD (vs:=[_]) rfl ⟨nx+1,_,rfl,by rw[bU];omega,V,V,hg,bN,V⟩
theorem owI{n:Int}{m nb ob pb e:Nat}{es:List Ed}{base:Option Addr}{ec oc:Nat}{H0:Heap}(hm:kK n es)(iL:n=(m:Int))(he:e<es.length)(sQ:nb<ob)(Ep:ob<pb)(hpx:pb<nx)(hs:aq H0 H nb)(jz:Rd H nb [.int .i64 n,.slice base es.length ec])(ng:Rd H pb [.int .i64 n,.slice base es.length ec,.slice (some ⟨ob,0,some 1⟩) m oc])(hg:GS H (pb+1) nx ob (iz es m (2*e)))(bq:∀σ H' nx',bD [(S1,.pointer (some ⟨nb,0,none⟩)),(S3,.pointer (some ⟨pb,0,none⟩)),(kX,.slice base es.length ec),(kD,.int .i64 ((es.length:Nat):Int)),(jA,.int .i64 ((e:Nat):Int))] σ->GS H' (pb+1) nx' ob (iz es m (2*e+2))->aq H0 H' nb->Rd H' nb [.int .i64 n,.slice base es.length ec]->Rd H' pb [.int .i64 n,.slice base es.length ec,.slice (some ⟨ob,0,some 1⟩) m oc]->nx<=nx'->Q (.exit 2) σ H' nx') :
  WC A (.loop Yd) [(S1,.pointer (some ⟨nb,0,none⟩)),(S3,.pointer (some ⟨pb,0,none⟩)),(kX,.slice base es.length ec),(kD,.int .i64 ((es.length:Nat):Int)),(jA,.int .i64 ((e:Nat):Int)),(S4,.int .i64 ((e:Nat):Int)),(qZ,.agg ⟨aW es[e]⟩),(oM,.int .i64 0)] H nx Q:=by
 have dx:=hm.2.2.1;have cH:=hm.2.1;refine WC.loop (α:=Nat) (λd=>[(S1,.pointer (some ⟨nb,0,none⟩)),(S3,.pointer (some ⟨pb,0,none⟩)),(kX,.slice base es.length ec),(kD,.int .i64 ((es.length:Nat):Int)),(jA,.int .i64 ((e:Nat):Int)),(S4,.int .i64 ((e:Nat):Int)),(qZ,.agg ⟨aW es[e]⟩),(oM,.int .i64 ((d:Nat):Int))])
  (λd H' nx'=>d<=2/\nx<=nx'/\GS H' (pb+1) nx' ob (iz es m (2*e+d))/\aq H0 H' nb/\Rd H' nb [.int .i64 n,.slice base es.length ec]/\Rd H' pb [.int .i64 n,.slice base es.length ec,.slice (some ⟨ob,0,some 1⟩) m oc]) (λd=>2-d)
  ?_ 0 aX ⟨bS _,au _,hg,hs,jz,ng⟩
 rintro d H1 aQ ⟨hd,jY,sd,bt,fU,AM⟩;have hc:d<2->(aW es[e])[d*1]?=some (.int .i64 (bZ es (2*e+d))):=by
  intro cg;have m9:es.getD e (0,0)=es[e]:=by rw[aY,aM he];rfl
  rcases(show d=0\/d=1 by omega)with rfl|rfl
  ·unfold bZ;rw[aJ V,show (2*e+0) / 2=e by omega,m9];rfl
  ·unfold bZ;rw[aw V,show (2*e+1) / 2=e by omega,m9];rfl
 unfold Yd
 repeat' (first|refine aE ?_|(refine bJ ?_ ?_<;>intro h<;>(try simp only[aL]at h))|fail)
 ·have cg:2*e+d<2*es.length:=V;have hc':=hc V;clear hc;obtain⟨v,hv,hvn⟩:=vj hm cg;have y7:v<m:=V;rw[hv]at hc';obtain⟨us,u,iF,sB,pY,mI⟩:=sd.row (v:=v) (by rw[dG];exact y7);rw[dG]at iF;obtain⟨ub,uc,hu⟩:=jX mI;have Q5:Rd H1 ob us:=.inl sB;have Di:((iz es m (2*e+d)).getD v []).length<=2*e+d:=by rw[lp y7];exact nD
  repeat' (first|refine aE ?_|fail)
  refine WO.na rfl ?_;have IK:bP (aC H1 aQ [.int .i64 ((2*e+d:Nat):Int)]) (pb+1) (aQ+1) 1 u ((iz es m (2*e+d)).getD v []).length (((iz es m (2*e+d)).getD v []).map (.int .i64)):=mI.vX (λb _ hb=>by rw[ak,aw V]) (cE _);refine bG.tz rfl rfl IK (dL Rd.self rfl) V V rfl (by unfold small;omega) (by unfold small;omega) ?_;intro H4 k1 k2;have CI:∀b,b<aQ->bk u≠some b->ah H4 (at_ b)=ah H1 (at_ b):=by
   intro b hb cG;rw[k2 b V (λc z k e=>cG (by
    obtain⟨_,⟨rfl,_⟩|⟨d,rfl,_⟩⟩:=mI
    ·cases e
    ·cases e;rfl)),ak,aw V]
  have ma:=(sd.frame (H':=aC H1 aQ [.int .i64 ((2*e+d:Nat):Int)]) (nx':=aQ+1) (by rw[ak,aw V]) (λb _ hb=>by rw[ak,aw V]) (cE _)).push (x:=((2*e+d:Nat):Int)) (H1:=H4) (by rw[dG];exact y7) (by rw[ak,aw V];exact sB) pY V V k1
   (λb h1 h2 cG=>k2 b h2 (λc z k e=>cG (by
    obtain⟨_,⟨rfl,_⟩|⟨d,rfl,_⟩⟩:=mI
    ·cases e
    ·cases e;rfl)))
  have fE:∀b,b<=pb->ah H4 (at_ b)=ah H1 (at_ b):=λb hb=>CI b V (λe=>by have:=(nE mI e).1;omega)
  have YS:ah H4 (at_ ob)=some (.cells us):=(fE ob V).trans sB;have UD:Rd H4 pb [.int .i64 n,.slice base es.length ec,.slice (some ⟨ob,0,some 1⟩) m oc]:=by
   unfold Rd;rw[fE pb (au _)];exact AM
  have Q6:us.length=m:=iF;refine⟨bB.look rfl UD rfl rfl (by simp[mc,ff]) .nil,?_⟩
  repeat' (first|refine aE ?_|fail)
  refine⟨d+1,V,.cons rfl aX,V,V,?_,λb hb=>?_,?_,Rd.skip V UD⟩
  ·rw[show 2*e+(d+1)=2*e+d+1 by omega,BN y7 hv];have e0:0+v*1=v:=V
   first|exact ma|(rw[e0];exact ma)
  ·rw[ak,aw V,fE b V];exact bt b hb
  ·refine Rd.skip V ?_;unfold Rd;rw[fE nb V];exact fU
 ·have:d=2:=V;subst this;exact bq _ _ _ aX sd bt fU AM jY
theorem owO{n:Int}{m nb ob pb:Nat}{es:List Ed}{base:Option Addr}{ec oc:Nat}{H0:Heap}(hm:kK n es)(iL:n=(m:Int))(he:bL H0 nb 2 aW (.slice base es.length ec) es)(sQ:nb<ob)(Ep:ob<pb)(hpx:pb<nx)(hs:aq H0 H nb)(jz:Rd H nb [.int .i64 n,.slice base es.length ec])(ng:Rd H pb [.int .i64 n,.slice base es.length ec,.slice (some ⟨ob,0,some 1⟩) m oc])(hg:GS H (pb+1) nx ob (iz es m 0))(bq:∀σ H' nx',bD [(S3,.pointer (some ⟨pb,0,none⟩))] σ->GS H' (pb+1) nx' ob (iz es m (2*es.length))->aq H0 H' nb->Rd H' pb [.int .i64 n,.slice base es.length ec,.slice (some ⟨ob,0,some 1⟩) m oc]->nx<=nx'->Q (.exit 0) σ H' nx') :
  WC A (.loop Ye) [(S1,.pointer (some ⟨nb,0,none⟩)),(S3,.pointer (some ⟨pb,0,none⟩)),(kX,.slice base es.length ec),(kD,.int .i64 ((es.length:Nat):Int)),(jA,.int .i64 0)] H nx Q:=by
 have dx:=hm.2.2.1;have cH:=hm.2.1;refine WC.loop (α:=Nat) (λe=>[(S1,.pointer (some ⟨nb,0,none⟩)),(S3,.pointer (some ⟨pb,0,none⟩)),(kX,.slice base es.length ec),(kD,.int .i64 ((es.length:Nat):Int)),(jA,.int .i64 ((e:Nat):Int))])
  (λe H' nx'=>e<=es.length/\nx<=nx'/\GS H' (pb+1) nx' ob (iz es m (2*e))/\aq H0 H' nb/\Rd H' nb [.int .i64 n,.slice base es.length ec]/\Rd H' pb [.int .i64 n,.slice base es.length ec,.slice (some ⟨ob,0,some 1⟩) m oc]) (λe=>es.length-e)
  ?_ 0 aX ⟨bS _,au _,hg,hs,jz,ng⟩
 rintro e H1 aQ ⟨hd,jY,sd,bt,fU,AM⟩;unfold Ye
 repeat' (first|refine aE ?_|(refine bJ ?_ ?_<;>intro h<;>(try simp only[aL]at h))|fail)
 ·have cg:e<es.length:=V;obtain⟨eb,eo,YI,rfl,FR,_,_,Uv,FQ⟩:=he.at (by intro e';rw[e']at cg;simp at cg);have q3:=FQ e _ (aM cg);have aco:=bt.rd FR Uv
  repeat' (first|refine aE ?_|fail)
  refine WC.sub aX (owI (nb:=nb) (ob:=ob) (pb:=pb) (e:=e) (H0:=H0) hm iL cg sQ Ep V ((bt.set V).set V) (Rd.skip V (Rd.skip V fU)) (Rd.skip V (Rd.skip V AM)) (sd.frame (by rw[ak,aw V,ak,aw V]) (λb _ hb=>by rw[ak,aw V,ak,aw V]) (cE _)) (λσ H2 nx2 hσ MH bN mh Dj fg=>?_));refine kW (Md (lO (WC.sub hσ ?_)))
  repeat' (first|refine aE ?_|fail)
  exact⟨e+1,V,.cons rfl aX,V,V,MH,bN,mh,Dj⟩
 ·have:e=es.length:=V;subst this;exact bq _ _ _ aX sd bt AM jY
theorem MN{es:List Ed}{m:Nat}:iz es m 0=List.replicate m []:=by
 apply mb;intro i;by_cases hi:i<m
 ·rw[pX hi,mN,aJ hi];rfl
 ·rw[gx (by rw[dG];omega),gx (by simp;omega)]
theorem F1{f:FuncId}(hf:A.funcs f=some Qf)(hh:zhN A f){n:Int}{m:Nat}{ev:Value}{es:List Ed}(hm:kK n es)(iL:n=(m:Int))(he:bL H nx 2 aW ev es) :
  WF A f [.agg #[.int .i64 n,ev]] H nx λv H' nx'=>∃ob oc pb,v=.pointer (some ⟨pb,0,none⟩)/\m<=aF oc/\nx<=ob/\ob<pb/\pb<nx'/\Rd H' pb [.int .i64 n,ev,.slice (some ⟨ob,0,some 1⟩) m oc]/\GS H' (pb+1) nx' ob (iz es m (2*es.length))/\aq H H' nx/\nx<=nx':=by
 obtain⟨base,ec,rfl⟩:=he.form;have cH:=hm.2.1;subst iL;refine WF.enter (hh _ _ _) hf ?_
 repeat' (first|refine aE ?_|fail)
 have bF:aq H (aC H nx [.int .i64 (m:Int),.slice base es.length ec]) nx:=aq.refl.set (au _);refine WC.sub aX (owO (nb:=nx) (ob:=nx+1) (pb:=nx+1+1) (oc:=2*m+1) hm rfl he V V V ((bF.set V).set V) (Rd.skip V (Rd.skip V Rd.self)) Rd.self (by rw[MN];exact(GS.zero (ay V aj))) (λσ H2 nx2 hσ hg bN ng fg=>?_));refine kW (lO (WC.sub hσ ?_))
 repeat' (first|refine aE ?_|fail)
 exact aD (vs:=[_]) rfl ⟨nx+1,_,nx+1+1,rfl,by rw[bU];omega,V,V,V,ng,hg,bN,V⟩
end
section
variable {A:aN}{H H':Heap}{nx nx':Nat}{σ:aR}{Q:cw}
def gI(m k:Nat)(x:Int):List Int:=List.replicate k x++List.replicate (m-k) 0
theorem BP{m k:Nat}{x:Int}(h:k<m):(gI m k x).set k x=gI m (k+1) x:=by
 unfold gI;rw[show m-k=(m-(k+1))+1 by omega,List.replicate_succ,List.set_append_right _ _ (by simp)];rw[NY,He,List.set_cons_zero,List.replicate_succ',jj];rfl
theorem F2{m k:Nat}{x:Int}(h:k<=m):(gI m k x).length=m:=by unfold gI;simp;omega
theorem UE{m lb nb lc:Nat}{x:Int}{H0:Heap}(hm:m<=1048576)(hl:aB H lb (gI m 0 x))(sQ:nb<=lb)(o9:lb<nx)(hs:aq H0 H nb)(bq:∀σ H' nx',bD [(S5,.slice (some ⟨lb,0,some 1⟩) m lc)] σ->aB H' lb (List.replicate m x)->aq H0 H' nb->nx<=nx'->Q (.exit 0) σ H' nx') :
  WC A (.loop tE) [(S1,.int .i64 x),(S5,.slice (some ⟨lb,0,some 1⟩) m lc),(dQ,.int .i64 ((m:Nat):Int)),(eN,.int .i64 0)] H nx Q:=by
 refine WC.loop (α:=Nat) (λk=>[(S1,.int .i64 x),(S5,.slice (some ⟨lb,0,some 1⟩) m lc),(dQ,.int .i64 ((m:Nat):Int)),(eN,.int .i64 ((k:Nat):Int))])
  (λk H' nx'=>k<=m/\nx<=nx'/\aB H' lb (gI m k x)/\aq H0 H' nb) (λk=>m-k)
  ?_ 0 aX ⟨bS _,au _,hl,hs⟩
 rintro k H1 aQ ⟨hk,cH,jB,bt⟩;have MC:ah H1 (at_ lb)=some (.cells ((gI m k x).map (.int .i64))):=jB;have hlen:=F2 (x:=x) hk;unfold tE
 repeat' (first|refine aE ?_|(refine bJ ?_ ?_<;>intro h<;>(try simp only[aL]at h))|fail)
 ·have Bs:k<m:=V;refine⟨k+1,V,.cons rfl aX,V,V,?_,bt.set V⟩;rw[<-BP Bs];unfold aB;rw[aj,List.map_set]
  congr 3
  first|done|rfl|omega
 ·have:k=m:=V;subst this;refine bq _ _ _ aX ?_ bt cH;have e:gI k k x=List.replicate k x:=by unfold gI;simp
  rw[<-e];exact jB
theorem mJ{f:FuncId}(hf:A.funcs f=some kY)(hh:zhN A f){m:Nat}{x:Int}(hm:m<=1048576) :
  WF A f [.int .i64 (m:Int),.int .i64 x] H nx λv H' nx'=>∃b c,v=.slice (some ⟨b,0,some 1⟩) m c/\m<=aF c/\nx<=b/\b<nx'/\aB H' b (List.replicate m x)/\aq H H' nx:=by
 refine WF.enter (hh _ _ _) hf ?_
 repeat' (first|refine aE ?_|fail)
 refine WC.sub aX (UE (nb:=nx) (lb:=nx) V (by have:=fW (H:=aC H nx (bj [.int .i64 0] m)) (b:=nx) aj;unfold gI;first|simpa using this|exact this) V V (aq.refl.set V) (λσ H2 nx2 hσ nc bN fg=>?_));refine kW (lO (WC.sub hσ ?_))
 repeat' (first|refine aE ?_|fail)
 exact aD (vs:=[_]) rfl ⟨nx,_,rfl,by rw[bU];omega,V,V,nc,bN⟩
theorem YT{m lb nb lc:Nat}{x:Int}{H0:Heap}(hm:m<=1048576)(hl:aB H lb (gI m 0 x))(sQ:nb<=lb)(o9:lb<nx)(hs:aq H0 H nb)(bq:∀σ H' nx',bD [(S5,.slice (some ⟨lb,0,some 1⟩) m lc)] σ->aB H' lb (List.replicate m x)->aq H0 H' nb->nx<=nx'->Q (.exit 0) σ H' nx') :
  WC A (.loop C0) [([],.int .i64 (m:Int)),(S1,.int .i64 x),(S5,.slice (some ⟨lb,0,some 1⟩) m lc),(S6,.int .i64 0)] H nx Q:=by
 refine WC.loop (α:=Nat) (λk=>[([],.int .i64 (m:Int)),(S1,.int .i64 x),(S5,.slice (some ⟨lb,0,some 1⟩) m lc),(S6,.int .i64 ((k:Nat):Int))])
  (λk H' nx'=>k<=m/\nx<=nx'/\aB H' lb (gI m k x)/\aq H0 H' nb) (λk=>m-k)
  ?_ 0 aX ⟨bS _,au _,hl,hs⟩
 rintro k H1 aQ ⟨hk,cH,jB,bt⟩;have MC:ah H1 (at_ lb)=some (.cells ((gI m k x).map (.int .i64))):=jB;have hlen:=F2 (x:=x) hk;unfold C0
 repeat' (first|refine aE ?_|(refine bJ ?_ ?_<;>intro h<;>(try simp only[aL]at h))|fail)
 ·have Bs:k<m:=V;refine⟨k+1,V,.cons rfl aX,V,V,?_,bt.set V⟩;rw[<-BP Bs];unfold aB;rw[aj,List.map_set]
  congr 3
  first|done|rfl|omega
 ·have:k=m:=V;subst this;refine bq _ _ _ aX ?_ bt cH;have e:gI k k x=List.replicate k x:=by unfold gI;simp
  rw[<-e];exact jB
theorem y8{f:FuncId}(hf:A.funcs f=some u9)(hh:zhN A f){m:Nat}{x:Int}(hm:m<=1048576) :
  WF A f [.int .i64 (m:Int),.int .i64 x] H nx λv H' nx'=>∃b c,v=.slice (some ⟨b,0,some 1⟩) m c/\m<=aF c/\nx<=b/\b<nx'/\aB H' b (List.replicate m x)/\aq H H' nx:=by
 refine WF.enter (hh _ _ _) hf ?_
 repeat' (first|refine aE ?_|fail)
 refine WC.sub aX (YT (nb:=nx) (lb:=nx) V (by have:=fW (H:=aC H nx (bj [.int .i64 0] m)) (b:=nx) aj;unfold gI;first|simpa using this|exact this) V V (aq.refl.set V) (λσ H2 nx2 hσ nc bN fg=>?_));refine kW (lO (WC.sub hσ ?_))
 repeat' (first|refine aE ?_|fail)
 exact aD (vs:=[_]) rfl ⟨nx,_,rfl,by rw[bU];omega,V,V,nc,bN⟩
theorem F3{f:FuncId}(hf:A.funcs f=some yI)(hh:zhN A f){n:Int}{pb h nb:Nat}{base:Option Addr}{ec:Nat}{ov:Value}{es:List Ed}{H0:Heap}(he:bL H0 nb 2 aW (.slice base es.length ec) es)(hs:aq H0 H nb)(ng:Rd H pb [.int .i64 n,.slice base es.length ec,ov])(hl:h<2*es.length)(dx:es.length<=4000) :
  WF A f [.pointer (some ⟨pb,0,none⟩),.int .i64 (h:Int)] H nx λv H' nx'=>v=.int .i64 (bZ es (aU h))/\H'=H/\nx'=nx:=by
 have ID:h / 2<es.length:=V;obtain⟨eb,eo,YI,rfl,FR,_,_,Uv,FQ⟩:=he.at (by intro e;rw[e]at ID;simp at ID);have q3:=tM ID FQ (q:=1-h%2) V;rw[<-iH]at q3;have aco:=hs.rd FR Uv;refine WF.enter (hh _ _ _) hf ?_
 repeat' (first|refine aE ?_|fail)
 exact aD (vs:=[_]) rfl ⟨rfl,rfl,rfl⟩
end
section
def MO(es:List Ed)(u v:Nat):Prop:=∃h,h<2*es.length/\bZ es h=(u:Int)/\bZ es (aU h)=(v:Int)
theorem MO.symm{es:List Ed}{u v:Nat}(h:MO es u v):MO es v u:=by
 obtain⟨q,h1,h2,h3⟩:=h;exact⟨aU q,bM h1,h3,by rw[cI];exact h2⟩
inductive Reach (es:List Ed) (s:Nat):Nat->Prop
 | here:Reach es s s
 | step {u v:Nat}:Reach es s u->MO es u v->Reach es s v
theorem Reach.trans{es:List Ed}{a b c:Nat}(h:Reach es a b)(h':Reach es b c):Reach es a c:=by
 induction h' with
 | here=>exact h
 | step _ ha ih=>exact .step ih ha
theorem Reach.symm{es:List Ed}{a b:Nat}(h:Reach es a b):Reach es b a:=by
 induction h with
 | here=>exact .here
 | step _ ha ih=>exact Reach.trans (.step .here ha.symm) ih
def Old(es:List Ed)(k w:Nat):Prop:=∃s,s<k/\Reach es s w
theorem Old.zero{es:List Ed}{w:Nat}:¬Old es 0 w:=λ⟨s,h,_⟩=>by omega
theorem Old.wg{es:List Ed}{k u v:Nat}(h:Old es k u)(ha:MO es u v):Old es k v:=let ⟨s,h1,h2⟩:=h;⟨s,h1,.step h2 ha⟩
theorem Old.succ{es:List Ed}{k w:Nat}:Old es (k+1) w↔Old es k w\/Reach es k w:=by
 constructor
 ·rintro⟨s,h1,h2⟩;rcases rD s k with h|h
  ·exact .inl ⟨s,h,h2⟩
  ·rw[show s=k by omega]at h2;exact .inr h2
 ·rintro(⟨s,h1,h2⟩|h)
  ·exact⟨s,V,h2⟩
  ·exact⟨k,V,h⟩
theorem Old.same{es:List Ed}{k w:Nat}(h:Old es k k):Old es (k+1) w↔Old es k w:=by
 rw[Old.succ];constructor
 ·rintro(h1|h1)
  ·exact h1
  ·obtain⟨s,h2,h3⟩:=h;exact⟨s,h2,h3.trans h1⟩
 ·exact .inl
open Classical in
noncomputable def cy(es:List Ed):Nat->Nat
 | 0=>0
 | k+1=>if Old es k k then cy es k else cy es k+1
theorem jZ{es:List Ed}{k:Nat}(h:Old es k k):cy es (k+1)=cy es k:=by rw[cy];exact aJ h
theorem gJ{es:List Ed}{k:Nat}(h:¬Old es k k):cy es (k+1)=cy es k+1:=by rw[cy];exact aw h
theorem lq{es:List Ed}:∀{k:Nat},cy es k<=k:=by
 intro k
 induction k with
 | zero=>exact au _
 | succ k ih=>
  by_cases h:Old es k k
  ·rw[jZ h];omega
  ·rw[gJ h];omega
def Mk(c:List Int)(w:Nat):Prop:=∃x:Int,c[w]?=some x/\0<=x
theorem Mk.set{c:List Int}{v w:Nat}{x:Int}(hv:v<c.length)(hx:0<=x):Mk (c.set v x) w↔w=v\/Mk c w:=by
 unfold Mk;rw[fZ];by_cases e:v=w
 ·subst e;rw[aJ rfl,aJ hv];exact⟨λ_=>.inl rfl,λ_=>⟨x,rfl,hx⟩⟩
 ·rw[aw e];exact⟨.inr,λh=>by
   rcases h with h|h
   ·exact absurd h.symm e
   ·exact h⟩
theorem Mk.not{c:List Int}{w:Nat}{x:Int}(h:c[w]?=some x)(hx:x<0):¬Mk c w:=λ⟨y,h1,h2⟩=>by rw[h]at h1;cases h1;omega
def left(c:List Int):Nat:=(c.filter (· < 0)).length
theorem KJ{c:List Int}:left c<=c.length:=Ac _ _
theorem nF{c:List Int}{v:Nat}{x y:Int}(h:c[v]?=some y)(hy:y<0)(hx:0<=x):left (c.set v x)+1=left c:=by
 unfold left
 induction c generalizing v with
 | nil=>simp at h
 | cons a c ih=>
  cases v with
  | zero=>
   cases (show some a=some y from h);rw[List.set_cons_zero,List.filter_cons_of_neg (by simpa using hx),List.filter_cons_of_pos (by simpa using hy)];rfl
  | succ v=>
   have:=ih (v:=v) h;rw[List.set_cons_succ,List.filter_cons,List.filter_cons];split
   ·simp only[hO];omega
   ·exact this
def lS(H:Heap)(lo nx:Nat)(v:Value)(xs:List Int):Prop:=
 ∃b c cs,v=.slice (some ⟨b,0,some 1⟩) xs.length c/\lo<=b/\b<nx/\ah H (at_ b)=some (.cells cs)/\cs.length=aF c/\xs.length<=aF c/\cs.take xs.length=xs.map (.int .i64)
section
variable {A:aN}{H H':Heap}{nx nx':Nat}{σ:aR}{L:List Value}
theorem lS.frame{lo:Nat}{v:Value}{xs:List Int}(h:lS H lo nx v xs)(hs:eL H H' lo nx)(hn:nx<=nx'):lS H' lo nx' v xs:=by
 obtain⟨b,c,cs,h1,h2,h3,h4,h5⟩:=h;exact⟨b,c,cs,h1,h2,V,(hs b h2 h3).trans h4,h5⟩
theorem lS.one{lo:Nat}{x:Int}(hl:lo<=nx):lS (aC H nx [.int .i64 x]) lo (nx+1) (.slice (some ⟨nx,0,some 1⟩) 1 (2*1+1)) [x]:=
 ⟨nx,2*1+1,[.int .i64 x],rfl,hl,V,aj,rfl,(by show 1<=aF (2*1+1);decide),rfl⟩
theorem bG.Wc{lo by_ q c':Nat}{zero:List Value}{s x:Od}{v:Value}{xs:List Int}{y:Int}{K:Value->Heap->Nat->Prop}(hs:ev σ L s=some v)(hx:ev σ L x=some (.slice (some ⟨q,0,some 1⟩) 1 c'))(hq:Rd H q [.int .i64 y])(hg:lS H lo nx v xs)(vF:lo<=nx)(h2:(xs.length+1)*by_<=small)(h3:xs.length+1<=small)(h:∀v' H' nx',nx<=nx'->lS H' lo nx' v' (xs++[y])->(∀b,b<lo->ah H' (at_ b)=ah H (at_ b))->K v' H' nx'):bG A (.app 1 by_ zero s x false) σ L H nx K:=by
 obtain⟨b,c,cs,rfl,CR,dS,hr,kI,qj,ht⟩:=hg;by_cases hc:xs.length+1<=aF c
 ·have zU:mm cs (0+xs.length*1) [.int .i64 y]=some (cs.take xs.length++[.int .i64 y]++cs.drop (xs.length+1)):=by
   unfold mm;rw[Nat.zero_add,Nat.mul_one,tw _ _ _ (by show xs.length+1<=_;omega)];rfl
  refine .of (.pk hs hx (dL hq rfl) V V rfl hr hc zU) (h _ _ _ (au _) ⟨b,c,_,by simp,CR,dS,aj,?_,by simpa using hc,?_⟩ (λd hd=>by rw[ak,aw V]))
  ·simp only[cm,iZ,pf,hO,gp];omega
  ·rw[ht,jG,cm];have e:(xs.map (Value.int .i64)++[Value.int .i64 y]).length=xs.length + [y].length:=by simp
   rw[<-e,List.take_left];rfl
 ·have hold:take? (xs.length*1) (cs.drop 0)=some (xs.map (.int .i64)):=by
   rw[Nat.mul_one,NZ,take?_of _ _ V,ht]
  have gQ:∀H1:Heap,ah H1 (at_ nx)=some (.cells (xs.map (.int .i64)++[.int .i64 y]))->lS H1 lo (nx+1) (.slice (some ⟨nx,0,some 1⟩) (xs.length+1) (2*(xs.length+1))) (xs++[y]):=λH1 hH=>⟨nx,2*(xs.length+1),_,by simp,vF,V,hH,by rw[bT];simp,by rw[bT];simp,by
   rw[jG,cm];have e:(xs.map (Value.int .i64)++[Value.int .i64 y]).length=xs.length + [y].length:=by simp
   rw[<-e,iJ];rfl⟩
  cases he:exact c with
  | false=>exact .of (.nQ hs hx (dL hq rfl) V V rfl hr hold V he h2 h3) (h _ _ _ (cE _) (gQ _ aj) (λd hd=>by rw[ak,aw V,gC,aw V]))
  | true=>exact .of (.tx hs hx (dL hq rfl) V V rfl hr hold V he h2 h3) (h _ _ _ (cE _) (gQ _ aj) (λd hd=>by rw[ak,aw V]))
theorem lS.last{lo:Nat}{v:Value}{xs:List Int}{x:Int}(h:lS H lo nx v (xs++[x])):∃b c cs,v=.slice (some ⟨b,0,some 1⟩) (xs.length+1) c/\xs.length+1<=aF c/\ah H (at_ b)=some (.cells cs)/\cs[0+xs.length*1]?=some (.int .i64 x)/\lS H lo nx (.slice (some ⟨b,0+0*1,some 1⟩) (xs.length-0) (c-2*0)) xs:=by
 obtain⟨b,c,cs,rfl,CR,dS,hr,kI,qj,ht⟩:=h;rw[cm]at qj ht;refine⟨b,c,cs,by rw[cm];rfl,qj,hr,?_,⟨b,c,cs,rfl,CR,dS,hr,kI,by simp at qj;omega,?_⟩⟩
 ·have h1:(cs.take (xs.length + [x].length))[xs.length]?=some (.int .i64 x):=by
   rw[ht,jG,aiQ (by simp)];simp
  rw[List.getElem?_take_of_lt (by simp)]at h1;rw[Nat.zero_add,Nat.mul_one];exact h1
 ·have h1:(cs.take (xs.length + [x].length)).take xs.length=xs.map (.int .i64):=by
   rw[ht,jG];have e:(xs.map (Value.int .i64)).length=xs.length:=by simp
   rw[<-e,List.take_left]
  rw[List.take_take]at h1
  rwa [Nat.min_eq_left V]at h1
end
end
section
def toAt(es:List Ed)(v j:Nat):Int:=bZ es (aU ((dY es (2*es.length) v).getD j 0).toNat)
def PK(es:List Ed)(v k u w:Nat):Prop:=u=v/\∃j,k<=j/\j<(dY es (2*es.length) v).length/\(w:Int)=toAt es v j
theorem Dk{es:List Ed}{v j:Nat}(hj:j<(dY es (2*es.length) v).length):∃h:Nat,(dY es (2*es.length) v)[j]?=some (h:Int)/\h<2*es.length/\bZ es h=(v:Int)/\toAt es v j=bZ es (aU h):=by
 obtain⟨h,h1,h2,h3⟩:=F0.1 (jE hj);have h4:(dY es (2*es.length) v)[j]?=some (h:Int):=by rw[aM hj,h1]
 refine⟨h,h4,h2,h3,?_⟩;unfold toAt;rw[aY,h4];rfl
theorem PK.all{es:List Ed}{v w:Nat}(h:MO es v w):PK es v 0 v w:=by
 obtain⟨q,h1,h2,h3⟩:=h;obtain⟨j,hj,e⟩:=kG (F0.2 ⟨q,rfl,h1,h2⟩:(q:Int)∈dY es (2*es.length) v);refine⟨rfl,j,bS _,hj,?_⟩;unfold toAt;rw[aY,aM hj,e];exact h3.symm
theorem PK.next{es:List Ed}{v k u w w':Nat}(hw:(w:Int)=toAt es v k)(h:PK es v k u w'):w'=w\/PK es v (k+1) u w':=by
 obtain⟨e,j,h1,h2,h3⟩:=h;rcases(show j=k\/k+1<=j by omega)with rfl|h4
 ·exact .inl V
 ·exact .inr ⟨e,j,h4,h2,h3⟩
theorem PK.none{es:List Ed}{v u w:Nat}(h:PK es v (dY es (2*es.length) v).length u w):False:=by
 obtain⟨_,j,h1,h2,_⟩:=h;omega
structure Inv(es:List Ed)(m s:Nat)(P:Nat->Nat->Prop)(c todo:List Int):Prop where
 len:c.length=m
 old:∀w,Old es s w->w<m->Mk c w
 me:Mk c s
 only:∀w,Mk c w->Old es s w\/Reach es s w
 Wd:∀x∈todo,∃q:Nat,x=(q:Int)/\q<m/\Mk c q
 wg:∀u w,Mk c u->MO es u w->Mk c w\/(u:Int)∈todo\/P u w
section
variable {es:List Ed}{m s:Nat}{P P':Nat->Nat->Prop}{c todo:List Int}
theorem Inv.mark{w:Nat}{x:Int}(h:Inv es m s P c todo)(hw:w<m)(hx:0<=x)(hr:Old es s w\/Reach es s w)(hP:∀u w',P u w'->w'=w\/P' u w'):Inv es m s P' (c.set w x) (todo++[(w:Int)]):=by
 have vf:w<c.length:=by rw[h.len];exact hw
 refine⟨by rw[iq];exact h.len,λu hu hm=>(Mk.set vf hx).2 (.inr (h.old u hu hm)),(Mk.set vf hx).2 (.inr h.me),λu hu=>?_,λy hy=>?_,λu w' hu ha=>?_⟩
 ·rcases(Mk.set vf hx).1 hu with rfl|hu
  ·exact hr
  ·exact h.only u hu
 ·rcases ee.1 hy with hy|hy
  ·obtain⟨q,q1,q2,q3⟩:=h.Wd y hy;exact⟨q,q1,q2,(Mk.set vf hx).2 (.inr q3)⟩
  ·exact⟨w,fe.1 hy,hw,(Mk.set vf hx).2 (.inl rfl)⟩
 ·rcases(Mk.set vf hx).1 hu with rfl|hu
  ·exact .inr (.inl (by simp))
  ·rcases h.wg u w' hu ha with h1|h1|h1
   ·exact .inl ((Mk.set vf hx).2 (.inr h1))
   ·exact .inr (.inl (by simp[h1]))
   ·rcases hP u w' h1 with rfl|h2
    ·exact .inl ((Mk.set vf hx).2 (.inl rfl))
    ·exact .inr (.inr h2)
theorem Inv.skip{w:Nat}(h:Inv es m s P c todo)(hw:Mk c w)(hP:∀u w',P u w'->w'=w\/P' u w'):Inv es m s P' c todo:=by
 refine⟨h.len,h.old,h.me,h.only,h.Wd,λu w' hu ha=>?_⟩;rcases h.wg u w' hu ha with h1|h1|h1
 ·exact .inl h1
 ·exact .inr (.inl h1)
 ·rcases hP u w' h1 with rfl|h2
  ·exact .inl hw
  ·exact .inr (.inr h2)
theorem Inv.none(h:Inv es m s P c todo)(hP:∀u w,P u w->False):Inv es m s (λ_ _=>False) c todo:=
 ⟨h.len,h.old,h.me,h.only,h.Wd,λu w hu ha=>by
  rcases h.wg u w hu ha with h1|h1|h1
  ·exact .inl h1
  ·exact .inr (.inl h1)
  ·exact(hP u w h1).elim⟩
theorem Inv.pop{v:Nat}(h:Inv es m s (λ_ _=>False) c (todo++[(v:Int)])):Inv es m s (PK es v 0) c todo/\v<m/\Mk c v:=by
 obtain⟨q,q1,q2,q3⟩:=h.Wd (v:Int) (by simp);have:q=v:=V;subst this;refine⟨⟨h.len,h.old,h.me,h.only,λx hx=>h.Wd x (by simp[hx]),λu w hu ha=>?_⟩,q2,q3⟩;rcases h.wg u w hu ha with h1|h1|h1
 ·exact .inl h1
 ·rcases ee.1 h1 with h1|h1
  ·exact .inr (.inl h1)
  ·have:u=q:=by have:=fe.1 h1;omega
   subst this;exact .inr (.inr (PK.all ha))
 ·exact h1.elim
theorem Q7{n:Int}(hm:kK n es)(iL:n=(m:Int)){u w:Nat}(ha:MO es u w):w<m:=by
 obtain⟨q,h1,h2,h3⟩:=ha;obtain⟨v,e1,e2⟩:=vj hm (bM h1);rw[h3]at e1;omega
theorem Mk.lt{w:Nat}(h:Mk c w):w<c.length:=let ⟨_,h1,_⟩:=h;(cS.1 h1).1
theorem Inv.done{n:Int}(hm:kK n es)(iL:n=(m:Int))(h:Inv es m s (λ_ _=>False) c [])(hs:s<m){w:Nat}(hw:w<m):Mk c w↔Old es (s+1) w:=by
 have hb:∀w,Reach es s w->w<m:=by
  intro w hr
  induction hr with
  | here=>exact hs
  | step _ ha _=>exact Q7 hm iL ha
 rw[Old.succ];constructor
 ·exact h.only w
 ·rintro(h1|h1)
  ·exact h.old w h1 hw
  ·clear hw
   induction h1 with
   | here=>exact h.me
   | step _ ha ih=>
    rcases h.wg _ _ ih ha with h2|h2|h2
    ·exact h2
    ·cases h2
    ·exact h2.elim
theorem Inv.start{n:Int}(hm:kK n es)(iL:n=(m:Int)){x:Int}(hl:c.length=m)(hs:s<m)(hx:0<=x)(hc:∀w,w<m->(Mk c w↔Old es s w)):Inv es m s (λ_ _=>False) (c.set s x) [(s:Int)]:=by
 have vh:s<c.length:=V;have cg:∀w,Mk c w->w<m:=λw hw=>by rw[<-hl];exact hw.lt
 refine⟨by rw[iq];exact hl,λw hw hm=>(Mk.set vh hx).2 (.inr ((hc w hm).2 hw)),(Mk.set vh hx).2 (.inl rfl),λw hw=>?_,λy hy=>⟨s,fe.1 hy,hs,(Mk.set vh hx).2 (.inl rfl)⟩,λu w hu ha=>?_⟩
 ·rcases(Mk.set vh hx).1 hw with rfl|hw
  ·exact .inr .here
  ·exact .inl ((hc w (cg w hw)).1 hw)
 ·rcases(Mk.set vh hx).1 hu with rfl|hu
  ·exact .inr (.inl (by simp))
  ·have hw:=Q7 hm iL ha;exact .inl ((Mk.set vh hx).2 (.inr ((hc w hw).2 (((hc u (cg u hu)).1 hu).wg ha))))
end
end
section
variable {A:aN}{H H':Heap}{nx nx':Nat}{σ:aR}{Q:cw}
structure PS(H0 H:Heap)(nb cb ob nxo:Nat)(n:Int)(ev:Value)(es:List Ed)(m:Nat)(c:List Int):Prop where
 same:aq H0 H nb
 rd:Rd H nb [.int .i64 n,ev]
 gs:GS H (ob+1) nxo ob (iz es m (2*es.length))
 ci:aB H cb c
 h1:nb<cb
 h2:cb<ob
 h3:ob<nxo
theorem PS.frame{H0 H2:Heap}{nb cb ob nxo:Nat}{n:Int}{ev:Value}{es:List Ed}{m:Nat}{c:List Int}(h:PS H0 H nb cb ob nxo n ev es m c)(hf:∀b,b<nxo->ah H2 (at_ b)=ah H (at_ b)):PS H0 H2 nb cb ob nxo n ev es m c:=by
 obtain⟨a,b,g,d,h1,h2,h3⟩:=h;refine⟨λb hb=>(hf b V).trans (a b hb),?_,g.frame (hf ob h3) (λb _ hb=>hf b hb) (au _),(hf cb V).trans d,h1,h2,h3⟩;unfold Rd;rw[hf nb V];exact b
theorem PS.mark{H0:Heap}{nb cb ob nxo v:Nat}{n x:Int}{ev:Value}{es:List Ed}{m:Nat}{c:List Int}(h:PS H0 H nb cb ob nxo n ev es m c):PS H0 (aC H cb ((c.map (Value.int .i64)).set (0+v*1) (.int .i64 x))) nb cb ob nxo n ev es m (c.set v x):=by
 obtain⟨a,b,g,d,h1,h2,h3⟩:=h;refine⟨a.set V,Rd.skip V b,g.frame (by rw[ak,aw V]) (λb hb _=>by rw[ak,aw V]) (au _),?_,h1,h2,h3⟩;unfold aB;rw[aj,List.map_set,Nat.zero_add,Nat.mul_one]
theorem ptK{n:Int}{m nb cb ob nxo s v:Nat}{es:List Ed}{base:Option Addr}{ec cc oc N:Nat}{H0:Heap}{c todo:List Int}{tv:Value}(Dl:A.funcs 60=some NF)(ox:zhN A 60)(hm:kK n es)(iL:n=(m:Int))(he:bL H0 nb 2 aW (.slice base es.length ec) es)(hN:N<=1048576)(hv:v<m)(hs:s<m)(Q8:Mk c v)(ps:PS H0 H nb cb ob nxo n (.slice base es.length ec) es m c)(st:lS H nxo nx tv todo)(hx:nxo<=nx)(iv:Inv es m s (PK es v 0) c todo)(hb:2*left c+todo.length<=2*m+1)(bq:∀σ H' nx' c' y9 tv',bD [(S1,.slice none 0 0),(S2,.slice none 0 0),(S3,.pointer (some ⟨nb,0,none⟩)),(S8,.slice (some ⟨cb,0,some 1⟩) m cc),(S9,.int .i64 ((N:Nat):Int)),(dQ,.slice (some ⟨ob,0,some 1⟩) m oc),(eN,.int .i64 ((s:Nat):Int)),(jg,tv')] σ->
   PS H0 H' nb cb ob nxo n (.slice base es.length ec) es m c'->lS H' nxo nx' tv' y9->Inv es m s (λ_ _=>False) c' y9->2*left c'+y9.length<=2*left c+todo.length->nx<=nx'->Q (.exit 4) σ H' nx') :
  WC A (.loop P1) [(S1,.slice none 0 0),(S2,.slice none 0 0),(S3,.pointer (some ⟨nb,0,none⟩)),(S8,.slice (some ⟨cb,0,some 1⟩) m cc),(S9,.int .i64 ((N:Nat):Int)),(dQ,.slice (some ⟨ob,0,some 1⟩) m oc),(eN,.int .i64 ((s:Nat):Int)),(jg,tv),(ik,.int .i64 ((v:Nat):Int)),(iV,.int .i64 0)] H nx Q:=by
 have dx:=hm.2.2.1;have cH:=hm.2.1;refine WC.loop (α:=Nat×List Int×List Int×Value) (λk=>[(S1,.slice none 0 0),(S2,.slice none 0 0),(S3,.pointer (some ⟨nb,0,none⟩)),(S8,.slice (some ⟨cb,0,some 1⟩) m cc),(S9,.int .i64 ((N:Nat):Int)),(dQ,.slice (some ⟨ob,0,some 1⟩) m oc),(eN,.int .i64 ((s:Nat):Int)),(jg,k.2.2.2),(ik,.int .i64 ((v:Nat):Int)),(iV,.int .i64 ((k.1:Nat):Int))])
  (λk H' nx'=>k.1<=(dY es (2*es.length) v).length/\nx<=nx'/\PS H0 H' nb cb ob nxo n (.slice base es.length ec) es m k.2.1/\lS H' nxo nx' k.2.2.2 k.2.2.1/\Inv es m s (PK es v k.1) k.2.1 k.2.2.1/\Mk k.2.1 v/\2*left k.2.1+k.2.2.1.length<=2*left c+todo.length) (λk=>(dY es (2*es.length) v).length-k.1)
  ?_ (0,c,todo,tv) aX ⟨bS _,au _,ps,st,iv,Q8,au _⟩
 rintro⟨k,c1,iA,YU⟩ H1 aQ ⟨hk,jY,kL,ll,za,wO,dS⟩;simp only at hk kL ll za wO dS ⊢;have Di:=nD (es:=es) (k:=2*es.length) (v:=v);obtain⟨us,u,iF,sB,pY,mI⟩:=kL.gs.row (v:=v) (by rw[dG];exact hv);rw[dG]at iF;rw[lp hv]at mI;obtain⟨ub,uc,hu⟩:=jX mI;have Q5:Rd H1 ob us:=.inl sB;have o1:=kL.h1;have o2:=kL.h2;have o3:=kL.h3;have fU:=kL.rd;rw[hu]at pY;have kI:=za.len;have KK:ah H1 (at_ cb)=some (.cells (c1.map (.int .i64))):=kL.ci;unfold P1
 repeat' (first|refine aE ?_|(refine bJ ?_ ?_<;>intro h<;>(try simp only[aL]at h))|fail)
 ·have bQ:k<(dY es (2*es.length) v).length:=V;obtain⟨q,hq,KI,hqe,IL⟩:=Dk bQ;obtain⟨rb,rc,vd,acq,YV,rX,hrx⟩:=mI.cell hq;rw[hu]at vd;cases vd;have acr:Rd H1 rb _:=.inl rX
  repeat' (first|refine aE ?_|fail)
  refine WO.cn rfl ?_;refine(KC Dl ox ((he.same kL.same).up (show nb<=aQ by omega)) KI V).of ?_;rintro _ H2 nx2 ⟨rfl,bN,fg⟩;have IM:=kL.frame (H2:=H2) (λb hb=>bN b V);have xn:=ll.frame (H':=H2) (nx':=nx2) (λb _ hb=>bN b hb) fg;have afY:ah H2 (at_ cb)=some (.cells (c1.map (.int .i64))):=IM.ci;obtain⟨w,hw,YW⟩:=vj hm (bM KI);have IN:w<m:=V;have IP:MO es v w:=⟨q,KI,hqe,hw⟩;rw[hw]at IL ⊢;have hwr:Old es s w\/Reach es s w:=by
   rcases za.only v wO with h|h
   ·exact .inl (h.wg IP)
   ·exact .inr (.step h IP)
  have oN:=aM (show w<c1.length by omega);generalize c1[w]=x at oN;have DQ:=aB.cell oN;have hwc:w<(c1.map (Value.int .i64)).length:=by rw[ja];omega
  repeat' (first|refine aE ?_|(refine bJ ?_ ?_<;>intro h<;>(try simp only[aL]at h))|fail)
  ·refine⟨(k+1,c1,iA,YU),by show (dY es (2*es.length) v).length-(k+1)<(dY es (2*es.length) v).length-k;omega,.cons rfl aX,by show k+1<=_;omega,V,IM,xn,za.skip ⟨x,oN,V⟩ (λ_ _ h=>h.next IL.symm),wO,dS⟩
  ·refine WO.n rfl ?_;have YX:=IM.mark (v:=w) (x:=((N:Nat):Int));have My:=xn.frame (H':=aC H2 cb ((c1.map (Value.int .i64)).set (0+w*1) (.int .i64 (N:Int)))) (nx':=nx2) (λb hb _=>by rw[ak,aw V]) (au _);have st4:=My.frame (H':=aC (aC H2 cb ((c1.map (Value.int .i64)).set (0+w*1) (.int .i64 (N:Int)))) nx2 [.int .i64 (w:Int)]) (nx':=nx2+1) (λb _ hb=>by rw[ak,aw V]) (cE _);have hlf:=nF oN V (show (0:Int)<=(N:Int) by omega);have Q9:=za.mark IN (show (0:Int)<=(N:Int) by omega) hwr (P':=PK es v (k+1)) (λ_ _ h=>h.next IL.symm);refine bG.Wc (lo:=nxo) rfl rfl Rd.self st4 V (by unfold small;omega) (by unfold small;omega) ?_;intro UF H3 bW j8 NJ YY;have ps4:=YX.frame (H2:=H3) (λb hb=>by rw[YY b hb,ak,aw V])
   repeat' (first|refine aE ?_|fail)
   refine⟨(k+1,c1.set w (N:Int),iA++[(w:Int)],UF),by show (dY es (2*es.length) v).length-(k+1)<(dY es (2*es.length) v).length-k;omega,.cons rfl aX,by show k+1<=_;omega,V,ps4,NJ,Q9,(Mk.set V V).2 (.inr wO),?_⟩;show 2*left (c1.set w (N:Int))+(iA++[(w:Int)]).length<=_;rw[cm];show _+(iA.length+1)<=_;omega
 ·have:k=(dY es (2*es.length) v).length:=V;subst this;exact bq _ _ _ c1 iA YU aX kL ll (za.none λ_ _ h=>h.none) dS jY
theorem ptD{n:Int}{m nb cb ob nxo s:Nat}{es:List Ed}{base:Option Addr}{ec cc oc N:Nat}{H0:Heap}{c todo:List Int}{tv:Value}(Dl:A.funcs 60=some NF)(ox:zhN A 60)(hm:kK n es)(iL:n=(m:Int))(he:bL H0 nb 2 aW (.slice base es.length ec) es)(hN:N<=1048576)(hs:s<m)(ps:PS H0 H nb cb ob nxo n (.slice base es.length ec) es m c)(st:lS H nxo nx tv todo)(hx:nxo<=nx)(iv:Inv es m s (λ_ _=>False) c todo)(hb:2*left c+todo.length<=2*m+1)(bq:∀σ H' nx' c',bD [(S1,.slice none 0 0),(S2,.slice none 0 0),(S3,.pointer (some ⟨nb,0,none⟩)),(S8,.slice (some ⟨cb,0,some 1⟩) m cc),(S9,.int .i64 ((N:Nat):Int)),(dQ,.slice (some ⟨ob,0,some 1⟩) m oc),(eN,.int .i64 ((s:Nat):Int))] σ->
   PS H0 H' nb cb ob nxo n (.slice base es.length ec) es m c'->Inv es m s (λ_ _=>False) c' []->nx<=nx'->Q (.exit 2) σ H' nx') :
  WC A (.loop Ir) [(S1,.slice none 0 0),(S2,.slice none 0 0),(S3,.pointer (some ⟨nb,0,none⟩)),(S8,.slice (some ⟨cb,0,some 1⟩) m cc),(S9,.int .i64 ((N:Nat):Int)),(dQ,.slice (some ⟨ob,0,some 1⟩) m oc),(eN,.int .i64 ((s:Nat):Int)),(jg,tv)] H nx Q:=by
 have cH:=hm.2.1;refine WC.loop (α:=List Int×List Int×Value) (λk=>[(S1,.slice none 0 0),(S2,.slice none 0 0),(S3,.pointer (some ⟨nb,0,none⟩)),(S8,.slice (some ⟨cb,0,some 1⟩) m cc),(S9,.int .i64 ((N:Nat):Int)),(dQ,.slice (some ⟨ob,0,some 1⟩) m oc),(eN,.int .i64 ((s:Nat):Int)),(jg,k.2.2)])
  (λk H' nx'=>nx<=nx'/\PS H0 H' nb cb ob nxo n (.slice base es.length ec) es m k.1/\lS H' nxo nx' k.2.2 k.2.1/\Inv es m s (λ_ _=>False) k.1 k.2.1/\2*left k.1+k.2.1.length<=2*m+1) (λk=>2*left k.1+k.2.1.length)
  ?_ (c,todo,tv) aX ⟨au _,ps,st,iv,hb⟩
 rintro⟨c1,iA,YU⟩ H1 aQ ⟨jY,kL,ll,za,dS⟩;simp only at kL ll za dS ⊢;by_cases cG:iA=[]
 ·subst cG;obtain⟨b,tc,cs,rfl,_⟩:=ll;unfold Ir
  repeat' (first|refine aE ?_|(refine bJ ?_ ?_<;>intro h<;>(try simp only[aL]at h))|fail)
  ·exact absurd h (by simp)
  exact bq _ _ _ c1 aX kL za jY
 ·obtain⟨xs,x,rfl⟩:∃xs x,iA=xs++[x]:=⟨iA.dropLast,iA.getLast cG,(List.dropLast_concat_getLast cG).symm⟩;obtain⟨v,rfl,_,_⟩:=za.Wd x (by simp);obtain⟨Q9,hv,Q8⟩:=za.pop;obtain⟨b,tc,cs,rfl,PB,hr,bH,xn⟩:=ll.last;have hrR:Rd H1 b cs:=.inl hr;have Ra:cs[0+(xs.length+1-1)*1]?=some (.int .i64 (v:Int)):=bH;rw[cm]at dS;have k9:2*left c1+(xs.length+1)<=2*m+1:=dS;unfold Ir
  repeat' (first|refine aE ?_|(refine bJ ?_ ?_<;>intro h<;>(try simp only[aL]at h))|fail)
  ·refine WC.sub aX (ptK Dl ox hm iL he hN hv hs Q8 kL xn V Q9 V (λσ H2 nx2 c2 zd UF hσ IM My UG MP fg=>?_));refine kW (Md ⟨(c2,zd,UF),?_,hσ,V,IM,My,UG,?_⟩)
   ·show 2*left c2+zd.length<2*left c1+(xs++[(v:Int)]).length;rw[cm];show _<_+(xs.length+1);omega
   ·show 2*left c2+zd.length<=2*m+1;omega
  ·omega
theorem ptS{n:Int}{m nb cb ob nxo:Nat}{es:List Ed}{base:Option Addr}{ec cc oc:Nat}{H0:Heap}{c:List Int}(Dl:A.funcs 60=some NF)(ox:zhN A 60)(hm:kK n es)(iL:n=(m:Int))(he:bL H0 nb 2 aW (.slice base es.length ec) es)(ps:PS H0 H nb cb ob nxo n (.slice base es.length ec) es m c)(hx:nxo<=nx)(kI:c.length=m)(hc:∀w,w<m->(Mk c w↔Old es 0 w))(bq:∀σ H' nx',bD [(S8,.slice (some ⟨cb,0,some 1⟩) m cc),(S9,.int .i64 ((cy es m:Nat):Int))] σ->aq H0 H' nb->nx<=nx'->Q (.exit 0) σ H' nx') :
  WC A (.loop P3) [(S1,.slice none 0 0),(S2,.slice none 0 0),(S3,.pointer (some ⟨nb,0,none⟩)),(S8,.slice (some ⟨cb,0,some 1⟩) m cc),(S9,.int .i64 0),(dQ,.slice (some ⟨ob,0,some 1⟩) m oc),(eN,.int .i64 0)] H nx Q:=by
 have cH:=hm.2.1;refine WC.loop (α:=Nat×List Int) (λk=>[(S1,.slice none 0 0),(S2,.slice none 0 0),(S3,.pointer (some ⟨nb,0,none⟩)),(S8,.slice (some ⟨cb,0,some 1⟩) m cc),(S9,.int .i64 ((cy es k.1:Nat):Int)),(dQ,.slice (some ⟨ob,0,some 1⟩) m oc),(eN,.int .i64 ((k.1:Nat):Int))])
  (λk H' nx'=>k.1<=m/\nx<=nx'/\PS H0 H' nb cb ob nxo n (.slice base es.length ec) es m k.2/\k.2.length=m/\∀w,w<m->(Mk k.2 w↔Old es k.1 w)) (λk=>m-k.1)
  ?_ (0,c) aX ⟨bS _,au _,ps,kI,hc⟩
 rintro⟨s,c1⟩ H1 aQ ⟨hs,jY,kL,sj,lZ⟩;simp only at hs kL sj lZ ⊢;have NK:=lq (es:=es) (k:=s);have o1:=kL.h1;have o2:=kL.h2;have o3:=kL.h3;have fU:=kL.rd;have KK:ah H1 (at_ cb)=some (.cells (c1.map (.int .i64))):=kL.ci;subst iL;unfold P3
 repeat' (first|refine aE ?_|(refine bJ ?_ ?_<;>intro h<;>(try simp only[aL]at h))|fail)
 ·have pB:s<m:=V;have oN:=aM (show s<c1.length by omega);generalize c1[s]=x at oN;have DQ:=aB.cell oN
  repeat' (first|refine aE ?_|(refine bJ ?_ ?_<;>intro h<;>(try simp only[aL]at h))|fail)
  ·have ho:Old es s s:=(lZ s pB).1 ⟨x,oN,V⟩;refine⟨(s+1,c1),by show m-(s+1)<m-s;omega,.cons rfl (.cons rfl (.cons rfl (.cons rfl (.cons ?_ (.cons rfl (.cons rfl (.nil _))))))),by show s+1<=m;omega,V,kL,sj,λw hw=>by rw[Old.same ho];exact lZ w hw⟩;show some _=some _;rw[jZ ho]
  ·have gu:¬Old es s s:=λho=>Mk.not oN V ((lZ s pB).2 ho)
   have hlf:=nF oN V (show (0:Int)<=((cy es s:Nat):Int) by omega);have uo:=KJ (c:=c1);have IM:=(kL.frame (H2:=aC H1 aQ [.int .i64 (s:Int)]) (λb hb=>by rw[ak,aw V])).mark (v:=s) (x:=((cy es s:Nat):Int));have xn:=(lS.one (H:=H1) (x:=(s:Int)) (show nxo<=aQ by omega)).frame (H':=aC (aC H1 aQ [.int .i64 (s:Int)]) cb ((c1.map (Value.int .i64)).set (0+s*1) (.int .i64 ((cy es s:Nat):Int)))) (nx':=aQ+1) (λb hb _=>by rw[ak,aw V]) (au _);have Q9:=Inv.start (x:=((cy es s:Nat):Int)) hm rfl sj pB V lZ;refine WC.sub aX (ptD Dl ox hm rfl he V pB IM xn V Q9 (by show 2*left _+1<=_;omega) (λσ H3 bW c3 hσ YX UG j8=>?_));refine kW (lO (WC.sub hσ ?_))
   repeat' (first|refine aE ?_|fail)
   refine⟨(s+1,c3),by show m-(s+1)<m-s;omega,.cons rfl (.cons rfl (.cons rfl (.cons rfl (.cons ?_ (.cons rfl (.cons rfl (.nil _))))))),by show s+1<=m;omega,V,YX,UG.len,λw hw=>UG.done hm rfl pB hw⟩;show some _=some _;rw[gJ gu]
 ·have:s=m:=V;subst this;exact bq _ _ _ aX kL.same jY
theorem F4{f:FuncId}(hf:A.funcs f=some tI)(hh:zhN A f)(Dl:A.funcs 60=some NF)(ox:zhN A 60)(YZ:A.funcs 58=some u9)(IQ:zhN A 58)(Y0:A.funcs 59=some BD)(IS:zhN A 59)(De:A.funcs 87=some pP)(ou:zhN A 87){n:Int}{m:Nat}{ev:Value}{es:List Ed}(hm:kK n es)(iL:n=(m:Int))(he:bL H nx 2 aW ev es) :
  WF A f [.agg #[.int .i64 n,ev],.slice none 0 0,.slice none 0 0] H nx λv H' nx'=>∃u,v=oneOf [u,.int .i64 ((cy es m:Nat):Int)]/\aq H H' nx/\nx<=nx':=by
 obtain⟨base,ec,rfl⟩:=he.form;have cH:=hm.2.1;subst iL;refine WF.enter (hh _ _ _) hf ?_
 repeat' (first|refine aE ?_|fail)
 have bF:aq H (aC H nx [.int .i64 (m:Int),.slice base es.length ec]) nx:=aq.refl.set (au _);refine WO.cn rfl ?_;refine(y8 YZ IQ (m:=m) (x:=-1) V).of ?_;rintro _ H1 aQ ⟨cb,cc,rfl,zS,Rb,F5,KK,bt⟩;have bu:aq H H1 nx:=bF.trans bt V;have dS:Rd H1 nx [.int .i64 (m:Int),.slice base es.length ec]:=bt.rd V Rd.self
 repeat' (first|refine aE ?_|fail)
 refine WO.cn rfl ?_;refine(BO Y0 IS De ou hm rfl ((he.same bu).up V)).of ?_;rintro _ H2 nx2 ⟨ob,oc,rfl,uj,Y1,Rc,hg,bN,fg⟩
 repeat' (first|refine aE ?_|fail)
 refine WC.sub aX (ptS (nb:=nx) (cb:=cb) (ob:=ob) (nxo:=nx2) (c:=List.replicate m (-1)) Dl ox hm rfl he ⟨bu.trans bN V,bN.rd V dS,hg,(bN cb F5).trans KK,V,V,Rc⟩ (au _) (by simp) (λw hw=>⟨λ⟨x,h1,h2⟩=>by rw[mN,aJ hw]at h1;cases h1;omega,λh=>(Old.zero h).elim⟩) (λσ H3 bW hσ de j8=>?_));refine kW (lO (WC.sub hσ ?_))
 repeat' (first|refine aE ?_|fail)
 exact aD (vs:=[_,_]) rfl ⟨_,rfl,de,V⟩
end
section
variable {A:aN}{H H':Heap}{nx nx':Nat}{σ:aR}{Q:cw}
theorem kA{p:List Bool}{agg:Option Nat}{b o:Nat}{cs:List Value}{v:Value}{Q:Value->Heap->Nat->Prop}(h1:sl σ p=some (.pointer (some ⟨b,o,none⟩)))(h2:ah H (at_ b)=some (.cells cs))(h3:partOf cs o agg=some v)(hq:Q (oneOf [v]) H nx):gR [(.var p,some agg)] Q .ret σ H nx:=by
 refine⟨[v],?_,hq⟩;have:tr σ H (.var p,some agg)=some v:=by
  show (match sl σ p with
   | some (.pointer (some ⟨b,o,none⟩))=>match ah H (at_ b)with
    | some (.cells cs)=>partOf cs o agg
    | _=>none
   | _=>none)=_
  rw[h1];simp only[h2];exact h3
 unfold gB;rw[this];rfl
theorem MQ{f:FuncId}(hf:A.funcs f=some we)(hh:zhN A f)(G4:A.funcs 90=some kY)(q9:zhN A 90){m s:Nat}(hm:m<=1024)(hs:s<m) :
  WF A f [.int .i64 (m:Int),.int .i64 (s:Int)] H nx λv H' nx'=>∃qb bb bc fb fc,v=.agg #[.slice (some ⟨qb,0,some 1⟩) 1 (2*1+1),.slice (some ⟨bb,0,some 1⟩) m bc,.slice (some ⟨fb,0,some 1⟩) m fc,.slice none 0 0]/\
   ah H' (at_ qb)=some (.cells [.int .i64 (s:Int)])/\aB H' bb (List.replicate m (-1))/\aB H' fb ((List.replicate m (-1)).set s 0)/\nx<=qb/\qb<bb/\bb<fb/\fb<nx'/\aq H H' nx:=by
 refine WF.enter (hh _ _ _) hf ?_
 repeat' (first|refine aE ?_|fail)
 refine WO.cn rfl ?_;refine(mJ G4 q9 (m:=m) (x:=-1) V).of ?_;rintro _ H1 aQ ⟨bb,bc,rfl,hbc,ahV,Y2,hbi,bt⟩;refine WO.cn rfl ?_;refine(mJ G4 q9 (m:=m) (x:=-1) V).of ?_;rintro _ H2 nx2 ⟨fb,fc,rfl,hfc,ahW,acu,Cp,bN⟩;have ahX:ah H2 (at_ nx)=some (.cells [.slice none 0 0,.slice none 0 0,.slice none 0 0,.slice none 0 0]):=(bN nx V).trans ((bt nx V).trans (by rw[ak,aw V];exact aj));have afZ:ah H2 (at_ (nx+1))=some (.cells [.int .i64 (s:Int)]):=(bN _ V).trans ((bt _ V).trans aj);have af0:ah H2 (at_ bb)=some (.cells ((List.replicate m (-1)).map (.int .i64))):=(bN bb V).trans hbi;have ahY:ah H2 (at_ fb)=some (.cells ((List.replicate m (-1)).map (.int .i64))):=Cp;have fE:∀b,b<nx->ah H2 (at_ b)=ah H (at_ b):=λb hb=>(bN b V).trans ((bt b V).trans (by rw[ak,aw V,ak,aw V]))
 have vh:s<((List.replicate m (-1:Int)).map (Value.int .i64)).length:=by simpa using hs
 repeat' (first|refine aE ?_|fail)
 refine kA rfl (by first|exact aj|(first|with_reducible apply aj|with_reducible assumption|((repeat ((with_reducible apply ay);omega));first|with_reducible apply aj|with_reducible assumption))) rfl ⟨nx+1,bb,bc,fb,fc,rfl,?_,?_,?_,V,V,V,V,λb hb=>?_⟩
 ·repeat (first|exact afZ|(apply ay V))
 ·show ah _ _=_
  repeat (first|exact af0|(apply ay V))
 ·show ah _ _=_;refine ay V ?_
  first
   | (rw[aj,List.map_set];congr 3;first|done|rfl|omega)
 ·repeat (first|exact fE b hb|(apply ay V))
end
end Go.Eng
