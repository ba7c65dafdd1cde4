import Derived.Test.YtlffogombmhmfaaGreatWa
/- Walks over the program: part 2. -/

namespace Go.Eng
variable {A:aG} {H H':Heap} {nx nx':Nat} {σ:aP} {Q:ct}
set_option maxRecDepth 100000
theorem sP {r:List (List Int)} {v k:Nat} (hk:k < (r.getD v []).length):(r.getD v [])[k]?=some (iX r v k):=by
 unfold iX
 rw [List.getD_eq_getElem?_getD (l:=r.getD v []),List.getElem?_eq_getElem hk];rfl
theorem nxI {n:Int} {es:List Ed} {r:List (List Int)} {nb lb v:Nat} {ib:Option Addr} {ic lc:Nat} {rv:Value} {H0:Heap} {l:List Int} (g:cJ n es r)
  (hi:bS H0 nb 1 bq (.slice ib (r.getD v []).length ic) (r.getD v [])) (hv:v < r.length) (ml:(r.getD v []).length≤1048576) (dP:es.length≤4000) (yt:v≤1048576)
  (hl:ay H lb l) (tP:kh da es r v 0 l) (KK:nb≤lb) (nG:lb < nx) (bV:an H0 H nb)
  (aN:∀σ H' nx' l',bg [(S5,.slice (some ⟨lb,0,some 1⟩) (2 * es.length) lc),(nu,rv),(oq,.int .i64 ((r.length:Nat):Int)),(nw,.int .i64 ((v:Nat):Int))] σ→
   kh da es r v (gN r v) l'→ay H' lb l'→an H0 H' nb→nx≤nx'→Q (.exit 2) σ H' nx') :
  WC A (.loop QG) [(S5,.slice (some ⟨lb,0,some 1⟩) (2 * es.length) lc),(nu,rv),(oq,.int .i64 ((r.length:Nat):Int)),(nw,.int .i64 ((v:Nat):Int)),(S7,.slice ib (r.getD v []).length ic),(lf,.slice ib (r.getD v []).length ic),(sf,.int .i64 (((r.getD v []).length:Nat):Int)),(rG,.int .i64 0)] H nx Q:=by
 refine WC.loop (α:=Nat×List Int) (fun k=>[(S5,.slice (some ⟨lb,0,some 1⟩) (2 * es.length) lc),(nu,rv),(oq,.int .i64 ((r.length:Nat):Int)),(nw,.int .i64 ((v:Nat):Int)),(S7,.slice ib (r.getD v []).length ic),(lf,.slice ib (r.getD v []).length ic),(sf,.int .i64 (((r.getD v []).length:Nat):Int)),(rG,.int .i64 ((k.1:Nat):Int))])
  (fun k H' nx'=>k.1≤(r.getD v []).length∧nx≤nx'∧kh da es r v k.1 k.2∧ay H' lb k.2∧an H0 H' nb) (fun k=>(r.getD v []).length - k.1)
  ?_ (0,l) aW ⟨Nat.zero_le _,Nat.le_refl _,tP,hl,bV⟩
 rintro ⟨k,l1⟩ H1 aT ⟨hk,cD,mJ,iA,aM⟩
 simp only at hk mJ iA ⊢
 have Ds:=mJ.1
 have GY:ak H1 (at_ lb)=some (.cells (l1.map (.int .i64))):=iA
 unfold QG
 repeat' (first|((first|refine WO.n rfl ?_|refine WO.k rfl ?_);(refine ei (fun h=>?_) (fun h=>?_)<;>(try simp only [Int.ofNat_eq_natCast] at h)))|with_reducible (first|refine WO.nil ?_|refine WC.aa ?_|refine WC.seq ?_|refine WC.skip ?_|refine WC.exit ?_|refine WC.block ?_)|refine WC.aB rfl ?_|refine WC.ax rfl ?_|with_reducible (first|refine aC ?_|refine dQ ?_))
 ·have cI:k < (r.getD v []).length:=by omega
  have GQ:k < gN r v:=cI
  obtain ⟨bb,bo,uA,rfl,je,_,_,Dq,uB⟩:=hi.at (by intro e;rw [e] at cI;simp at cI)
  have q1:=ft (v:=.int .i64 (iX r v k)) (uB k _ (sP cI))
  have A6:(k + 1) % (r.getD v []).length < (r.getD v []).length:=Nat.mod_lt _ (by omega)
  have q2:=ft (v:=.int .i64 (iX r v ((k + 1) % (r.getD v []).length))) (uB _ _ (sP A6))
  have KM:=aM.rd je Dq
  have bP:=mJ.step g KN (fun a ha=>eI ha) hv GQ
  obtain ⟨p1,p2,_⟩:=g.ok v k hv GQ
  generalize hx:iX r v k=x at q1 bP p1 p2
  obtain ⟨w,rfl⟩:∃w:Nat,x=(w:Int):=⟨x.toNat,by omega⟩
  rw [Int.toNat_natCast] at bP
  have yQ:w < 2 * es.length:=by omega
  have htl:=eI yQ
  repeat' (first|((first|refine WO.n rfl ?_|refine WO.k rfl ?_);(first|refine aK ?_|refine cM ?_|refine bu ?_|refine aZ ?_|refine fj ?_|refine bO ?_|refine Bc ?_|refine Zt ?_))|with_reducible (first|refine WO.nil ?_|refine WC.aa ?_|refine aC ?_|refine eT ?_))
  refine ⟨(k + 1,l1.set (da w) (iX r v ((k + 1) % gN r v))),by show (r.getD v []).length - (k + 1) < (r.getD v []).length - k;omega,.cons rfl aW,by show k + 1≤_;omega,by omega,bP,?_,aM.set (by omega)⟩
  show ay (aw H1 lb _) lb _
  unfold ay
  rw [aq,List.map_set]
  congr 3
  first|done|rfl|omega
 ·have:k=(r.getD v []).length:=by omega
  subst this
  exact aN _ _ _ l1 aW mJ iA aM cD
theorem nxO {n:Int} {es:List Ed} {r:List (List Int)} {nb lb:Nat} {bW:Option Addr} {rc lc:Nat} {H0:Heap} {l:List Int} (g:cJ n es r)
  (hr:eY H0 nb 1 bq (.slice bW r.length rc) r) (cj:b8 r) (dP:es.length≤4000)
  (hl:ay H lb l) (tP:kh da es r 0 0 l) (KK:nb≤lb) (nG:lb < nx) (bV:an H0 H nb)
  (aN:∀σ H' nx' l',bg [(S5,.slice (some ⟨lb,0,some 1⟩) (2 * es.length) lc)] σ→
   fe es r l'→ay H' lb l'→an H0 H' nb→nx≤nx'→Q (.exit 0) σ H' nx') :
  WC A (.loop QH) [(S5,.slice (some ⟨lb,0,some 1⟩) (2 * es.length) lc),(nu,.slice bW r.length rc),(oq,.int .i64 ((r.length:Nat):Int)),(nw,.int .i64 0)] H nx Q:=by
 refine WC.loop (α:=Nat×List Int) (fun v=>[(S5,.slice (some ⟨lb,0,some 1⟩) (2 * es.length) lc),(nu,.slice bW r.length rc),(oq,.int .i64 ((r.length:Nat):Int)),(nw,.int .i64 ((v.1:Nat):Int))])
  (fun v H' nx'=>v.1≤r.length∧nx≤nx'∧kh da es r v.1 0 v.2∧ay H' lb v.2∧an H0 H' nb) (fun v=>r.length - v.1)
  ?_ (0,l) aW ⟨Nat.zero_le _,Nat.le_refl _,tP,hl,bV⟩
 rintro ⟨v,l1⟩ H1 aT ⟨hv,cD,mJ,iA,aM⟩
 simp only at hv mJ iA ⊢
 have nS:=cj.1
 unfold QH
 repeat' (first|((first|refine WO.n rfl ?_|refine WO.k rfl ?_);(refine ei (fun h=>?_) (fun h=>?_)<;>(try simp only [Int.ofNat_eq_natCast] at h)))|with_reducible (first|refine WO.nil ?_|refine WC.aa ?_|refine WC.seq ?_|refine WC.skip ?_|refine WC.exit ?_|refine WC.block ?_)|refine WC.aB rfl ?_|refine WC.ax rfl ?_|with_reducible (first|refine aC ?_|refine dQ ?_))
 ·have nM:v < r.length:=by omega
  have j3:r.getD v []=r[v]:=by rw [List.getD_eq_getElem?_getD,List.getElem?_eq_getElem nM];rfl
  obtain ⟨rb,ro,O0,ib,ic,rfl,rV,oF,qO,hi⟩:=hr.at nM
  rw [← j3] at qO hi
  have Bw:=aM.rd rV oF
  repeat' (first|((first|refine WO.n rfl ?_|refine WO.k rfl ?_);(first|refine aK ?_|refine cM ?_|refine bu ?_|refine aZ ?_))|with_reducible (first|refine WO.nil ?_|refine WC.aa ?_|refine WC.seq ?_|refine WC.block ?_|refine aC ?_))
  refine WC.sub aW (nxI g hi nM (cj.row v) dP (by omega) iA mJ KK (by omega) aM (fun σ H2 nx2 l2 hσ HW lR cZ eW=>?_))
  refine eh (eT (aC (WC.sub hσ ?_)))
  repeat' (first|((first|refine WO.n rfl ?_|refine WO.k rfl ?_);(first|refine aK ?_|refine bO ?_))|with_reducible (first|refine WO.nil ?_|refine WC.aa ?_))
  exact ⟨(v + 1,l2),by show r.length - (v + 1) < r.length - v;omega,.cons rfl aW,by show v + 1≤_;omega,by omega,HW.row,lR,cZ⟩
 ·have:v=r.length:=by omega
  subst this
  exact aN _ _ _ l1 aW mJ.all iA aM cD
theorem Dt {f:FuncId} (hf:A.funcs f=some qM) (hh:∀vs H nx,A.aF f vs H nx=none)
  {n:Int} {ev rv:Value} {es:List Ed} {r:List (List Int)} (g:cJ n es r) (he:bS H nx 2 a5 ev es) (hr:eY H nx 1 bq rv r) (cj:b8 r) (dP:es.length≤4000) :
  WF A f [.agg #[.int .i64 n,ev],rv] H nx fun v H' nx'=>∃b c l,v=.slice (some ⟨b,0,some 1⟩) (2 * es.length) c∧2 * es.length≤au c∧nx≤b∧b < nx'∧fe es r l∧ay H' b l∧an H H' nx:=by
 obtain ⟨base,ec,rfl⟩:=he.form
 obtain ⟨bW,rc,rfl⟩:=hr.form
 refine WF.enter (hh _ _ _) hf ?_
 repeat' (first|((first|refine WO.n rfl ?_|refine WO.k rfl ?_);(first|refine aK ?_|refine dD ?_|refine cM ?_|refine jN ?_|refine aJ ?_|refine mD ?_|refine qL ?_))|with_reducible (first|refine WO.nil ?_|refine WC.aa ?_|refine WC.seq ?_|refine WC.block ?_|refine aC ?_))
 have bM:an H (aw H nx [.int .i64 n,.slice base es.length ec]) nx:=an.refl.set (Nat.le_refl _)
 refine WC.sub aW (nxO (nb:=nx) (lb:=nx + 1) g hr cj dP (hO aq) (.zero (by simp)) (by omega) (by omega) (bM.set (by omega)) (fun σ H2 nx2 l2 hσ lR KP bL eW=>?_))
 refine eh (aC (WC.sub hσ ?_))
 repeat' (first|(refine WO.k rfl ?_;refine aK ?_)|with_reducible (first|refine WO.nil ?_|refine WC.aa ?_|refine WC.seq ?_|refine WC.ret ?_|refine aC ?_))
 exact az (vs:=[_]) rfl ⟨_,_,l2,rfl,by rw [cw];omega,by omega,by omega,lR,KP,bL⟩
theorem ntI {n:Int} {es:List Ed} {r:List (List Int)} {nb lb v:Nat} {bW:Option Addr} {rc lc:Nat} {H0:Heap} {l:List Int} (g:cJ n es r)
  (hr:eY H0 nb 1 bq (.slice bW r.length rc) r) (hv:v < r.length) (ml:(r.getD v []).length≤1048576) (dP:es.length≤4000) (yt:v≤1048576)
  (hl:ay H lb l) (tP:kh id es r v 0 l) (KK:nb≤lb) (nG:lb < nx) (bV:an H0 H nb)
  (aN:∀σ H' nx' l',bg [(S1,.slice bW r.length rc),(S5,.slice (some ⟨lb,0,some 1⟩) (2 * es.length) lc),(S6,.int .i64 ((v:Nat):Int))] σ→
   kh id es r v (gN r v) l'→ay H' lb l'→an H0 H' nb→nx≤nx'→Q (.exit 2) σ H' nx') :
  WC A (.loop Qz) [(S1,.slice bW r.length rc),(S5,.slice (some ⟨lb,0,some 1⟩) (2 * es.length) lc),(S6,.int .i64 ((v:Nat):Int)),(S7,.int .i64 0)] H nx Q:=by
 refine WC.loop (α:=Nat×List Int) (fun k=>[(S1,.slice bW r.length rc),(S5,.slice (some ⟨lb,0,some 1⟩) (2 * es.length) lc),(S6,.int .i64 ((v:Nat):Int)),(S7,.int .i64 ((k.1:Nat):Int))])
  (fun k H' nx'=>k.1≤(r.getD v []).length∧nx≤nx'∧kh id es r v k.1 k.2∧ay H' lb k.2∧an H0 H' nb) (fun k=>(r.getD v []).length - k.1)
  ?_ (0,l) aW ⟨Nat.zero_le _,Nat.le_refl _,tP,hl,bV⟩
 rintro ⟨k,l1⟩ H1 aT ⟨hk,cD,mJ,iA,aM⟩
 simp only at hk mJ iA ⊢
 have Ds:=mJ.1
 have GY:ak H1 (at_ lb)=some (.cells (l1.map (.int .i64))):=iA
 have j3:r.getD v []=r[v]:=by rw [List.getD_eq_getElem?_getD,List.getElem?_eq_getElem hv];rfl
 obtain ⟨rb,ro,O0,ib,ic,rfl,rV,oF,qO,hi⟩:=hr.at hv
 rw [← j3] at qO hi
 have Bw:=aM.rd rV oF
 unfold Qz
 repeat' (first|((first|refine WO.n rfl ?_|refine WO.k rfl ?_);(first|refine cM ?_|refine bu ?_|refine aZ ?_|(refine ei (fun h=>?_) (fun h=>?_)<;>(try simp only [Int.ofNat_eq_natCast] at h))))|with_reducible (first|refine WO.nil ?_|refine WC.aa ?_|refine WC.drawn ?_|refine WC.seq ?_|refine WC.skip ?_|refine WC.exit ?_|refine WC.block ?_)|refine WC.aB rfl ?_|refine WC.ax rfl ?_|with_reducible (first|refine aC ?_|refine dQ ?_))
 ·have cI:k < (r.getD v []).length:=by omega
  have GQ:k < gN r v:=cI
  obtain ⟨bb,bo,uA,rfl,je,_,_,Dq,uB⟩:=hi.at (by intro e;rw [e] at cI;simp at cI)
  have q1:=ft (v:=.int .i64 (iX r v k)) (uB k _ (sP cI))
  have A6:(k + 1) % (r.getD v []).length < (r.getD v []).length:=Nat.mod_lt _ (by omega)
  have q2:=ft (v:=.int .i64 (iX r v ((k + 1) % (r.getD v []).length))) (uB _ _ (sP A6))
  have KM:=aM.rd je Dq
  have bP:=mJ.step g (fun _ _ h=>h) (fun a ha=>ha) hv GQ
  obtain ⟨p1,p2,_⟩:=g.ok v k hv GQ
  generalize hx:iX r v k=x at q1 bP p1 p2
  obtain ⟨w,rfl⟩:∃w:Nat,x=(w:Int):=⟨x.toNat,by omega⟩
  rw [Int.toNat_natCast] at bP
  have yQ:w < 2 * es.length:=by omega
  repeat' (first|((first|refine WO.n rfl ?_|refine WO.k rfl ?_);(first|refine aK ?_|refine cM ?_|refine bu ?_|refine aZ ?_|refine fj ?_|refine bO ?_|refine Bc ?_))|with_reducible (first|refine WO.nil ?_|refine WC.aa ?_|refine aC ?_|refine eT ?_|refine kf ?_))
  refine ⟨(k + 1,l1.set w (iX r v ((k + 1) % gN r v))),by show (r.getD v []).length - (k + 1) < (r.getD v []).length - k;omega,.cons rfl aW,by show k + 1≤_;omega,by omega,bP,?_,aM.set (by omega)⟩
  show ay (aw H1 lb _) lb _
  unfold ay
  rw [aq,List.map_set]
  congr 3
  first|done|rfl|omega
 ·have:k=(r.getD v []).length:=by omega
  subst this
  exact aN _ _ _ l1 aW mJ iA aM cD
theorem ntO {n:Int} {es:List Ed} {r:List (List Int)} {nb lb:Nat} {bW:Option Addr} {rc lc:Nat} {H0:Heap} {l:List Int} (g:cJ n es r)
  (hr:eY H0 nb 1 bq (.slice bW r.length rc) r) (cj:b8 r) (dP:es.length≤4000)
  (hl:ay H lb l) (tP:kh id es r 0 0 l) (KK:nb≤lb) (nG:lb < nx) (bV:an H0 H nb)
  (aN:∀σ H' nx' l',bg [(S5,.slice (some ⟨lb,0,some 1⟩) (2 * es.length) lc)] σ→
   kh id es r r.length 0 l'→ay H' lb l'→an H0 H' nb→nx≤nx'→Q (.exit 0) σ H' nx') :
  WC A (.loop QA) [(S1,.slice bW r.length rc),(S5,.slice (some ⟨lb,0,some 1⟩) (2 * es.length) lc),(S6,.int .i64 0)] H nx Q:=by
 refine WC.loop (α:=Nat×List Int) (fun v=>[(S1,.slice bW r.length rc),(S5,.slice (some ⟨lb,0,some 1⟩) (2 * es.length) lc),(S6,.int .i64 ((v.1:Nat):Int))])
  (fun v H' nx'=>v.1≤r.length∧nx≤nx'∧kh id es r v.1 0 v.2∧ay H' lb v.2∧an H0 H' nb) (fun v=>r.length - v.1)
  ?_ (0,l) aW ⟨Nat.zero_le _,Nat.le_refl _,tP,hl,bV⟩
 rintro ⟨v,l1⟩ H1 aT ⟨hv,cD,mJ,iA,aM⟩
 simp only at hv mJ iA ⊢
 have nS:=cj.1
 unfold QA
 repeat' (first|((first|refine WO.n rfl ?_|refine WO.k rfl ?_);(first|refine aK ?_|refine cM ?_|(refine ei (fun h=>?_) (fun h=>?_)<;>(try simp only [Int.ofNat_eq_natCast] at h))))|with_reducible (first|refine WO.nil ?_|refine WC.aa ?_|refine WC.seq ?_|refine WC.skip ?_|refine WC.exit ?_|refine WC.block ?_)|refine WC.aB rfl ?_|refine WC.ax rfl ?_|with_reducible (first|refine aC ?_|refine dQ ?_))
 ·have nM:v < r.length:=by omega
  refine WC.sub aW (ntI g hr nM (cj.row v) dP (by omega) iA mJ KK (by omega) aM (fun σ H2 nx2 l2 hσ HW lR cZ eW=>?_))
  refine eh (eT (aC (WC.sub hσ ?_)))
  repeat' (first|((first|refine WO.n rfl ?_|refine WO.k rfl ?_);(first|refine aK ?_|refine bO ?_))|with_reducible (first|refine WO.nil ?_|refine WC.aa ?_))
  exact ⟨(v + 1,l2),by show r.length - (v + 1) < r.length - v;omega,.cons rfl aW,by show v + 1≤_;omega,by omega,HW.row,lR,cZ⟩
 ·have:v=r.length:=by omega
  subst this
  exact aN _ _ _ l1 aW mJ iA aM cD
def Rb (m:Nat) (lb l:List Int) (k:Nat):Prop:=l.length=m∧∀i,i < k→l[i]?=lb[da i]?
theorem ntL {m nb bb lb:Nat} {lc bc:Nat} {H0:Heap} {l0 l:List Int} (KQ:A.funcs 117=some rI) (uE:∀vs H nx,A.aF 117 vs H nx=none)
  (hm:m≤4000) (hb:ay H bb l0) (hl0:l0.length=2 * m) (hl:ay H lb l) (tP:Rb (2 * m) l0 l 0) (cy:bb < lb) (th:nb≤bb) (nG:lb < nx) (bV:an H0 H nb)
  (aN:∀σ H' nx' l',bg [(S8,.slice (some ⟨lb,0,some 1⟩) (2 * m) lc)] σ→
   Rb (2 * m) l0 l' (2 * m)→ay H' lb l'→an H0 H' nb→nx≤nx'→Q (.exit 4) σ H' nx') :
  WC A (.loop QB) [(S5,.slice (some ⟨bb,0,some 1⟩) (2 * m) bc),(S8,.slice (some ⟨lb,0,some 1⟩) (2 * m) lc),(S9,.int .i64 0)] H nx Q:=by
 refine WC.loop (α:=Nat×List Int) (fun v=>[(S5,.slice (some ⟨bb,0,some 1⟩) (2 * m) bc),(S8,.slice (some ⟨lb,0,some 1⟩) (2 * m) lc),(S9,.int .i64 ((v.1:Nat):Int))])
  (fun v H' nx'=>v.1≤2 * m∧nx≤nx'∧Rb (2 * m) l0 v.2 v.1∧ay H' lb v.2∧ay H' bb l0∧an H0 H' nb) (fun v=>2 * m - v.1)
  ?_ (0,l) aW ⟨Nat.zero_le _,Nat.le_refl _,tP,hl,hb,bV⟩
 rintro ⟨v,l1⟩ H1 aT ⟨hv,cD,mJ,iA,dB,aM⟩
 simp only at hv mJ iA ⊢
 have Ds:=mJ.1
 have GY:ak H1 (at_ lb)=some (.cells (l1.map (.int .i64))):=iA
 have aaw:ak H1 (at_ bb)=some (.cells (l0.map (.int .i64))):=dB
 unfold QB
 repeat' (first|((first|refine WO.n rfl ?_|refine WO.k rfl ?_);(first|refine cM ?_|(refine ei (fun h=>?_) (fun h=>?_)<;>(try simp only [Int.ofNat_eq_natCast] at h))))|with_reducible (first|refine WO.nil ?_|refine WC.aa ?_|refine WC.seq ?_|refine WC.skip ?_|refine WC.exit ?_|refine WC.block ?_)|refine WC.aB rfl ?_|refine WC.ax rfl ?_|with_reducible (first|refine aC ?_|refine dQ ?_))
 ·have nM:v < 2 * m:=by omega
  have htl:=eI nM
  have q1:=ay.cell (l:=l0) (List.getElem?_eq_getElem (show da v < l0.length by omega))
  refine WO.cn rfl ?_
  refine (GW KQ uE (h:=v) (by omega)).of ?_
  rintro _ H2 nx2 ⟨rfl,rfl,rfl⟩
  repeat' (first|((first|refine WO.n rfl ?_|refine WO.k rfl ?_);(first|refine aK ?_|refine bu ?_|refine aZ ?_|refine fj ?_|refine bO ?_))|with_reducible (first|refine WO.nil ?_|refine WC.aa ?_|refine aC ?_|refine eT ?_))
  refine ⟨(v + 1,l1.set v (l0[da v]'(by omega))),by show 2 * m - (v + 1) < 2 * m - v;omega,.cons rfl aW,by show v + 1≤_;omega,by omega,⟨by simpa using Ds,fun i hi=>?_⟩,?_,?_,aM.set (by omega)⟩
  ·show (l1.set v _)[i]?=_
   rw [List.getElem?_set]
   by_cases e:v=i
   ·subst e
    rw [if_pos rfl,if_pos (by omega),List.getElem?_eq_getElem (show da v < l0.length by omega)]
   ·rw [if_neg e]
    exact mJ.2 i (by simp only at hi;omega)
  ·show ay (aw H2 lb _) lb _
   unfold ay
   rw [aq,List.map_set]
   congr 3
   first|done|rfl|omega
  ·show ay (aw H2 lb _) bb _
   exact bz (by omega) aaw
 ·have:v=2 * m:=by omega
  subst this
  exact aN _ _ _ l1 aW mJ iA aM cD
theorem GZ {f:FuncId} (hf:A.funcs f=some w9) (hh:∀vs H nx,A.aF f vs H nx=none) (KQ:A.funcs 117=some rI) (uE:∀vs H nx,A.aF 117 vs H nx=none)
  {n:Int} {ev rv:Value} {es:List Ed} {r:List (List Int)} (g:cJ n es r) (he:bS H nx 2 a5 ev es) (hr:eY H nx 1 bq rv r) (cj:b8 r) (dP:es.length≤4000) :
  WF A f [.agg #[.int .i64 n,ev],rv] H nx fun v H' nx'=>∃b c l,v=.slice (some ⟨b,0,some 1⟩) (2 * es.length) c∧2 * es.length≤au c∧nx≤b∧b < nx'∧fe es r l∧ay H' b l∧an H H' nx:=by
 obtain ⟨base,ec,rfl⟩:=he.form
 obtain ⟨bW,rc,rfl⟩:=hr.form
 refine WF.enter (hh _ _ _) hf ?_
 repeat' (first|((first|refine WO.n rfl ?_|refine WO.k rfl ?_);(first|refine aK ?_|refine dD ?_|refine cM ?_|refine jN ?_|refine aJ ?_|refine mD ?_|refine qL ?_))|with_reducible (first|refine WO.nil ?_|refine WC.aa ?_|refine WC.seq ?_|refine WC.block ?_|refine aC ?_))
 have bM:an H (aw H nx [.int .i64 n,.slice base es.length ec]) nx:=an.refl.set (Nat.le_refl _)
 refine WC.sub aW (ntO (nb:=nx) (lb:=nx + 1) g hr cj dP (hO aq) (.zero (by simp)) (by omega) (by omega) (bM.set (by omega)) (fun σ H2 nx2 l2 hσ lR KP bL eW=>?_))
 refine eh (aC (WC.sub hσ ?_))
 repeat' (first|((first|refine WO.n rfl ?_|refine WO.k rfl ?_);(first|refine aK ?_|refine cM ?_|refine mD ?_))|with_reducible (first|refine WO.nil ?_|refine WC.aa ?_|refine WC.seq ?_|refine WC.block ?_|refine aC ?_))
 have Ds:=lR.1
 refine WC.sub aW (ntL (nb:=nx) (bb:=nx + 1) (lb:=nx2) (l0:=l2) KQ uE dP (bz (by omega) KP) Ds (hO aq) ⟨by simp,fun i hi=>by omega⟩ (by omega) (by omega) (by omega) (bL.set (by omega)) (fun σ H3 nx3 l3 hσ Rc hi3 fH mG=>?_))
 refine eh (aC (WC.sub hσ ?_))
 repeat' (first|(refine WO.k rfl ?_;refine aK ?_)|with_reducible (first|refine WO.nil ?_|refine WC.aa ?_|refine WC.seq ?_|refine WC.ret ?_|refine aC ?_))
 refine az (vs:=[_]) rfl ⟨_,_,l3,rfl,by rw [cw];omega,by omega,by omega,⟨Rc.1,fun v k hv hk=>?_⟩,hi3,fH⟩
 obtain ⟨g1,g2,_⟩:=g.ok v k hv hk
 rw [Rc.2 _ (eI (by omega)),hM]
 exact lR.2 v k hv hk (.inl hv)
end Go.Eng

namespace Go.Eng
def oH (nxt:List Int):Nat→List Bool→Nat→List Int→List Bool×List Int
 | 0,s,_,f=>(s,f)
 | m + 1,s,k,f=>if s.getD k true then (s,f) else oH nxt m (s.set k true) (nxt.getD k 0).toNat (f++[(k:Int)])
theorem uF {nxt:List Int} {m k:Nat} {s:List Bool} {f:List Int} (h:s.getD k true=true):oH nxt m s k f=(s,f):=by
 cases m with
 | zero=>rfl
 | succ m=>show (if s.getD k true then (s,f) else _)=_;rw [h];rfl
theorem uG {nxt:List Int} {m k:Nat} {s:List Bool} {f:List Int} (h:s.getD k true=false):oH nxt (m + 1) s k f=oH nxt m (s.set k true) (nxt.getD k 0).toNat (f++[(k:Int)]):=by
 show (if s.getD k true then (s,f) else _)=_;rw [h];rfl
theorem count_set {s:List Bool} {k:Nat} (hk:k < s.length) (h:s[k]=false):(s.set k true).count false + 1=s.count false:=by
 induction s generalizing k with
 | nil=>simp at hk
 | cons b s ih=>
  cases k with
  | zero=>
   have hb:b=false:=h
   subst hb
   rw [List.set_cons_zero,List.count_cons_of_ne (by decide),List.count_cons_self]
  | succ k=>
   have:=ih (k:=k) (by simpa using hk) (by simpa using h)
   rw [List.set_cons_succ,List.count_cons,List.count_cons]
   omega
def pM (nxt:List Int) (st:List Bool×List (List Int)) (h:Nat):List Bool×List (List Int):=
 ((oH nxt nxt.length st.1 h []).1,if (oH nxt nxt.length st.1 h []).2=[] then st.2 else st.2++[(oH nxt nxt.length st.1 h []).2])
def aV (nxt:List Int) (k:Nat):List Bool×List (List Int):=(List.range k).foldl (pM nxt) (List.replicate nxt.length false,[])
theorem gp {nxt:List Int} {k:Nat}:aV nxt (k + 1)=pM nxt (aV nxt k) k:=by
 unfold aV
 rw [List.range_succ,List.foldl_append];rfl
def vj (r:List (List Int)) (k:Nat):List (List Int):=(r.take k).filter fun l=>l.length=0
theorem By {r:List (List Int)} {k:Nat} (hk:k < r.length):vj r (k + 1)=if (r.getD k []).length=0 then vj r k++[[]] else vj r k:=by
 unfold vj
 have hg:r.getD k []=r[k]:=by rw [List.getD_eq_getElem?_getD,List.getElem?_eq_getElem hk];rfl
 rw [List.take_add_one,List.getElem?_eq_getElem hk,List.filter_append,hg]
 show _++List.filter _ [r[k]]=_
 by_cases e:r[k].length=0
 ·have e2:r[k]=[]:=List.eq_nil_of_length_eq_zero e
  rw [if_pos e,e2];rfl
 ·rw [if_neg e,List.filter_cons_of_neg (by simpa using e),List.filter_nil,List.append_nil]
theorem Du {r:List (List Int)} {k:Nat}:(vj r k).length≤k:=by
 unfold vj
 refine Nat.le_trans (List.length_filter_le _ _) ?_
 rw [List.length_take];omega
def lj (r:List (List Int)) (nxt:List Int):List (List Int):=(aV nxt nxt.length).2++vj r r.length
noncomputable def Dv (es:List Ed) (r:List (List Int)):List Int:=open Classical in if h:∃l,fe es r l then Classical.choose h else []
theorem qR {n:Int} {es:List Ed} {r:List (List Int)} {l:List Int} (g:cJ n es r) (h:fe es r l):Dv es r=l:=by
 have he:∃l,fe es r l:=⟨l,h⟩
 unfold Dv
 rw [dif_pos he]
 exact fe.uniq g (Classical.choose_spec he) h
noncomputable def dh (es:List Ed) (r:List (List Int)):List (List Int):=lj r (Dv es r)
def LL (H:Heap) (nx0 nx:Nat) (v:Value) (fs:List (List Int)):Prop:=
 ∃us:List Value,us.length=fs.length∧bA H nx0 nx 1 v us.length us∧(∀(i:Nat) (u:Value) (f:List Int),us[i]?=some u→fs[i]?=some f→bS H nx 1 bq u f)∧∀u∈us,∀b,bj u=some b→nx0≤b∧b < nx∧bj v≠some b
section
variable {A:aG} {H H':Heap} {nx nx':Nat} {σ:aP} {L:List Value}
theorem LL.nil {nx0:Nat}:LL H nx0 nx (.slice none 0 0) []:=⟨[],rfl,.nil,fun i u f h=>by simp at h,fun u h=>by simp at h⟩
theorem LL.vh {nx0:Nat} {v:Value} {fs:List (List Int)} (h:LL H nx0 nx v fs) (hs:∀b,nx0≤b→b < nx→ak H' (at_ b)=ak H (at_ b)) (hn:nx≤nx'):LL H' nx0 nx' v fs:=by
 obtain ⟨us,h1,h2,h3,h4⟩:=h
 refine ⟨us,h1,h2.vh hs hn,fun i u f hu hf=>(h3 i u f hu hf).blk (fun b hb hl=>hs b ?_ hl) hn,fun u hu b hb=>?_⟩
 ·exact (h4 u (List.mem_of_getElem? hu) b hb).1
 ·obtain ⟨g1,g2,g3⟩:=h4 u hu b hb
  exact ⟨g1,by omega,g3⟩
theorem m5 (us:List Value):us.flatMap Gr=us:=by
 induction us with
 | nil=>rfl
 | cons u us ih=>rw [List.flatMap_cons,ih];rfl
theorem LL.E7 {nx0:Nat} {v:Value} {fs:List (List Int)} (h:LL H nx0 nx v fs):eY H nx 1 bq v fs:=by
 obtain ⟨us,h1,h2,h3,h4⟩:=h
 exact ⟨us,h1,bA.sle (enc:=Gr) (by rw [m5];exact h2) (fun _=>rfl),h3⟩
theorem LL.blk {nx0 b:Nat} {v:Value} {fs:List (List Int)} (h:LL H nx0 nx v fs) (hb:bj v=some b):nx0≤b∧b < nx:=by
 obtain ⟨us,h1,⟨_,⟨rfl,_⟩|⟨c,rfl,g1,g2,_⟩⟩,_⟩:=h
 ·cases hb
 ·cases hb;exact ⟨g1,g2⟩
theorem LL.form {nx0:Nat} {v:Value} {fs:List (List Int)} (h:LL H nx0 nx v fs):∃b c,v=.slice b fs.length c:=by
 obtain ⟨us,h1,⟨_,⟨rfl,g⟩|⟨c,rfl,g1,g2,_⟩⟩,_⟩:=h
 ·exact ⟨_,_,by rw [← h1,g]⟩
 ·exact ⟨_,_,by rw [← h1]⟩
theorem LL.at {nx0 n c:Nat} {base:Option Addr} {fs:List (List Int)} (h:LL H nx0 nx (.slice base n c) fs) {i:Nat} (hi:i < fs.length) :
  ∃b o cs ib ic,base=some ⟨b,o,some 1⟩∧nx0≤b∧b < nx∧Rd H b cs∧cs[o + i * 1]?=some (.slice ib (fs[i]).length ic)∧bS H nx 1 bq (.slice ib (fs[i]).length ic) fs[i]∧∀q,bj (.slice ib (fs[i]).length ic)=some q→nx0≤q:=by
 obtain ⟨us,h1,⟨h2a,h2⟩,h3,h4⟩:=h
 have hu:us[i]?=some us[i]:=List.getElem?_eq_getElem (by omega)
 have hs:=h3 i _ _ hu (List.getElem?_eq_getElem hi)
 have hq:=h4 us[i] (List.getElem_mem (by omega))
 rcases h2 with ⟨_,h0⟩|⟨b,hv,g1,g2,g3⟩
 ·omega
 ·cases hv
  obtain ⟨ib,ic,he⟩:=hs.form
  rw [he] at hu hs hq
  exact ⟨b,0,us,ib,ic,rfl,g1,g2,.inl g3,by rw [Nat.zero_add,Nat.mul_one];exact hu,hs,fun q hb=>(hq q hb).1⟩
def cT (H H':Heap) (lo hi:Nat):Prop:=∀b,lo≤b→b < hi→ak H' (at_ b)=ak H (at_ b)
theorem cT.refl {lo hi:Nat}:cT H H lo hi:=fun _ _ _=>rfl
theorem cT.rd {lo hi b:Nat} {cs:List Value} (h:cT H H' lo hi) (h1:lo≤b) (h2:b < hi) (hr:Rd H b cs):Rd H' b cs:=by
 unfold Rd
 rw [h b h1 h2]
 exact hr
theorem cT.set {lo hi b:Nat} {cs:List Value} (h:cT H H' lo hi) (hb:b < lo∨hi≤b):cT H (aw H' b cs) lo hi:=fun c h1 h2=>by rw [ai,if_neg (by omega)];exact h c h1 h2
theorem cT.same {H2:Heap} {lo hi:Nat} (h:cT H H' lo hi) (hs:an H' H2 hi):cT H H2 lo hi:=fun c h1 h2=>(hs c h2).trans (h c h1 h2)
theorem LL.inn {nx0:Nat} {v:Value} {fs:List (List Int)} (h:LL H nx0 nx v fs) (hs:cT H H' nx0 nx) (hn:nx≤nx'):LL H' nx0 nx' v fs:=h.vh hs hn
theorem aH.E8 {by_ nx0 q c:Nat} {zero:List Value} {s x:Od} {v u:Value} {fs:List (List Int)} {f:List Int} {K:Value→Heap→Nat→Prop} (hs:ev σ L s=some v) (hx:ev σ L x=some (.slice (some ⟨q,0,some 1⟩) 1 c)) (hq:Rd H q [u]) (hg:LL H nx0 nx v fs) (hu:bS H nx 1 bq u f) (hb:∀b,bj u=some b→nx0≤b∧b < nx∧bj v≠some b) (h0:nx0≤nx)
  (h2:(fs.length + 1) * by_≤small) (h3:fs.length + 1≤small)
  (h:∀v' H',LL H' nx0 (nx + 1) v' (fs++[f])→(∀b,b < nx→bj v≠some b→ak H' (at_ b)=ak H (at_ b))→K v' H' (nx + 1)):aH A (.app 1 by_ zero s x false) σ L H nx K:=by
 obtain ⟨us,e1,e2,e3,e4⟩:=hg
 have CS:br [u]=true:=by
  obtain ⟨b',c',rfl⟩:=hu.form
  rfl
 refine aH.wZ hs hx e2 (dT hq rfl) (by omega) (by omega) CS (by rw [e1];exact h2) (by rw [e1];exact h3) ?_
 intro H1 k1 k2
 have k2':∀b,b < nx→bj v≠some b→ak H1 (at_ b)=ak H (at_ b):=by
  intro b hb cy
  refine k2 b hb fun c' z' k' hv=>?_
  obtain ⟨_,⟨rfl,_⟩|⟨d,rfl,_⟩⟩:=e2
  ·cases hv
  ·cases hv;exact cy rfl
 refine h _ H1 ⟨us++[u],by simp [e1],⟨by simp,.inr ⟨nx,by simp,h0,by omega,k1⟩⟩,fun i w g hw hg=>?_,fun w hw b HU=>?_⟩ k2'
 ·rcases Nat.lt_or_ge i us.length with hi|hi
  ·rw [List.getElem?_append_left hi] at hw
   rw [List.getElem?_append_left (by omega)] at hg
   exact (e3 i w g hw hg).blk (fun b hb hl=>k2' b hl (e4 w (List.mem_of_getElem? hw) b hb).2.2) (Nat.le_succ _)
  ·rw [List.getElem?_append_right hi] at hw
   rw [List.getElem?_append_right (by omega)] at hg
   have HN:i - us.length=0:=by
    cases h9:i - us.length with
    | zero=>rfl
    | succ m=>rw [h9] at hw;simp at hw
   rw [HN] at hw
   rw [show i - fs.length=0 by omega] at hg
   cases hw;cases hg
   exact hu.blk (fun b je hl=>k2' b hl (hb b je).2.2) (Nat.le_succ _)
 ·have:nx0≤b∧b < nx:=by
   rcases List.mem_append.1 hw with hw|hw
   ·exact ⟨(e4 w hw b HU).1,(e4 w hw b HU).2.1⟩
   ·rw [List.mem_singleton.1 hw] at HU
    exact ⟨(hb b HU).1,(hb b HU).2.1⟩
  refine ⟨this.1,by omega,fun e=>?_⟩
  cases e
  omega
end
end Go.Eng

namespace Go.Eng
variable {A:aG} {H H':Heap} {nx nx':Nat} {σ:aP} {Q:ct}
set_option maxRecDepth 100000
def qS (nxt:List Int):Prop:=∀i,i < nxt.length→∃q:Nat,nxt[i]?=some (q:Int)∧q < nxt.length
theorem G0 (l:List Int):l.flatMap bq=l.map (.int .i64):=by
 induction l with
 | nil=>rfl
 | cons u us ih=>rw [List.flatMap_cons,ih];rfl
theorem E9 {nx0:Nat} {v:Value} {l:List Int} (h:bA H nx0 nx 1 v l.length (l.map (.int .i64))):bS H nx 1 bq v l∧∀b,bj v=some b→nx0≤b∧b < nx:=by
 refine ⟨bA.sle (enc:=bq) (by rw [G0];exact h) (fun _=>rfl),fun b hb=>?_⟩
 obtain ⟨_,⟨rfl,_⟩|⟨c,rfl,g1,g2,_⟩⟩:=h
 ·cases hb
 ·cases hb;exact ⟨g1,g2⟩
structure Orb (nxt:List Int) (s:List Bool) (h:Nat) (H H':Heap) (nx nx' sb:Nat) (fv:Value):Prop where
 le:nx≤nx'
 seen:bT H' sb (oH nxt nxt.length s h []).1
 len:(oH nxt nxt.length s h []).1.length=nxt.length
 abN:bA H' nx nx' 1 fv (oH nxt nxt.length s h []).2.length ((oH nxt nxt.length s h []).2.map (.int .i64))
 O1:(oH nxt nxt.length s h []).2.length≤nxt.length
 vh:∀b,b < nx→b≠sb→ak H' (at_ b)=ak H (at_ b)
theorem aax {nxt:List Int} {lb sb h:Nat} {lc sc:Nat} {lv:Value} {rv:Value} {s:List Bool} (hn:qS nxt) (hm:nxt.length≤8000)
  (hl:ay H lb nxt) (hs:bT H sb s) (si:s.length=nxt.length) (hh:h < nxt.length) (cy:lb≠sb) (rZ:lb < nx) (HE:sb < nx)
  (aN:∀σ H' nx' fv,bg [(S1,rv),(pD,.int .i64 ((nxt.length:Nat):Int)),(lf,.int .i64 ((h:Nat):Int)),(S5,.slice (some ⟨lb,0,some 1⟩) nxt.length lc),(S6,.slice (some ⟨sb,0,some 1⟩) nxt.length sc),(S7,lv),(S9,fv)] σ→Orb nxt s h H H' nx nx' sb fv→Q (.exit 2) σ H' nx') :
  WC A (.loop J3) [(S1,rv),(pD,.int .i64 ((nxt.length:Nat):Int)),(lf,.int .i64 ((h:Nat):Int)),(S5,.slice (some ⟨lb,0,some 1⟩) nxt.length lc),(S6,.slice (some ⟨sb,0,some 1⟩) nxt.length sc),(S7,lv),(S9,.slice none 0 0),(dN,.int .i64 ((h:Nat):Int))] H nx Q:=by
 refine WC.loop (α:=(Nat×Nat)×List Bool×List Int×Value) (fun st=>[(S1,rv),(pD,.int .i64 ((nxt.length:Nat):Int)),(lf,.int .i64 ((h:Nat):Int)),(S5,.slice (some ⟨lb,0,some 1⟩) nxt.length lc),(S6,.slice (some ⟨sb,0,some 1⟩) nxt.length sc),(S7,lv),(S9,st.2.2.2),(dN,.int .i64 ((st.1.1:Nat):Int))])
  (fun st H' nx'=>st.1.1 < nxt.length∧nx≤nx'∧oH nxt st.1.2 st.2.1 st.1.1 st.2.2.1=oH nxt nxt.length s h []∧st.2.1.count false≤st.1.2∧st.2.1.length=nxt.length∧st.2.2.1.length + st.2.1.count false≤nxt.length∧bT H' sb st.2.1∧bA H' nx nx' 1 st.2.2.2 st.2.2.1.length (st.2.2.1.map (.int .i64))∧(∀b,b < nx→b≠sb→ak H' (at_ b)=ak H (at_ b))) (fun st=>st.2.1.count false)
  ?_ ((h,nxt.length),s,[],.slice none 0 0) aW ⟨hh,Nat.le_refl _,rfl,by rw [← si];exact List.count_le_length,si,by show 0 + s.count false≤_;have:=List.count_le_length (a:=false) (l:=s);omega,hs,.nil,fun _ _ _=>rfl⟩
 rintro ⟨⟨k,m⟩,s1,f1,fv⟩ H1 aT ⟨hk,cD,ho,hc,pN,B0,a7,xp,dB⟩
 simp only at hk ho hc pN B0 a7 xp ⊢
 have KL:ak H1 (at_ sb)=some (.cells (s1.map .bool)):=a7
 have iA:ak H1 (at_ lb)=some (.cells (nxt.map (.int .i64))):=(dB lb rZ cy).trans hl
 have KR:=List.getElem?_eq_getElem (show k < s1.length by omega)
 generalize HU:s1[k]=bw at KR
 have q1:=KJ KR
 have qE:s1.getD k true=bw:=by rw [List.getD_eq_getElem?_getD,KR];rfl
 obtain ⟨q,hq,hql⟩:=hn k hk
 have q2:=ay.cell hq
 have hgq:(nxt.getD k 0).toNat=q:=by rw [List.getD_eq_getElem?_getD,hq];rfl
 unfold J3
 cases bw with
 | true=>
  repeat' (first|((first|refine WO.n rfl ?_|refine WO.k rfl ?_);(first|refine pA ?_|refine bu ?_|refine aZ ?_))|with_reducible (first|refine WO.nil ?_|refine WC.aa ?_|refine WC.seq ?_|refine WC.exit ?_)|refine WC.ax rfl ?_|with_reducible refine dQ ?_)
  have bP:=uF (nxt:=nxt) (m:=m) (f:=f1) qE
  rw [ho] at bP
  exact aN _ _ _ fv aW ⟨cD,by rw [bP];exact a7,by rw [bP];exact pN,by rw [bP];exact xp,by rw [bP];show f1.length≤_;omega,dB⟩
 | false=>
  have nj:=count_set (s:=s1) (k:=k) (by omega) HU
  obtain ⟨m',rfl⟩:∃m',m=m' + 1:=⟨m - 1,by omega⟩
  have bP:=uG (nxt:=nxt) (m:=m') (f:=f1) qE
  rw [hgq,ho] at bP
  repeat' (first|((first|refine WO.n rfl ?_|refine WO.k rfl ?_);(first|refine pA ?_|refine bu ?_|refine aZ ?_|refine gx ?_|refine fj ?_))|with_reducible (first|refine WO.nil ?_|refine WC.aa ?_|refine WC.seq ?_|refine WC.skip ?_|refine WC.block ?_)|refine WC.aB rfl ?_|with_reducible refine aC ?_)
  refine WO.n rfl ?_
  refine aH.push (nx0:=nx) rfl rfl (xp.vh (H':=aw (aw H1 sb ((s1.map Value.bool).set (0 + k * 1) (.bool true))) aT [.int .i64 (k:Int)]) (fun b hb cf=>by rw [ai,if_neg (by omega),ai,if_neg (by omega)]) (Nat.le_succ _)) (dT Rd.self rfl) (by omega) (by omega) rfl rfl (by omega) (by unfold small;omega) (by unfold small;omega) ?_
  intro VN H2 KS bL kl
  have bC:∀b,b < nx→ak H2 (at_ b)=ak (aw H1 sb ((s1.map Value.bool).set (0 + k * 1) (.bool true))) (at_ b):=fun b hb=>(bL b hb).trans (by rw [ai,if_neg (by omega)])
  have lR:ak H2 (at_ lb)=some (.cells (nxt.map (.int .i64))):=by
   rw [bC lb rZ,ai,if_neg cy];exact iA
  have Nm:bT H2 sb (s1.set k true):=by
   unfold bT
   rw [bC sb HE,aq,List.map_set]
   congr 3
   first|done|omega
  repeat' (first|((first|refine WO.n rfl ?_|refine WO.k rfl ?_);(first|refine aK ?_|refine bu ?_|refine aZ ?_))|with_reducible (first|refine WO.nil ?_|refine WC.aa ?_|refine aC ?_|refine eT ?_))
  refine ⟨((q,m'),s1.set k true,f1++[(k:Int)],VN),by show (s1.set k true).count false < s1.count false;omega,aW,hql,by omega,bP.symm,by show (s1.set k true).count false≤m';omega,by show (s1.set k true).length=_;rw [List.length_set];exact pN,by show (f1++[(k:Int)]).length + (s1.set k true).count false≤_;rw [List.length_append];show f1.length + 1 + _≤_;omega,Nm,?_,fun b hb Dw=>?_⟩
  ·show bA H2 nx _ 1 VN (f1++[(k:Int)]).length ((f1++[(k:Int)]).map _)
   rw [List.length_append,List.map_append];exact KS
  ·rw [bC b hb,ai,if_neg Dw];exact dB b hb Dw
theorem aay {nxt:List Int} {lb sb h:Nat} {lc sc:Nat} {lv:Value} {rv nv:Value} {s:List Bool} (hn:qS nxt) (hm:nxt.length≤8000)
  (hl:ay H lb nxt) (hs:bT H sb s) (si:s.length=nxt.length) (hh:h < nxt.length) (cy:lb≠sb) (rZ:lb < nx) (HE:sb < nx)
  (aN:∀σ H' nx' fv,bg [(S1,rv),(S2,nv),(S8,.int .i64 ((h:Nat):Int)),(S5,.slice (some ⟨lb,0,some 1⟩) nxt.length lc),(S6,.slice (some ⟨sb,0,some 1⟩) nxt.length sc),(S7,lv),(S9,fv)] σ→Orb nxt s h H H' nx nx' sb fv→Q (.exit 2) σ H' nx') :
  WC A (.loop JZ) [(S1,rv),(S2,nv),(S8,.int .i64 ((h:Nat):Int)),(S5,.slice (some ⟨lb,0,some 1⟩) nxt.length lc),(S6,.slice (some ⟨sb,0,some 1⟩) nxt.length sc),(S7,lv),(S9,.slice none 0 0),(dN,.int .i64 ((h:Nat):Int))] H nx Q:=by
 refine WC.loop (α:=(Nat×Nat)×List Bool×List Int×Value) (fun st=>[(S1,rv),(S2,nv),(S8,.int .i64 ((h:Nat):Int)),(S5,.slice (some ⟨lb,0,some 1⟩) nxt.length lc),(S6,.slice (some ⟨sb,0,some 1⟩) nxt.length sc),(S7,lv),(S9,st.2.2.2),(dN,.int .i64 ((st.1.1:Nat):Int))])
  (fun st H' nx'=>st.1.1 < nxt.length∧nx≤nx'∧oH nxt st.1.2 st.2.1 st.1.1 st.2.2.1=oH nxt nxt.length s h []∧st.2.1.count false≤st.1.2∧st.2.1.length=nxt.length∧st.2.2.1.length + st.2.1.count false≤nxt.length∧bT H' sb st.2.1∧bA H' nx nx' 1 st.2.2.2 st.2.2.1.length (st.2.2.1.map (.int .i64))∧(∀b,b < nx→b≠sb→ak H' (at_ b)=ak H (at_ b))) (fun st=>st.2.1.count false)
  ?_ ((h,nxt.length),s,[],.slice none 0 0) aW ⟨hh,Nat.le_refl _,rfl,by rw [← si];exact List.count_le_length,si,by show 0 + s.count false≤_;have:=List.count_le_length (a:=false) (l:=s);omega,hs,.nil,fun _ _ _=>rfl⟩
 rintro ⟨⟨k,m⟩,s1,f1,fv⟩ H1 aT ⟨hk,cD,ho,hc,pN,B0,a7,xp,dB⟩
 simp only at hk ho hc pN B0 a7 xp ⊢
 have KL:ak H1 (at_ sb)=some (.cells (s1.map .bool)):=a7
 have iA:ak H1 (at_ lb)=some (.cells (nxt.map (.int .i64))):=(dB lb rZ cy).trans hl
 have KR:=List.getElem?_eq_getElem (show k < s1.length by omega)
 generalize HU:s1[k]=bw at KR
 have q1:=KJ KR
 have qE:s1.getD k true=bw:=by rw [List.getD_eq_getElem?_getD,KR];rfl
 obtain ⟨q,hq,hql⟩:=hn k hk
 have q2:=ay.cell hq
 have hgq:(nxt.getD k 0).toNat=q:=by rw [List.getD_eq_getElem?_getD,hq];rfl
 unfold JZ
 cases bw with
 | true=>
  repeat' (first|((first|refine WO.n rfl ?_|refine WO.k rfl ?_);(first|refine pA ?_|refine bu ?_|refine aZ ?_))|with_reducible (first|refine WO.nil ?_|refine WC.aa ?_|refine WC.seq ?_|refine WC.exit ?_)|refine WC.ax rfl ?_|with_reducible refine dQ ?_)
  have bP:=uF (nxt:=nxt) (m:=m) (f:=f1) qE
  rw [ho] at bP
  exact aN _ _ _ fv aW ⟨cD,by rw [bP];exact a7,by rw [bP];exact pN,by rw [bP];exact xp,by rw [bP];show f1.length≤_;omega,dB⟩
 | false=>
  have nj:=count_set (s:=s1) (k:=k) (by omega) HU
  obtain ⟨m',rfl⟩:∃m',m=m' + 1:=⟨m - 1,by omega⟩
  have bP:=uG (nxt:=nxt) (m:=m') (f:=f1) qE
  rw [hgq,ho] at bP
  repeat' (first|((first|refine WO.n rfl ?_|refine WO.k rfl ?_);(first|refine pA ?_|refine bu ?_|refine aZ ?_|refine gx ?_|refine fj ?_))|with_reducible (first|refine WO.nil ?_|refine WC.aa ?_|refine WC.seq ?_|refine WC.skip ?_|refine WC.block ?_)|refine WC.aB rfl ?_|with_reducible refine aC ?_)
  refine WO.n rfl ?_
  refine aH.push (nx0:=nx) rfl rfl (xp.vh (H':=aw (aw H1 sb ((s1.map Value.bool).set (0 + k * 1) (.bool true))) aT [.int .i64 (k:Int)]) (fun b hb cf=>by rw [ai,if_neg (by omega),ai,if_neg (by omega)]) (Nat.le_succ _)) (dT Rd.self rfl) (by omega) (by omega) rfl rfl (by omega) (by unfold small;omega) (by unfold small;omega) ?_
  intro VN H2 KS bL kl
  have bC:∀b,b < nx→ak H2 (at_ b)=ak (aw H1 sb ((s1.map Value.bool).set (0 + k * 1) (.bool true))) (at_ b):=fun b hb=>(bL b hb).trans (by rw [ai,if_neg (by omega)])
  have lR:ak H2 (at_ lb)=some (.cells (nxt.map (.int .i64))):=by
   rw [bC lb rZ,ai,if_neg cy];exact iA
  have Nm:bT H2 sb (s1.set k true):=by
   unfold bT
   rw [bC sb HE,aq,List.map_set]
   congr 3
   first|done|omega
  repeat' (first|((first|refine WO.n rfl ?_|refine WO.k rfl ?_);(first|refine aK ?_|refine bu ?_|refine aZ ?_))|with_reducible (first|refine WO.nil ?_|refine WC.aa ?_|refine aC ?_|refine eT ?_))
  refine ⟨((q,m'),s1.set k true,f1++[(k:Int)],VN),by show (s1.set k true).count false < s1.count false;omega,aW,hql,by omega,bP.symm,by show (s1.set k true).count false≤m';omega,by show (s1.set k true).length=_;rw [List.length_set];exact pN,by show (f1++[(k:Int)]).length + (s1.set k true).count false≤_;rw [List.length_append];show f1.length + 1 + _≤_;omega,Nm,?_,fun b hb Dw=>?_⟩
  ·show bA H2 nx _ 1 VN (f1++[(k:Int)]).length ((f1++[(k:Int)]).map _)
   rw [List.length_append,List.map_append];exact KS
  ·rw [bC b hb,ai,if_neg Dw];exact dB b hb Dw
theorem ou {nxt:List Int} {k:Nat} (h:(aV nxt k).2.length≤k):(aV nxt (k + 1)).2.length≤k + 1:=by
 rw [gp]
 unfold pM
 show (if _ then _ else _:List (List Int)).length≤_
 split
 ·omega
 ·rw [List.length_append];show _ + 1≤_;omega
theorem KT {nxt:List Int}:∀{m k:Nat} {s:List Bool} {f:List Int},f≠[]→(oH nxt m s k f).2≠[]:=by
 intro m
 induction m with
 | zero=>intro k s f h;exact h
 | succ m ih=>
  intro k s f h
  show (if s.getD k true then (s,f) else _:List Bool×List Int).2≠[]
  split
  ·exact h
  ·exact ih (by simp)
theorem Re {nxt:List Int} {k:Nat} {s:List Bool} (hk:k < nxt.length) (h:s.getD k true=false):(oH nxt nxt.length s k []).2≠[]:=by
 obtain ⟨m,hm⟩:∃m,nxt.length=m + 1:=⟨nxt.length - 1,by omega⟩
 rw [hm,uG h]
 exact KT (by simp)
theorem aaz {nxt:List Int} {nb lb sb:Nat} {lc sc:Nat} {rv:Value} {H0:Heap} (hn:qS nxt) (hm:nxt.length≤8000)
  (hl:ay H lb nxt) (hs:bT H sb (List.replicate nxt.length false)) (cy:lb≠sb) (rZ:lb < nx) (HE:sb < nx) (nF:nb≤lb) (hns:nb≤sb) (bV:an H0 H nb)
  (aN:∀σ H' nx' lv,bg [(S1,rv),(S7,lv)] σ→LL H' nx nx' lv (aV nxt nxt.length).2→(aV nxt nxt.length).2.length≤nxt.length→an H0 H' nb→nx≤nx'→Q (.exit 0) σ H' nx') :
  WC A (.loop J4) [(S1,rv),(S5,.slice (some ⟨lb,0,some 1⟩) nxt.length lc),(S6,.slice (some ⟨sb,0,some 1⟩) nxt.length sc),(S7,.slice none 0 0),(pD,.int .i64 ((nxt.length:Nat):Int)),(lf,.int .i64 0)] H nx Q:=by
 refine WC.loop (α:=Nat×Value) (fun st=>[(S1,rv),(S5,.slice (some ⟨lb,0,some 1⟩) nxt.length lc),(S6,.slice (some ⟨sb,0,some 1⟩) nxt.length sc),(S7,st.2),(pD,.int .i64 ((nxt.length:Nat):Int)),(lf,.int .i64 ((st.1:Nat):Int))])
  (fun st H' nx'=>st.1≤nxt.length∧nx≤nx'∧bT H' sb (aV nxt st.1).1∧(aV nxt st.1).1.length=nxt.length∧LL H' nx nx' st.2 (aV nxt st.1).2∧(aV nxt st.1).2.length≤st.1∧ay H' lb nxt∧an H0 H' nb) (fun st=>nxt.length - st.1)
  ?_ (0,.slice none 0 0) aW ⟨Nat.zero_le _,Nat.le_refl _,hs,by show (List.replicate _ _).length=_;rw [List.length_replicate],.nil,Nat.zero_le _,hl,bV⟩
 rintro ⟨k,lv⟩ H1 aT ⟨hk,cD,a7,pN,rl,iR,iA,aM⟩
 simp only at hk a7 pN rl iR ⊢
 unfold J4
 repeat' (first|(refine WO.k rfl ?_;(first|refine aK ?_|(refine ei (fun h=>?_) (fun h=>?_)<;>(try simp only [Int.ofNat_eq_natCast] at h))))|with_reducible (first|refine WO.nil ?_|refine WC.aa ?_|refine WC.seq ?_|refine WC.skip ?_|refine WC.exit ?_|refine WC.block ?_)|refine WC.aB rfl ?_|refine WC.ax rfl ?_|with_reducible (first|refine aC ?_|refine dQ ?_))
 ·have cI:k < nxt.length:=by omega
  refine WC.sub aW (aax (lb:=lb) (sb:=sb) (h:=k) (lv:=lv) hn hm iA a7 pN cI cy (by omega) (by omega) (fun σ H2 nx2 fv hσ o=>?_))
  refine eh (aC (WC.sub hσ ?_))
  obtain ⟨o1,o2,o3,o4,o5,o6⟩:=o
  obtain ⟨z1,z2⟩:=E9 o4
  obtain ⟨fb,fc,rfl⟩:=z1.form
  have G1:LL H2 nx nx2 lv (aV nxt k).2:=rl.vh (fun b hb cf=>o6 b cf (by omega)) o1
  have lR:ay H2 lb nxt:=(o6 lb (by omega) cy).trans iA
  have cZ:an H0 H2 nb:=fun b hb=>(o6 b (by omega) (by omega)).trans (aM b hb)
  have hlen:=ou iR
  have e1:(aV nxt (k + 1)).1=(oH nxt nxt.length (aV nxt k).1 k []).1:=by rw [gp];rfl
  have e2:(aV nxt (k + 1)).2=if (oH nxt nxt.length (aV nxt k).1 k []).2=[] then (aV nxt k).2 else (aV nxt k).2++[(oH nxt nxt.length (aV nxt k).1 k []).2]:=by rw [gp];rfl
  generalize (oH nxt nxt.length (aV nxt k).1 k []).2=f at *
  repeat' (first|((first|refine WO.n rfl ?_|refine WO.k rfl ?_);(first|refine aK ?_|refine cM ?_|refine gx ?_|(refine LQ (fun h=>?_) (fun h=>?_)<;>(try simp only [Int.ofNat_eq_natCast] at h))|refine bO ?_))|with_reducible (first|refine WO.nil ?_|refine WC.aa ?_|refine WC.seq ?_|refine WC.skip ?_)|refine WC.aB rfl ?_|refine WC.ax rfl ?_|with_reducible (first|refine aC ?_|refine eT ?_))
  ·refine WO.n rfl ?_
   have qo:0 < f.length:=by omega
   have e3:f≠[]:=by intro e;rw [e] at qo;simp at qo
   rw [if_neg e3] at e2
   have Fa:=G1.vh (H':=aw H2 nx2 [.slice fb f.length fc]) (nx':=nx2 + 1) (fun b hb cf=>by rw [ai,if_neg (by omega)]) (Nat.le_succ _)
   refine aH.E8 (nx0:=nx) rfl rfl Rd.self Fa ((z1.same (an.refl.set (Nat.le_refl _))).up (Nat.le_succ _)) (fun b hb=>⟨by have:=z2 b hb;omega,by have:=z2 b hb;omega,fun e=>by have:=z2 b hb;have:=rl.blk e;omega⟩) (by omega) (by unfold small;omega) (by unfold small;omega) ?_
   intro uq H3 LY Np
   have sQ:∀b,b < nx→ak H3 (at_ b)=ak H2 (at_ b):=fun b hb=>(Np b (by omega) (fun e=>by have:=rl.blk e;omega)).trans (by rw [ai,if_neg (by omega)])
   repeat' (first|((first|refine WO.n rfl ?_|refine WO.k rfl ?_);(first|refine aK ?_|refine bO ?_))|with_reducible (first|refine WO.nil ?_|refine WC.aa ?_|refine aC ?_|refine eT ?_))
   refine ⟨(k + 1,uq),by show nxt.length - (k + 1) < nxt.length - k;omega,.cons rfl aW,by show k + 1≤_;omega,by omega,?_,?_,?_,hlen,(sQ lb rZ).trans lR,fun b hb=>(sQ b (by omega)).trans (cZ b hb)⟩
   ·show bT _ sb (aV nxt (k + 1)).1
    rw [e1];exact (sQ sb HE).trans o2
   ·show (aV nxt (k + 1)).1.length=_
    rw [e1];exact o3
   ·show LL _ _ _ uq (aV nxt (k + 1)).2
    rw [e2];exact LY
  ·have e3:f=[]:=List.eq_nil_of_length_eq_zero (by omega)
   rw [if_pos e3] at e2
   refine ⟨(k + 1,lv),by show nxt.length - (k + 1) < nxt.length - k;omega,.cons rfl aW,by show k + 1≤_;omega,by omega,?_,?_,?_,hlen,lR,cZ⟩
   ·show bT _ sb (aV nxt (k + 1)).1
    rw [e1];exact o2
   ·show (aV nxt (k + 1)).1.length=_
    rw [e1];exact o3
   ·show LL _ _ _ lv (aV nxt (k + 1)).2
    rw [e2];exact G1
 ·have:k=nxt.length:=by omega
  subst this
  exact aN _ _ _ lv aW rl iR aM cD
theorem aaA {r F:List (List Int)} {nb nx0:Nat} {bW:Option Addr} {rc:Nat} {lv:Value} {H0:Heap} (hr:eY H0 nb 1 bq (.slice bW r.length rc) r) (cj:b8 r) (hF:F.length≤8000)
  (hL:LL H nx0 nx lv F) (h1:nb≤nx0) (h2:nx0≤nx) (bV:an H0 H nb)
  (aN:∀σ H' nx' lv,bg [(S7,lv)] σ→LL H' nx0 nx' lv (F++vj r r.length)→an H0 H' nb→nx≤nx'→Q (.exit 4) σ H' nx') :
  WC A (.loop J5) [(S7,lv),(SR,.slice bW r.length rc),(JM,.int .i64 ((r.length:Nat):Int)),(JY,.int .i64 0)] H nx Q:=by
 refine WC.loop (α:=Nat×Value) (fun st=>[(S7,st.2),(SR,.slice bW r.length rc),(JM,.int .i64 ((r.length:Nat):Int)),(JY,.int .i64 ((st.1:Nat):Int))])
  (fun st H' nx'=>st.1≤r.length∧nx≤nx'∧LL H' nx0 nx' st.2 (F++vj r st.1)∧an H0 H' nb) (fun st=>r.length - st.1)
  ?_ (0,lv) aW ⟨Nat.zero_le _,Nat.le_refl _,by show LL _ _ _ _ (F++vj r 0);rw [show vj r 0=[] from rfl,List.append_nil];exact hL,bV⟩
 rintro ⟨v,B5⟩ H1 aT ⟨hv,cD,rl,aM⟩
 simp only at hv rl ⊢
 have nS:=cj.1
 unfold J5
 repeat' (first|((first|refine WO.n rfl ?_|refine WO.k rfl ?_);(refine ei (fun h=>?_) (fun h=>?_)<;>(try simp only [Int.ofNat_eq_natCast] at h)))|with_reducible (first|refine WO.nil ?_|refine WC.aa ?_|refine WC.seq ?_|refine WC.skip ?_|refine WC.exit ?_|refine WC.block ?_)|refine WC.aB rfl ?_|refine WC.ax rfl ?_|with_reducible (first|refine aC ?_|refine dQ ?_))
 ·have nM:v < r.length:=by omega
  have j3:r.getD v []=r[v]:=by rw [List.getD_eq_getElem?_getD,List.getElem?_eq_getElem nM];rfl
  obtain ⟨rb,ro,O0,ib,ic,rfl,rV,oF,qO,hi⟩:=hr.at nM
  rw [← j3] at qO hi
  have Bw:=aM.rd rV oF
  have tO:=Du (r:=r) (k:=v)
  have B0:(F++vj r v).length≤8000 + v:=by rw [List.length_append];omega
  have hs:=By nM
  repeat' (first|((first|refine WO.n rfl ?_|refine WO.k rfl ?_);(first|refine aK ?_|refine cM ?_|refine bu ?_|refine aZ ?_|refine gx ?_|(refine zl (fun h=>?_) (fun h=>?_)<;>(try simp only [Int.ofNat_eq_natCast] at h))|refine bO ?_))|with_reducible (first|refine WO.nil ?_|refine WC.aa ?_|refine WC.seq ?_|refine WC.skip ?_)|refine WC.aB rfl ?_|refine WC.ax rfl ?_|with_reducible (first|refine aC ?_|refine eT ?_))
  ·refine WO.n rfl ?_
   rw [if_pos (by omega)] at hs
   have Fa:=rl.vh (H':=aw H1 aT [.slice none 0 0]) (nx':=aT + 1) (fun b hb cf=>by rw [ai,if_neg (by omega)]) (Nat.le_succ _)
   refine aH.E8 (nx0:=nx0) (f:=[]) rfl rfl Rd.self Fa .nil (fun b hb=>by cases hb) (by omega) (by unfold small;omega) (by unfold small;omega) ?_
   intro uq H3 LY Np
   have sQ:∀b,b < nb→ak H3 (at_ b)=ak H1 (at_ b):=fun b hb=>(Np b (by omega) (fun e=>by have:=rl.blk e;omega)).trans (by rw [ai,if_neg (by omega)])
   repeat' (first|((first|refine WO.n rfl ?_|refine WO.k rfl ?_);(first|refine aK ?_|refine bO ?_))|with_reducible (first|refine WO.nil ?_|refine WC.aa ?_|refine aC ?_|refine eT ?_))
   refine ⟨(v + 1,uq),by show r.length - (v + 1) < r.length - v;omega,.cons rfl aW,by show v + 1≤_;omega,by omega,?_,fun b hb=>(sQ b hb).trans (aM b hb)⟩
   show LL _ _ _ uq (F++vj r (v + 1))
   rw [hs,← List.append_assoc];exact LY
  ·rw [if_neg (by omega)] at hs
   refine ⟨(v + 1,B5),by show r.length - (v + 1) < r.length - v;omega,.cons rfl aW,by show v + 1≤_;omega,by omega,?_,aM⟩
   show LL _ _ _ B5 (F++vj r (v + 1))
   rw [hs];exact rl
 ·have:v=r.length:=by omega
  subst this
  exact aN _ _ _ B5 aW rl aM cD
theorem Dx {n:Int} {es:List Ed} {r:List (List Int)} {l:List Int} (g:cJ n es r) (h:fe es r l):qS l:=by
 intro i hi
 rw [h.1] at hi ⊢
 exact h.lt g hi
theorem ow {f:FuncId} (hf:A.funcs f=some uh) (hh:∀vs H nx,A.aF f vs H nx=none) (Dy:A.funcs 118=some qM) (uH:∀vs H nx,A.aF 118 vs H nx=none)
  {n:Int} {ev rv:Value} {es:List Ed} {r:List (List Int)} (g:cJ n es r) (he:bS H nx 2 a5 ev es) (hr:eY H nx 1 bq rv r) (cj:b8 r) (dP:es.length≤4000) :
  WF A f [.agg #[.int .i64 n,ev],rv] H nx fun v H' nx'=>∃nx0,nx≤nx0∧nx0≤nx'∧LL H' nx0 nx' v (dh es r)∧an H H' nx:=by
 obtain ⟨base,ec,rfl⟩:=he.form
 obtain ⟨bW,rc,rfl⟩:=hr.form
 refine WF.enter (hh _ _ _) hf ?_
 repeat' (first|((first|refine WO.n rfl ?_|refine WO.k rfl ?_);(first|refine aK ?_|refine jN ?_|refine aJ ?_))|with_reducible (first|refine WO.nil ?_|refine WC.aa ?_|refine WC.seq ?_|refine aC ?_))
 have bM:an H (aw H nx [.int .i64 n,.slice base es.length ec]) nx:=an.refl.set (Nat.le_refl _)
 refine WO.cn rfl ?_
 refine (Dt Dy uH g ((he.same bM).up (Nat.le_succ _)) ((hr.same bM).up (Nat.le_succ _)) cj dP).of ?_
 rintro _ H1 aT ⟨lb,lc,l,rfl,W1,aaB,aaC,nF,tO,a7⟩
 have bp:an H H1 nx:=bM.trans a7 (by omega)
 have Ds:=nF.1
 repeat' (first|((first|refine WO.n rfl ?_|refine WO.k rfl ?_);(first|refine aK ?_|refine cM ?_|refine mD ?_))|with_reducible (first|refine WO.nil ?_|refine WC.aa ?_|refine WC.seq ?_|refine WC.block ?_|refine aC ?_))
 rw [← Ds]
 refine WC.sub aW (aaz (nb:=nx) (lb:=lb) (sb:=aT) (nxt:=l) (Dx g nF) (by omega) (bz (by omega) tO) (by show ak _ _=_;rw [aq,fa,List.map_replicate]) (by omega) (by omega) (by omega) (by omega) (by omega) (bp.set (by omega)) (fun σ H2 nx2 lv hσ G1 VO bL eW=>?_))
 refine eh (aC (WC.sub hσ ?_))
 repeat' (first|(refine WO.k rfl ?_;(first|refine aK ?_|refine cM ?_))|with_reducible (first|refine WO.nil ?_|refine WC.aa ?_|refine WC.seq ?_|refine WC.block ?_|refine aC ?_))
 refine WC.sub aW (aaA (nb:=nx) (nx0:=aT + 1) hr cj (by omega) G1 (by omega) (by omega) bL (fun σ H3 nx3 lv3 hσ Fa fH mG=>?_))
 refine eh (aC (WC.sub hσ ?_))
 repeat' (first|(refine WO.k rfl ?_;refine aK ?_)|with_reducible (first|refine WO.nil ?_|refine WC.aa ?_|refine WC.seq ?_|refine WC.ret ?_|refine aC ?_))
 refine az (vs:=[_]) rfl ⟨aT + 1,by omega,by omega,?_,fH⟩
 unfold dh lj
 rw [qR g nF]
 exact Fa
theorem aaD {nxt:List Int} {nb lb sb:Nat} {lc sc:Nat} {rv nv:Value} {cn:List Value} {H0:Heap} (hn:qS nxt) (hm:nxt.length≤8000)
  (hl:ay H lb nxt) (hs:bT H sb (List.replicate nxt.length false)) (cy:lb≠sb) (rZ:lb < nx) (HE:sb < nx) (nF:nb≤lb) (hns:nb≤sb) (bV:an H0 H nb) (jJ:Rd H nb cn) (nH:nb < lb) (zk:nb < sb)
  (aN:∀σ H' nx' lv,bg [(S1,rv),(S2,nv),(S7,lv)] σ→LL H' nx nx' lv (aV nxt nxt.length).2→(aV nxt nxt.length).2.length≤nxt.length→an H0 H' nb→Rd H' nb cn→nx≤nx'→Q (.exit 0) σ H' nx') :
  WC A (.loop J0) [(S1,rv),(S2,nv),(S5,.slice (some ⟨lb,0,some 1⟩) nxt.length lc),(S6,.slice (some ⟨sb,0,some 1⟩) nxt.length sc),(S7,.slice none 0 0),(S8,.int .i64 0)] H nx Q:=by
 refine WC.loop (α:=Nat×Value) (fun st=>[(S1,rv),(S2,nv),(S5,.slice (some ⟨lb,0,some 1⟩) nxt.length lc),(S6,.slice (some ⟨sb,0,some 1⟩) nxt.length sc),(S7,st.2),(S8,.int .i64 ((st.1:Nat):Int))])
  (fun st H' nx'=>st.1≤nxt.length∧nx≤nx'∧bT H' sb (aV nxt st.1).1∧(aV nxt st.1).1.length=nxt.length∧LL H' nx nx' st.2 (aV nxt st.1).2∧(aV nxt st.1).2.length≤st.1∧ay H' lb nxt∧an H0 H' nb∧Rd H' nb cn) (fun st=>nxt.length - st.1)
  ?_ (0,.slice none 0 0) aW ⟨Nat.zero_le _,Nat.le_refl _,hs,by show (List.replicate _ _).length=_;rw [List.length_replicate],.nil,Nat.zero_le _,hl,bV,jJ⟩
 rintro ⟨k,lv⟩ H1 aT ⟨hk,cD,a7,pN,rl,iR,iA,aM,eO⟩
 simp only at hk a7 pN rl iR ⊢
 unfold J0
 repeat' (first|((first|refine WO.n rfl ?_|refine WO.k rfl ?_);(first|refine cM ?_|refine aZ ?_|(refine ei (fun h=>?_) (fun h=>?_)<;>(try simp only [Int.ofNat_eq_natCast] at h))))|with_reducible (first|refine WO.nil ?_|refine WC.aa ?_|refine WC.seq ?_|refine WC.skip ?_|refine WC.exit ?_|refine WC.block ?_)|refine WC.aB rfl ?_|refine WC.ax rfl ?_|with_reducible (first|refine aC ?_|refine dQ ?_))
 ·have cI:k < nxt.length:=by omega
  have KR:=List.getElem?_eq_getElem (show k < (aV nxt k).1.length by omega)
  generalize HU:(aV nxt k).1[k]=bw at KR
  have q1:=KJ KR
  have qE:(aV nxt k).1.getD k true=bw:=by rw [List.getD_eq_getElem?_getD,KR];rfl
  have KL:ak H1 (at_ sb)=some (.cells ((aV nxt k).1.map .bool)):=a7
  have hlen:=ou iR
  have e1:(aV nxt (k + 1)).1=(oH nxt nxt.length (aV nxt k).1 k []).1:=by rw [gp];rfl
  have e2:(aV nxt (k + 1)).2=if (oH nxt nxt.length (aV nxt k).1 k []).2=[] then (aV nxt k).2 else (aV nxt k).2++[(oH nxt nxt.length (aV nxt k).1 k []).2]:=by rw [gp];rfl
  cases bw with
  | true=>
   rw [uF qE] at e1 e2
   rw [if_pos rfl] at e2
   repeat' (first|((first|refine WO.n rfl ?_|refine WO.k rfl ?_);(first|refine aK ?_|refine bu ?_|refine bO ?_))|with_reducible (first|refine WO.nil ?_|refine WC.aa ?_|refine WC.exit ?_)|refine WC.aB rfl ?_|with_reducible (first|refine aC ?_|refine dQ ?_|refine eh ?_))
   refine ⟨(k + 1,lv),by show nxt.length - (k + 1) < nxt.length - k;omega,.cons rfl aW,by show k + 1≤_;omega,by omega,?_,?_,?_,hlen,iA,aM,eO⟩
   ·show bT _ sb (aV nxt (k + 1)).1
    rw [e1];exact a7
   ·show (aV nxt (k + 1)).1.length=_
    rw [e1];exact pN
   ·show LL _ _ _ lv (aV nxt (k + 1)).2
    rw [e2];exact rl
  | false=>
   have aaE:=Re cI qE
   rw [if_neg aaE] at e2
   repeat' (first|(refine WO.k rfl ?_;(first|refine aK ?_|refine bu ?_))|with_reducible (first|refine WO.nil ?_|refine WC.aa ?_|refine WC.seq ?_|refine WC.skip ?_|refine WC.block ?_)|refine WC.ax rfl ?_|with_reducible refine aC ?_)
   refine WC.sub aW (aay (lb:=lb) (sb:=sb) (h:=k) (lv:=lv) hn hm iA a7 pN cI cy (by omega) (by omega) (fun σ H2 nx2 fv hσ o=>?_))
   refine eh (aC (WC.sub hσ ?_))
   obtain ⟨o1,o2,o3,o4,o5,o6⟩:=o
   obtain ⟨z1,z2⟩:=E9 o4
   obtain ⟨fb,fc,rfl⟩:=z1.form
   have G1:LL H2 nx nx2 lv (aV nxt k).2:=rl.vh (fun b hb cf=>o6 b cf (by omega)) o1
   have lR:ay H2 lb nxt:=(o6 lb (by omega) cy).trans iA
   have cZ:an H0 H2 nb:=fun b hb=>(o6 b (by omega) (by omega)).trans (aM b hb)
   generalize (oH nxt nxt.length (aV nxt k).1 k []).2=f at *
   repeat' (first|(refine WO.n rfl ?_;refine gx ?_)|with_reducible refine WC.aa ?_)
   refine WO.n rfl ?_
   have Fa:=G1.vh (H':=aw H2 nx2 [.slice fb f.length fc]) (nx':=nx2 + 1) (fun b hb cf=>by rw [ai,if_neg (by omega)]) (Nat.le_succ _)
   refine aH.E8 (nx0:=nx) rfl rfl Rd.self Fa ((z1.same (an.refl.set (Nat.le_refl _))).up (Nat.le_succ _)) (fun b hb=>⟨by have:=z2 b hb;omega,by have:=z2 b hb;omega,fun e=>by have:=z2 b hb;have:=rl.blk e;omega⟩) (by omega) (by unfold small;omega) (by unfold small;omega) ?_
   intro uq H3 LY Np
   have sQ:∀b,b < nx→ak H3 (at_ b)=ak H2 (at_ b):=fun b hb=>(Np b (by omega) (fun e=>by have:=rl.blk e;omega)).trans (by rw [ai,if_neg (by omega)])
   repeat' (first|((first|refine WO.n rfl ?_|refine WO.k rfl ?_);(first|refine aK ?_|refine bO ?_))|with_reducible (first|refine WO.nil ?_|refine WC.aa ?_|refine aC ?_|refine eT ?_))
   refine ⟨(k + 1,uq),by show nxt.length - (k + 1) < nxt.length - k;omega,.cons rfl aW,by show k + 1≤_;omega,by omega,?_,?_,?_,hlen,(sQ lb rZ).trans lR,fun b hb=>(sQ b (by omega)).trans (cZ b hb),by unfold Rd;rw [sQ nb (by omega),o6 nb (by omega) (by omega)];exact eO⟩
   ·show bT _ sb (aV nxt (k + 1)).1
    rw [e1];exact (sQ sb HE).trans o2
   ·show (aV nxt (k + 1)).1.length=_
    rw [e1];exact o3
   ·show LL _ _ _ uq (aV nxt (k + 1)).2
    rw [e2];exact LY
 ·have:k=nxt.length:=by omega
  subst this
  exact aN _ _ _ lv aW rl iR aM eO cD
theorem aaF {n:Int} {ev:Value} {r F:List (List Int)} {nb nx0:Nat} {bW:Option Addr} {rc:Nat} {lv:Value} {H0:Heap} (hr:eY H0 nb 1 bq (.slice bW r.length rc) r) (cj:b8 r) (hF:F.length≤8000)
  (hL:LL H nx0 nx lv F) (h1:nb≤nx0) (h2:nx0≤nx) (bV:an H0 H nb) (jJ:Rd H nb [.int .i64 n,ev]) (hlen:(r.length:Int)=n) (nH:nb < nx0)
  (aN:∀σ H' nx' lv,bg [(S7,lv)] σ→LL H' nx0 nx' lv (F++vj r r.length)→an H0 H' nb→nx≤nx'→Q (.exit 4) σ H' nx') :
  WC A (.loop J1) [(S7,lv),(S1,.slice bW r.length rc),(S2,.pointer (some ⟨nb,0,none⟩)),(fE,.int .i64 0)] H nx Q:=by
 refine WC.loop (α:=Nat×Value) (fun st=>[(S7,st.2),(S1,.slice bW r.length rc),(S2,.pointer (some ⟨nb,0,none⟩)),(fE,.int .i64 ((st.1:Nat):Int))])
  (fun st H' nx'=>st.1≤r.length∧nx≤nx'∧LL H' nx0 nx' st.2 (F++vj r st.1)∧an H0 H' nb∧Rd H' nb [.int .i64 n,ev]) (fun st=>r.length - st.1)
  ?_ (0,lv) aW ⟨Nat.zero_le _,Nat.le_refl _,by show LL _ _ _ _ (F++vj r 0);rw [show vj r 0=[] from rfl,List.append_nil];exact hL,bV,jJ⟩
 rintro ⟨v,B5⟩ H1 aT ⟨hv,cD,rl,aM,eO⟩
 simp only at hv rl ⊢
 have nS:=cj.1
 unfold J1
 repeat' (first|((first|refine WO.n rfl ?_|refine WO.k rfl ?_);(first|refine dD ?_|refine aJ ?_|(refine ei (fun h=>?_) (fun h=>?_)<;>(try simp only [Int.ofNat_eq_natCast] at h))))|with_reducible (first|refine WO.nil ?_|refine WC.aa ?_|refine WC.seq ?_|refine WC.skip ?_|refine WC.exit ?_|refine WC.block ?_)|refine WC.aB rfl ?_|refine WC.ax rfl ?_|with_reducible (first|refine aC ?_|refine dQ ?_))
 ·have nM:v < r.length:=by omega
  have j3:r.getD v []=r[v]:=by rw [List.getD_eq_getElem?_getD,List.getElem?_eq_getElem nM];rfl
  obtain ⟨rb,ro,O0,ib,ic,rfl,rV,oF,qO,hi⟩:=hr.at nM
  rw [← j3] at qO hi
  have Bw:=aM.rd rV oF
  have tO:=Du (r:=r) (k:=v)
  have B0:(F++vj r v).length≤8000 + v:=by rw [List.length_append];omega
  have hs:=By nM
  repeat' (first|((first|refine WO.n rfl ?_|refine WO.k rfl ?_);(first|refine aK ?_|refine cM ?_|refine bu ?_|refine aZ ?_|refine gx ?_|(refine zl (fun h=>?_) (fun h=>?_)<;>(try simp only [Int.ofNat_eq_natCast] at h))|refine bO ?_))|with_reducible (first|refine WO.nil ?_|refine WC.aa ?_|refine WC.skip ?_)|refine WC.aB rfl ?_|refine WC.ax rfl ?_|with_reducible (first|refine aC ?_|refine eT ?_))
  ·refine WO.n rfl ?_
   rw [if_pos (by omega)] at hs
   have Fa:=rl.vh (H':=aw H1 aT [.slice none 0 0]) (nx':=aT + 1) (fun b hb cf=>by rw [ai,if_neg (by omega)]) (Nat.le_succ _)
   refine aH.E8 (nx0:=nx0) (f:=[]) rfl rfl Rd.self Fa .nil (fun b hb=>by cases hb) (by omega) (by unfold small;omega) (by unfold small;omega) ?_
   intro uq H3 LY Np
   have sQ:∀b,b≤nb→ak H3 (at_ b)=ak H1 (at_ b):=fun b hb=>(Np b (by omega) (fun e=>by have:=rl.blk e;omega)).trans (by rw [ai,if_neg (by omega)])
   repeat' (first|((first|refine WO.n rfl ?_|refine WO.k rfl ?_);(first|refine aK ?_|refine bO ?_))|with_reducible (first|refine WO.nil ?_|refine WC.aa ?_|refine aC ?_|refine eT ?_))
   refine ⟨(v + 1,uq),by show r.length - (v + 1) < r.length - v;omega,.cons rfl aW,by show v + 1≤_;omega,by omega,?_,fun b hb=>(sQ b (by omega)).trans (aM b hb),?_⟩
   rotate_left
   ·unfold Rd;rw [sQ nb (Nat.le_refl _)];exact eO
   show LL _ _ _ uq (F++vj r (v + 1))
   rw [hs,← List.append_assoc];exact LY
  ·rw [if_neg (by omega)] at hs
   refine ⟨(v + 1,B5),by show r.length - (v + 1) < r.length - v;omega,.cons rfl aW,by show v + 1≤_;omega,by omega,?_,aM,eO⟩
   show LL _ _ _ B5 (F++vj r (v + 1))
   rw [hs];exact rl
 ·have:v=r.length:=by omega
  subst this
  exact aN _ _ _ B5 aW rl aM cD
theorem mK {f:FuncId} (hf:A.funcs f=some pH) (hh:∀vs H nx,A.aF f vs H nx=none) (Rf:A.funcs 84=some w9) (Dz:∀vs H nx,A.aF 84 vs H nx=none) (KQ:A.funcs 117=some rI) (uE:∀vs H nx,A.aF 117 vs H nx=none)
  {n:Int} {ev rv:Value} {es:List Ed} {r:List (List Int)} (g:cJ n es r) (he:bS H nx 2 a5 ev es) (hr:eY H nx 1 bq rv r) (cj:b8 r) (dP:es.length≤4000) :
  WF A f [.agg #[.int .i64 n,ev],rv] H nx fun v H' nx'=>∃nx0,nx≤nx0∧nx0≤nx'∧LL H' nx0 nx' v (dh es r)∧an H H' nx:=by
 obtain ⟨base,ec,rfl⟩:=he.form
 obtain ⟨bW,rc,rfl⟩:=hr.form
 refine WF.enter (hh _ _ _) hf ?_
 repeat' (first|((first|refine WO.n rfl ?_|refine WO.k rfl ?_);(first|refine aK ?_|refine jN ?_|refine aJ ?_))|with_reducible (first|refine WO.nil ?_|refine WC.aa ?_|refine WC.seq ?_|refine aC ?_))
 have bM:an H (aw H nx [.int .i64 n,.slice base es.length ec]) nx:=an.refl.set (Nat.le_refl _)
 refine WO.cn rfl ?_
 refine (GZ Rf Dz KQ uE g ((he.same bM).up (Nat.le_succ _)) ((hr.same bM).up (Nat.le_succ _)) cj dP).of ?_
 rintro _ H1 aT ⟨lb,lc,l,rfl,W1,aaB,aaC,nF,tO,a7⟩
 have bp:an H H1 nx:=bM.trans a7 (by omega)
 have Ds:=nF.1
 have dB:Rd H1 nx [.int .i64 n,.slice base es.length ec]:=a7.rd (by omega) Rd.self
 repeat' (first|((first|refine WO.n rfl ?_|refine WO.k rfl ?_);(first|refine aK ?_|refine cM ?_|refine mD ?_))|with_reducible (first|refine WO.nil ?_|refine WC.aa ?_|refine WC.seq ?_|refine WC.block ?_|refine aC ?_))
 rw [← Ds]
 refine WC.sub aW (aaD (nb:=nx) (lb:=lb) (sb:=aT) (nxt:=l) (Dx g nF) (by omega) (bz (by omega) tO) (by show ak _ _=_;rw [aq,fa,List.map_replicate]) (by omega) (by omega) (by omega) (by omega) (by omega) (bp.set (by omega)) (Rd.skip (by omega) dB) (by omega) (by omega) (fun σ H2 nx2 lv hσ G1 VO bL lS eW=>?_))
 refine eh (aC (WC.sub hσ ?_))
 repeat' (first|(refine WO.k rfl ?_;refine aK ?_)|with_reducible (first|refine WO.nil ?_|refine WC.aa ?_|refine WC.seq ?_|refine WC.block ?_|refine aC ?_))
 refine WC.sub aW (aaF (nb:=nx) (nx0:=aT + 1) hr cj (by omega) G1 (by omega) (by omega) bL lS g.len (by omega) (fun σ H3 nx3 lv3 hσ Fa fH mG=>?_))
 refine eh (aC (WC.sub hσ ?_))
 repeat' (first|(refine WO.k rfl ?_;refine aK ?_)|with_reducible (first|refine WO.nil ?_|refine WC.aa ?_|refine WC.seq ?_|refine WC.ret ?_|refine aC ?_))
 refine az (vs:=[_]) rfl ⟨aT + 1,by omega,by omega,?_,fH⟩
 unfold dh lj
 rw [qR g nF]
 exact Fa
end Go.Eng

namespace Go.Eng
theorem Nq {nxt:List Int}:∀{m k:Nat} {s:List Bool} {f:List Int},(oH nxt m s k f).2.length≤f.length + m:=by
 intro m
 induction m with
 | zero=>intro k s f;exact Nat.le_refl _
 | succ m ih=>
  intro k s f
  show (if s.getD k true then (s,f) else _:List Bool×List Int).2.length≤_
  split
  ·show f.length≤_;omega
  ·refine Nat.le_trans ih ?_
   rw [List.length_append];show f.length + 1 + m≤_;omega
theorem DA {nxt:List Int}:∀{k:Nat},(aV nxt k).2.length≤k:=by
 intro k
 induction k with
 | zero=>exact Nat.le_refl _
 | succ k ih=>exact ou ih
theorem DB {nxt:List Int}:∀{k:Nat} {f:List Int},f∈(aV nxt k).2→∃h,h < k∧f=(oH nxt nxt.length (aV nxt h).1 h []).2∧f≠[]:=by
 intro k
 induction k with
 | zero=>intro f hf;simp [aV] at hf
 | succ k ih=>
  intro f hf
  rw [gp] at hf
  unfold pM at hf
  simp only at hf
  split at hf
  ·obtain ⟨h,h1,h2,h3⟩:=ih hf
   exact ⟨h,by omega,h2,h3⟩
  ·rename_i cy
   rcases List.mem_append.1 hf with hf|hf
   ·obtain ⟨h,h1,h2,h3⟩:=ih hf
    exact ⟨h,by omega,h2,h3⟩
   ·have:=List.mem_singleton.1 hf
    exact ⟨k,by omega,this,by rw [this];exact cy⟩
theorem Rg {nxt:List Int} (hn:qS nxt):∀{m k:Nat} {s:List Bool} {f:List Int},k < nxt.length→(∀x∈f,∃q:Nat,x=(q:Int)∧q < nxt.length)→∀x∈(oH nxt m s k f).2,∃q:Nat,x=(q:Int)∧q < nxt.length:=by
 intro m
 induction m with
 | zero=>intro k s f hk hf;exact hf
 | succ m ih=>
  intro k s f hk hf
  show ∀x∈(if s.getD k true then (s,f) else _:List Bool×List Int).2,_
  split
  ·exact hf
  ·obtain ⟨q,h1,h2⟩:=hn k hk
   have e:(nxt.getD k 0).toNat=q:=by rw [List.getD_eq_getElem?_getD,h1];rfl
   refine ih (by rw [e];exact h2) fun x hx=>?_
   rcases List.mem_append.1 hx with hx|hx
   ·exact hf x hx
   ·exact ⟨k,List.mem_singleton.1 hx,hk⟩
structure fS (fs:List (List Int)) (m:Nat):Prop where
 Rh:fs.length≤20000
 row:∀i,(fs.getD i []).length≤8000
 inn:∀i k,k < (fs.getD i []).length→∃q:Nat,(fs.getD i [])[k]?=some (q:Int)∧q < m
theorem uI {r:List (List Int)} {nxt:List Int} {f:List Int} (hf:f∈lj r nxt):f=[]∨∃h,h < nxt.length∧f=(oH nxt nxt.length (aV nxt h).1 h []).2∧f≠[]:=by
 rcases List.mem_append.1 hf with hf|hf
 ·exact .inr (DB hf)
 ·unfold vj at hf
  have:=(List.mem_filter.1 hf).2
  exact .inl (List.eq_nil_of_length_eq_zero (by simpa using this))
theorem Bz {α:Type} {l:List (List α)} {i:Nat} (h:l.getD i []≠[]):l.getD i []∈l:=by
 rw [List.getD_eq_getElem?_getD] at h ⊢
 cases h1:l[i]? with
 | none=>rw [h1] at h;exact absurd rfl h
 | some x=>exact List.mem_of_getElem? h1
theorem KU {n:Int} {es:List Ed} {r:List (List Int)} {l:List Int} (g:cJ n es r) (h:fe es r l):fS (lj r l) (2 * es.length):=by
 obtain ⟨m0,m1,m2,_⟩:=g.may
 have hn:=g.len
 have hl:=h.1
 have hh:=Dx g h
 refine ⟨?_,fun i=>?_,fun i k hk=>?_⟩
 ·unfold lj
  rw [List.length_append]
  have:=DA (nxt:=l) (k:=l.length)
  have:=Du (r:=r) (k:=r.length)
  omega
 ·by_cases e:(lj r l).getD i []=[]
  ·rw [e];exact Nat.zero_le _
  ·rcases uI (Bz e) with h1|⟨h,_,h1,_⟩
   ·rw [h1];exact Nat.zero_le _
   ·rw [h1]
    have:=Nq (nxt:=l) (m:=l.length) (k:=h) (s:=(aV l h).1) (f:=[])
    simp only [List.length_nil] at this
    omega
 ·have e:(lj r l).getD i []≠[]:=by intro e;rw [e] at hk;simp at hk
  rcases uI (Bz e) with h1|⟨h,h0,h1,_⟩
  ·exact absurd h1 e
  ·have:=Rg hh (m:=l.length) (s:=(aV l h).1) (f:=[]) h0 (fun x hx=>by cases hx) ((lj r l).getD i [])[k] (by rw [← h1];exact List.getElem_mem hk)
   obtain ⟨q,q1,q2⟩:=this
   exact ⟨q,by rw [List.getElem?_eq_getElem hk,q1],by omega⟩
def DC (l:List Int) (i:Nat) (f:List Int):List Int:=f.foldl (fun l h=>l.set h.toNat (i:Int)) l
def Nr (m:Nat) (fs:List (List Int)) (k:Nat):List Int:=(List.range k).foldl (fun l i=>DC l i (fs.getD i [])) (List.replicate m 0)
theorem uJ {m k:Nat} {fs:List (List Int)}:Nr m fs (k + 1)=DC (Nr m fs k) k (fs.getD k []):=by
 unfold Nr
 rw [List.range_succ,List.foldl_append];rfl
theorem BA {l f:List Int} {i k:Nat} {x:Int} (h:f[k]?=some x):DC l i (f.take (k + 1))=(DC l i (f.take k)).set x.toNat (i:Int):=by
 unfold DC
 rw [List.take_add_one,h,List.foldl_append];rfl
theorem yU {i:Nat}:∀{f l:List Int},(DC l i f).length=l.length:=by
 intro f
 induction f with
 | nil=>intro l;rfl
 | cons x f ih=>
  intro l
  show (DC (l.set x.toNat (i:Int)) i f).length=_
  rw [ih,List.length_set]
theorem yV {m:Nat} {fs:List (List Int)}:∀{k:Nat},(Nr m fs k).length=m:=by
 intro k
 induction k with
 | zero=>show (List.replicate m 0).length=m;rw [List.length_replicate]
 | succ k ih=>rw [uJ,yU,ih]
noncomputable def DE (es:List Ed) (r:List (List Int)):List Int:=Nr (2 * es.length) (dh es r) (dh es r).length
end Go.Eng

namespace Go.Eng
variable {A:aG} {H H':Heap} {nx nx':Nat} {σ:aP} {Q:ct}
set_option maxRecDepth 100000
theorem vW {f:FuncId} (hf:A.funcs f=some xd) (hh:∀vs H nx,A.aF f vs H nx=none)
  (VP:A.funcs 85=some pG) (KW:∀vs H nx,A.aF 85 vs H nx=none) (HV:A.funcs 46=some rH) (sg:∀vs H nx,A.aF 46 vs H nx=none)
  (VQ:A.funcs 86=some uh) (KX:∀vs H nx,A.aF 86 vs H nx=none) (Dy:A.funcs 118=some qM) (uH:∀vs H nx,A.aF 118 vs H nx=none)
  {n:Int} {ev rv:Value} {es:List Ed} {r:List (List Int)} (h0:aQ n es r=0) (he:bS H nx 2 a5 ev es) (hr:eY H nx 1 bq rv r) (cj:b8 r) :
  WF A f [.agg #[.int .i64 n,ev],rv] H nx fun v H' nx'=>∃fv nx0,v=oneOf [fv,.int .i64 0]∧nx≤nx0∧nx0≤nx'∧LL H' nx0 nx' fv (dh es r)∧an H H' nx:=by
 have g:=iy h0
 obtain ⟨m0,m1,m2,_⟩:=g.may
 obtain ⟨base,ec,rfl⟩:=he.form
 obtain ⟨bW,rc,rfl⟩:=hr.form
 refine WF.enter (hh _ _ _) hf ?_
 repeat' (first|((first|refine WO.n rfl ?_|refine WO.k rfl ?_);(first|refine aK ?_|refine jN ?_|refine aJ ?_))|with_reducible (first|refine WO.nil ?_|refine WC.aa ?_|refine WC.seq ?_|refine aC ?_))
 have bM:an H (aw H nx [.int .i64 n,.slice base es.length ec]) nx:=an.refl.set (Nat.le_refl _)
 refine WO.cn rfl ?_
 refine (j2 VP HV KW sg ((he.same bM).up (Nat.le_succ _)) ((hr.same bM).up (Nat.le_succ _)) cj).of ?_
 rintro _ H1 aT ⟨rfl,a7,cD⟩
 have bp:an H H1 nx:=bM.trans a7 (by omega)
 have dB:Rd H1 nx [.int .i64 n,.slice base es.length ec]:=a7.rd (by omega) Rd.self
 rw [h0]
 repeat' (first|((first|refine WO.n rfl ?_|refine WO.k rfl ?_);(first|refine aK ?_|refine aJ ?_|(refine om (fun h=>?_) (fun h=>?_)<;>(try simp only [Int.ofNat_eq_natCast] at h))))|with_reducible (first|refine WO.nil ?_|refine WC.aa ?_|refine WC.seq ?_|refine WC.skip ?_|refine WC.ret ?_)|refine WC.aB rfl ?_|refine WC.ax rfl ?_|with_reducible (first|refine aC ?_|refine gM ?_))
 ·omega
 refine WO.cn rfl ?_
 refine (ow VQ KX Dy uH g ((he.same bp).up (by omega)) ((hr.same bp).up (by omega)) cj (by omega)).of ?_
 rintro fv H2 nx2 ⟨nx0,vS,eW,hL,bL⟩
 repeat' (first|(refine WO.k rfl ?_;refine aK ?_)|with_reducible (first|refine WO.nil ?_|refine WC.ret ?_|refine aC ?_))
 exact az (vs:=[_,_]) rfl ⟨fv,nx0,rfl,by omega,eW,hL,bp.trans bL (by omega)⟩
theorem KY {m i:Nat} {fs:List (List Int)} {na nx0 nb lb:Nat} {ib:Option Addr} {ic lc:Nat} {fv:Value} {Ha H0:Heap} {l:List Int} (ok:fS fs m)
  (hi:bS H0 nb 1 bq (.slice ib (fs.getD i []).length ic) (fs.getD i [])) (Ds:l.length=m) (tO:i≤1048576)
  (Co:∀q,bj (.slice ib (fs.getD i []).length ic)=some q→nx0≤q) (hl:ay H lb l) (VS:na≤lb) (th:lb < nx0) (nG:lb < nx) (bV:an Ha H na) (fA:cT H0 H nx0 nb)
  (aN:∀σ H' nx',bg [(S7,.slice (some ⟨lb,0,some 1⟩) m lc),(zo,fv),(vU,.int .i64 ((fs.length:Nat):Int)),(yB,.int .i64 ((i:Nat):Int))] σ→
   ay H' lb (DC l i (fs.getD i []))→an Ha H' na→cT H0 H' nx0 nb→nx≤nx'→Q (.exit 2) σ H' nx') :
  WC A (.loop QE) [(S7,.slice (some ⟨lb,0,some 1⟩) m lc),(zo,fv),(vU,.int .i64 ((fs.length:Nat):Int)),(yB,.int .i64 ((i:Nat):Int)),(S8,.int .i64 ((i:Nat):Int)),(EN,.slice ib (fs.getD i []).length ic),(zn,.int .i64 (((fs.getD i []).length:Nat):Int)),(GF,.int .i64 0)] H nx Q:=by
 refine WC.loop (α:=Nat) (fun k=>[(S7,.slice (some ⟨lb,0,some 1⟩) m lc),(zo,fv),(vU,.int .i64 ((fs.length:Nat):Int)),(yB,.int .i64 ((i:Nat):Int)),(S8,.int .i64 ((i:Nat):Int)),(EN,.slice ib (fs.getD i []).length ic),(zn,.int .i64 (((fs.getD i []).length:Nat):Int)),(GF,.int .i64 ((k:Nat):Int))])
  (fun k H' nx'=>k≤(fs.getD i []).length∧nx≤nx'∧ay H' lb (DC l i ((fs.getD i []).take k))∧an Ha H' na∧cT H0 H' nx0 nb) (fun k=>(fs.getD i []).length - k)
  ?_ 0 aW ⟨Nat.zero_le _,Nat.le_refl _,hl,bV,fA⟩
 rintro k H1 aT ⟨hk,cD,iA,aM,ox⟩
 have dY:=ok.row i
 have GY:ak H1 (at_ lb)=some (.cells ((DC l i ((fs.getD i []).take k)).map (.int .i64))):=iA
 have hlen:(DC l i ((fs.getD i []).take k)).length=m:=by rw [yU];exact Ds
 unfold QE
 repeat' (first|((first|refine WO.n rfl ?_|refine WO.k rfl ?_);(refine ei (fun h=>?_) (fun h=>?_)<;>(try simp only [Int.ofNat_eq_natCast] at h)))|with_reducible (first|refine WO.nil ?_|refine WC.aa ?_|refine WC.seq ?_|refine WC.skip ?_|refine WC.exit ?_|refine WC.block ?_)|refine WC.aB rfl ?_|refine WC.ax rfl ?_|with_reducible (first|refine aC ?_|refine dQ ?_))
 ·have cI:k < (fs.getD i []).length:=by omega
  obtain ⟨bb,bo,uA,rfl,je,_,_,Dq,uB⟩:=hi.at (by intro e;rw [e] at cI;simp at cI)
  obtain ⟨q,hq,Fb⟩:=ok.inn i k cI
  have q1:=ft (v:=.int .i64 (q:Int)) (uB k _ hq)
  have KM:=ox.rd (Co bb rfl) je Dq
  have bP:=BA (l:=l) (i:=i) hq
  rw [Int.toNat_natCast] at bP
  repeat' (first|((first|refine WO.n rfl ?_|refine WO.k rfl ?_);(first|refine aK ?_|refine bu ?_|refine aZ ?_|refine fj ?_|refine bO ?_))|with_reducible (first|refine WO.nil ?_|refine WC.aa ?_|refine aC ?_|refine eT ?_))
  refine ⟨k + 1,by show (fs.getD i []).length - (k + 1) < (fs.getD i []).length - k;omega,.cons rfl aW,by omega,by omega,?_,aM.set (by omega),ox.set (by omega)⟩
  rw [bP]
  unfold ay
  rw [aq,List.map_set]
  congr 3
  first|done|rfl|omega
 ·have:k=(fs.getD i []).length:=by omega
  subst this
  rw [List.take_length] at iA
  exact aN _ _ _ aW iA aM ox cD
theorem KZ {m:Nat} {fs:List (List Int)} {na nx0 nb lb:Nat} {fb:Option Addr} {fc lc:Nat} {Ha H0:Heap} (ok:fS fs m)
  (OU:LL H0 nx0 nb (.slice fb fs.length fc) fs) (hl:ay H lb (List.replicate m 0)) (VS:na≤lb) (th:lb < nx0) (nG:lb < nx) (bV:an Ha H na) (fA:cT H0 H nx0 nb)
  (aN:∀σ H' nx',bg [(S7,.slice (some ⟨lb,0,some 1⟩) m lc)] σ→ay H' lb (Nr m fs fs.length)→an Ha H' na→cT H0 H' nx0 nb→nx≤nx'→Q (.exit 0) σ H' nx') :
  WC A (.loop QF) [(S7,.slice (some ⟨lb,0,some 1⟩) m lc),(zo,.slice fb fs.length fc),(vU,.int .i64 ((fs.length:Nat):Int)),(yB,.int .i64 0)] H nx Q:=by
 refine WC.loop (α:=Nat) (fun v=>[(S7,.slice (some ⟨lb,0,some 1⟩) m lc),(zo,.slice fb fs.length fc),(vU,.int .i64 ((fs.length:Nat):Int)),(yB,.int .i64 ((v:Nat):Int))])
  (fun v H' nx'=>v≤fs.length∧nx≤nx'∧ay H' lb (Nr m fs v)∧an Ha H' na∧cT H0 H' nx0 nb) (fun v=>fs.length - v)
  ?_ 0 aW ⟨Nat.zero_le _,Nat.le_refl _,hl,bV,fA⟩
 rintro v H1 aT ⟨hv,cD,iA,aM,ox⟩
 have K0:=ok.Rh
 have dY:=ok.row v
 unfold QF
 repeat' (first|((first|refine WO.n rfl ?_|refine WO.k rfl ?_);(refine ei (fun h=>?_) (fun h=>?_)<;>(try simp only [Int.ofNat_eq_natCast] at h)))|with_reducible (first|refine WO.nil ?_|refine WC.aa ?_|refine WC.seq ?_|refine WC.skip ?_|refine WC.exit ?_|refine WC.block ?_)|refine WC.aB rfl ?_|refine WC.ax rfl ?_|with_reducible (first|refine aC ?_|refine dQ ?_))
 ·have nM:v < fs.length:=by omega
  have j3:fs.getD v []=fs[v]:=by rw [List.getD_eq_getElem?_getD,List.getElem?_eq_getElem nM];rfl
  obtain ⟨rb,ro,O0,ib,ic,rfl,CA,rV,oF,qO,hi,Co⟩:=OU.at nM
  rw [← j3] at qO hi Co
  have Bw:=ox.rd CA rV oF
  repeat' (first|((first|refine WO.n rfl ?_|refine WO.k rfl ?_);(first|refine aK ?_|refine cM ?_|refine bu ?_|refine aZ ?_))|with_reducible (first|refine WO.nil ?_|refine WC.aa ?_|refine WC.seq ?_|refine WC.block ?_|refine aC ?_))
  refine WC.sub aW (KY ok hi yV (by omega) Co iA VS th (by omega) aM ox (fun σ H2 nx2 hσ lR cZ KG eW=>?_))
  refine eh (eT (aC (WC.sub hσ ?_)))
  repeat' (first|((first|refine WO.n rfl ?_|refine WO.k rfl ?_);(first|refine aK ?_|refine bO ?_))|with_reducible (first|refine WO.nil ?_|refine WC.aa ?_))
  exact ⟨v + 1,by show fs.length - (v + 1) < fs.length - v;omega,.cons rfl aW,by omega,by omega,by rw [uJ];exact lR,cZ,KG⟩
 ·have:v=fs.length:=by omega
  subst this
  exact aN _ _ _ aW iA aM ox cD
theorem DF {n:Int} {es:List Ed} {r:List (List Int)} {l:List Int} (g:cJ n es r) (h:fe es r l):fS (dh es r) (2 * es.length):=by
 unfold dh
 rw [qR g h]
 exact KU g h
theorem Ns {f:FuncId} (hf:A.funcs f=some xOf) (hh:∀vs H nx,A.aF f vs H nx=none)
  (VP:A.funcs 85=some pG) (KW:∀vs H nx,A.aF 85 vs H nx=none) (HV:A.funcs 46=some rH) (sg:∀vs H nx,A.aF 46 vs H nx=none)
  (VQ:A.funcs 86=some uh) (KX:∀vs H nx,A.aF 86 vs H nx=none) (Dy:A.funcs 118=some qM) (uH:∀vs H nx,A.aF 118 vs H nx=none)
  {n:Int} {ev rv:Value} {es:List Ed} {r:List (List Int)} (h0:aQ n es r=0) (ok:fS (dh es r) (2 * es.length)) (he:bS H nx 2 a5 ev es) (hr:eY H nx 1 bq rv r) (cj:b8 r) :
  WF A f [.agg #[.int .i64 n,ev],rv] H nx fun v H' nx'=>∃b c,v=oneOf [.slice (some ⟨b,0,some 1⟩) (2 * es.length) c,.int .i64 0]∧2 * es.length≤au c∧nx≤b∧b < nx'∧ay H' b (DE es r)∧an H H' nx∧nx≤nx':=by
 have g:=iy h0
 obtain ⟨m0,m1,m2,_⟩:=g.may
 obtain ⟨base,ec,rfl⟩:=he.form
 obtain ⟨bW,rc,rfl⟩:=hr.form
 refine WF.enter (hh _ _ _) hf ?_
 repeat' (first|((first|refine WO.n rfl ?_|refine WO.k rfl ?_);(first|refine aK ?_|refine jN ?_|refine aJ ?_))|with_reducible (first|refine WO.nil ?_|refine WC.aa ?_|refine WC.seq ?_|refine aC ?_))
 have bM:an H (aw H nx [.int .i64 n,.slice base es.length ec]) nx:=an.refl.set (Nat.le_refl _)
 refine WO.cn rfl ?_
 refine (j2 VP HV KW sg ((he.same bM).up (Nat.le_succ _)) ((hr.same bM).up (Nat.le_succ _)) cj).of ?_
 rintro _ H1 aT ⟨rfl,a7,cD⟩
 have bp:an H H1 nx:=bM.trans a7 (by omega)
 have dB:Rd H1 nx [.int .i64 n,.slice base es.length ec]:=a7.rd (by omega) Rd.self
 rw [h0]
 repeat' (first|((first|refine WO.n rfl ?_|refine WO.k rfl ?_);(first|refine aK ?_|refine dD ?_|refine cM ?_|refine aJ ?_|refine mD ?_|(refine om (fun h=>?_) (fun h=>?_)<;>(try simp only [Int.ofNat_eq_natCast] at h))|refine qL ?_))|with_reducible (first|refine WO.nil ?_|refine WC.aa ?_|refine WC.seq ?_|refine WC.skip ?_|refine WC.ret ?_)|refine WC.aB rfl ?_|refine WC.ax rfl ?_|with_reducible (first|refine aC ?_|refine gM ?_))
 ·omega
 have df:=bp.set (H1:=H1) (b:=aT) (cs:=aU [.int .i64 0] (2 * es.length)) (by omega)
 refine WO.ck rfl ?_
 refine (ow VQ KX Dy uH g ((he.same df).up (by omega)) ((hr.same df).up (by omega)) cj (by omega)).of ?_
 rintro fv H2 nx2 ⟨nx0,vS,eW,hL,bL⟩
 obtain ⟨fb,fc,rfl⟩:=hL.form
 repeat' (first|(refine WO.k rfl ?_;(first|refine aK ?_|refine cM ?_))|with_reducible (first|refine WO.nil ?_|refine WC.block ?_|refine aC ?_))
 have kl:ay H2 aT (List.replicate (2 * es.length) 0):=hO ((bL aT (by omega)).trans aq)
 refine WC.sub aW (KZ (na:=nx) (nx0:=nx0) (nb:=nx2) ok hL kl (by omega) (by omega) (by omega) (df.trans bL (by omega)) .refl (fun σ H3 nx3 hσ Rc fH aaG mG=>?_))
 refine eh (aC (WC.sub hσ ?_))
 repeat' (first|(refine WO.k rfl ?_;refine aK ?_)|with_reducible (first|refine WO.nil ?_|refine WC.aa ?_|refine WC.seq ?_|refine WC.ret ?_|refine aC ?_))
 exact az (vs:=[_,_]) rfl ⟨_,_,rfl,by rw [cw];omega,by omega,by omega,Rc,fH,by omega⟩
theorem G2 {m i:Nat} {fs:List (List Int)} {na nx0 nb lb:Nat} {fb:Option Addr} {fc lc:Nat} {Ha H0:Heap} {l:List Int} (ok:fS fs m)
  (OU:LL H0 nx0 nb (.slice fb fs.length fc) fs) (Ds:l.length=m) (tO:i < fs.length)
  (hl:ay H lb l) (VS:na≤lb) (th:lb < nx0∨nb≤lb) (nG:lb < nx) (bV:an Ha H na) (fA:cT H0 H nx0 nb)
  (aN:∀σ H' nx',bg [(S5,.slice fb fs.length fc),(S6,.slice (some ⟨lb,0,some 1⟩) m lc),(S7,.int .i64 ((i:Nat):Int))] σ→
   ay H' lb (DC l i (fs.getD i []))→an Ha H' na→cT H0 H' nx0 nb→nx≤nx'→Q (.exit 2) σ H' nx') :
  WC A (.loop J6) [(S5,.slice fb fs.length fc),(S6,.slice (some ⟨lb,0,some 1⟩) m lc),(S7,.int .i64 ((i:Nat):Int)),(S8,.int .i64 0)] H nx Q:=by
 refine WC.loop (α:=Nat) (fun k=>[(S5,.slice fb fs.length fc),(S6,.slice (some ⟨lb,0,some 1⟩) m lc),(S7,.int .i64 ((i:Nat):Int)),(S8,.int .i64 ((k:Nat):Int))])
  (fun k H' nx'=>k≤(fs.getD i []).length∧nx≤nx'∧ay H' lb (DC l i ((fs.getD i []).take k))∧an Ha H' na∧cT H0 H' nx0 nb) (fun k=>(fs.getD i []).length - k)
  ?_ 0 aW ⟨Nat.zero_le _,Nat.le_refl _,hl,bV,fA⟩
 rintro k H1 aT ⟨hk,cD,iA,aM,ox⟩
 have dY:=ok.row i
 have K0:=ok.Rh
 have GY:ak H1 (at_ lb)=some (.cells ((DC l i ((fs.getD i []).take k)).map (.int .i64))):=iA
 have hlen:(DC l i ((fs.getD i []).take k)).length=m:=by rw [yU];exact Ds
 have j3:fs.getD i []=fs[i]:=by rw [List.getD_eq_getElem?_getD,List.getElem?_eq_getElem tO];rfl
 obtain ⟨rb,ro,O0,ib,ic,rfl,CA,rV,oF,qO,hi,Co⟩:=OU.at tO
 rw [← j3] at qO hi Co
 have Bw:=ox.rd CA rV oF
 unfold J6
 repeat' (first|((first|refine WO.n rfl ?_|refine WO.k rfl ?_);(first|refine cM ?_|refine bu ?_|refine aZ ?_|(refine ei (fun h=>?_) (fun h=>?_)<;>(try simp only [Int.ofNat_eq_natCast] at h))))|with_reducible (first|refine WO.nil ?_|refine WC.aa ?_|refine WC.seq ?_|refine WC.skip ?_|refine WC.exit ?_|refine WC.block ?_)|refine WC.aB rfl ?_|refine WC.ax rfl ?_|with_reducible (first|refine aC ?_|refine dQ ?_))
 ·have cI:k < (fs.getD i []).length:=by omega
  obtain ⟨bb,bo,uA,rfl,je,_,_,Dq,uB⟩:=hi.at (by intro e;rw [e] at cI;simp at cI)
  obtain ⟨q,hq,Fb⟩:=ok.inn i k cI
  have q1:=ft (v:=.int .i64 (q:Int)) (uB k _ hq)
  have KM:=ox.rd (Co bb rfl) je Dq
  have bP:=BA (l:=l) (i:=i) hq
  rw [Int.toNat_natCast] at bP
  repeat' (first|((first|refine WO.n rfl ?_|refine WO.k rfl ?_);(first|refine aK ?_|refine bu ?_|refine aZ ?_|refine fj ?_|refine bO ?_))|with_reducible (first|refine WO.nil ?_|refine WC.aa ?_|refine aC ?_|refine eT ?_))
  refine ⟨k + 1,by show (fs.getD i []).length - (k + 1) < (fs.getD i []).length - k;omega,.cons rfl aW,by omega,by omega,?_,aM.set (by omega),ox.set (by omega)⟩
  rw [bP]
  unfold ay
  rw [aq,List.map_set]
  congr 3
  first|done|rfl|omega
 ·have:k=(fs.getD i []).length:=by omega
  subst this
  rw [List.take_length] at iA
  exact aN _ _ _ aW iA aM ox cD
theorem G3 {m:Nat} {fs:List (List Int)} {na nx0 nb lb:Nat} {fb:Option Addr} {fc lc:Nat} {Ha H0:Heap} (ok:fS fs m)
  (OU:LL H0 nx0 nb (.slice fb fs.length fc) fs) (hl:ay H lb (List.replicate m 0)) (VS:na≤lb) (th:lb < nx0∨nb≤lb) (nG:lb < nx) (bV:an Ha H na) (fA:cT H0 H nx0 nb)
  (aN:∀σ H' nx',bg [(S6,.slice (some ⟨lb,0,some 1⟩) m lc)] σ→ay H' lb (Nr m fs fs.length)→an Ha H' na→cT H0 H' nx0 nb→nx≤nx'→Q (.exit 0) σ H' nx') :
  WC A (.loop J7) [(S5,.slice fb fs.length fc),(S6,.slice (some ⟨lb,0,some 1⟩) m lc),(S7,.int .i64 0)] H nx Q:=by
 refine WC.loop (α:=Nat) (fun v=>[(S5,.slice fb fs.length fc),(S6,.slice (some ⟨lb,0,some 1⟩) m lc),(S7,.int .i64 ((v:Nat):Int))])
  (fun v H' nx'=>v≤fs.length∧nx≤nx'∧ay H' lb (Nr m fs v)∧an Ha H' na∧cT H0 H' nx0 nb) (fun v=>fs.length - v)
  ?_ 0 aW ⟨Nat.zero_le _,Nat.le_refl _,hl,bV,fA⟩
 rintro v H1 aT ⟨hv,cD,iA,aM,ox⟩
 have K0:=ok.Rh
 have dY:=ok.row v
 unfold J7
 repeat' (first|((first|refine WO.n rfl ?_|refine WO.k rfl ?_);(first|refine aK ?_|refine cM ?_|(refine ei (fun h=>?_) (fun h=>?_)<;>(try simp only [Int.ofNat_eq_natCast] at h))))|with_reducible (first|refine WO.nil ?_|refine WC.aa ?_|refine WC.seq ?_|refine WC.skip ?_|refine WC.exit ?_|refine WC.block ?_)|refine WC.aB rfl ?_|refine WC.ax rfl ?_|with_reducible (first|refine aC ?_|refine dQ ?_))
 ·have nM:v < fs.length:=by omega
  refine WC.sub aW (G2 ok OU yV nM iA VS th (by omega) aM ox (fun σ H2 nx2 hσ lR cZ KG eW=>?_))
  refine eh (eT (aC (WC.sub hσ ?_)))
  repeat' (first|((first|refine WO.n rfl ?_|refine WO.k rfl ?_);(first|refine aK ?_|refine bO ?_))|with_reducible (first|refine WO.nil ?_|refine WC.aa ?_))
  exact ⟨v + 1,by show fs.length - (v + 1) < fs.length - v;omega,.cons rfl aW,by omega,by omega,by rw [uJ];exact lR,cZ,KG⟩
 ·have:v=fs.length:=by omega
  subst this
  exact aN _ _ _ aW iA aM ox cD
theorem K1 {f:FuncId} (hf:A.funcs f=some Vq) (hh:∀vs H nx,A.aF f vs H nx=none)
  (VT:A.funcs 61=some pH) (K2:∀vs H nx,A.aF 61 vs H nx=none)
  (Rf:A.funcs 84=some w9) (Dz:∀vs H nx,A.aF 84 vs H nx=none) (KQ:A.funcs 117=some rI) (uE:∀vs H nx,A.aF 117 vs H nx=none)
  {n:Int} {ev rv:Value} {es:List Ed} {r:List (List Int)} (g:cJ n es r) (ok:fS (dh es r) (2 * es.length)) (he:bS H nx 2 a5 ev es) (hr:eY H nx 1 bq rv r) (cj:b8 r) :
  WF A f [.agg #[.int .i64 n,ev],rv] H nx fun v H' nx'=>∃b c,v=.slice (some ⟨b,0,some 1⟩) (2 * es.length) c∧2 * es.length≤au c∧nx≤b∧b < nx'∧ay H' b (DE es r)∧an H H' nx∧nx≤nx':=by
 obtain ⟨m0,m1,m2,_⟩:=g.may
 obtain ⟨base,ec,rfl⟩:=he.form
 obtain ⟨bW,rc,rfl⟩:=hr.form
 refine WF.enter (hh _ _ _) hf ?_
 repeat' (first|((first|refine WO.n rfl ?_|refine WO.k rfl ?_);(first|refine aK ?_|refine jN ?_|refine aJ ?_))|with_reducible (first|refine WO.nil ?_|refine WC.aa ?_|refine WC.seq ?_|refine aC ?_))
 have bM:an H (aw H nx [.int .i64 n,.slice base es.length ec]) nx:=an.refl.set (Nat.le_refl _)
 refine WO.cn rfl ?_
 refine (mK VT K2 Rf Dz KQ uE g ((he.same bM).up (by omega)) ((hr.same bM).up (by omega)) cj (by omega)).of ?_
 rintro fv H2 nx2 ⟨nx0,vS,eW,hL,bL⟩
 obtain ⟨fb,fc,rfl⟩:=hL.form
 have kl:Rd H2 nx [.int .i64 n,.slice base es.length ec]:=bL.rd (by omega) Rd.self
 repeat' (first|((first|refine WO.n rfl ?_|refine WO.k rfl ?_);(first|refine aK ?_|refine dD ?_|refine cM ?_|refine aJ ?_|refine mD ?_|refine qL ?_))|with_reducible (first|refine WO.nil ?_|refine WC.aa ?_|refine WC.seq ?_|refine WC.block ?_|refine aC ?_))
 have df:=(bM.trans bL (by omega)).set (b:=nx2) (cs:=aU [.int .i64 0] (2 * es.length)) (by omega)
 refine WC.sub aW (G3 (na:=nx) (nx0:=nx0) (nb:=nx2) ok hL (hO aq) (by omega) (by omega) (by omega) df (cT.refl.set (.inr (Nat.le_refl _))) (fun σ H3 nx3 hσ Rc fH aaG mG=>?_))
 refine eh (aC (WC.sub hσ ?_))
 repeat' (first|(refine WO.k rfl ?_;refine aK ?_)|with_reducible (first|refine WO.nil ?_|refine WC.aa ?_|refine WC.seq ?_|refine WC.ret ?_|refine aC ?_))
 exact az (vs:=[_]) rfl ⟨_,_,rfl,by rw [cw];omega,by omega,by omega,Rc,fH,by omega⟩
end Go.Eng

namespace Go.Eng
def di (es:List Ed) (k v:Nat):List Int:=((List.range k).filter fun h=>cq es h=(v:Int)).map fun (h:Nat)=>(h:Int)
def fM (es:List Ed) (n k:Nat):List (List Int):=(List.range n).map (di es k)
theorem cU {es:List Ed} {n k:Nat}:(fM es n k).length=n:=by unfold fM;simp
theorem mL {es:List Ed} {n k v:Nat} (hv:v < n):(fM es n k)[v]?=some (di es k v):=by
 unfold fM
 rw [List.getElem?_map,List.getElem?_range hv];rfl
theorem jg {es:List Ed} {n k v:Nat} (hv:v < n):(fM es n k).getD v []=di es k v:=by
 rw [List.getD_eq_getElem?_getD,mL hv];rfl
theorem G4 {es:List Ed} {k v:Nat}:di es (k + 1) v=if cq es k=(v:Int) then di es k v++[(k:Int)] else di es k v:=by
 unfold di
 rw [List.range_succ,List.filter_append,List.map_append]
 by_cases e:cq es k=(v:Int)
 ·rw [if_pos e,List.filter_cons_of_pos (by simpa using e)];rfl
 ·rw [if_neg e,List.filter_cons_of_neg (by simpa using e)]
  show _++[]=_
  rw [List.append_nil]
theorem xq {es:List Ed} {n k v:Nat} (hv:v < n) (he:cq es k=(v:Int)):fM es n (k + 1)=(fM es n k).set v ((fM es n k).getD v []++[(k:Int)]):=by
 apply List.ext_getElem?
 intro i
 rw [List.getElem?_set,jg hv]
 by_cases hi:i < n
 ·rw [mL hi,G4,cU]
  by_cases e:v=i
  ·subst e
   rw [if_pos rfl,if_pos hv,if_pos he]
  ·rw [if_neg e,if_neg (by rw [he];omega),mL hi]
 ·rw [List.getElem?_eq_none (by rw [cU];omega)]
  by_cases e:v=i
  ·omega
  ·rw [if_neg e,List.getElem?_eq_none (by rw [cU];omega)]
theorem kK {es:List Ed} {k v:Nat}:(di es k v).length≤k:=by
 unfold di
 rw [List.length_map]
 refine Nat.le_trans (List.length_filter_le _ _) ?_
 rw [List.length_range];exact Nat.le_refl _
theorem BB {es:List Ed} {k v:Nat} {x:Int}:x∈di es k v↔∃h:Nat,x=(h:Int)∧h < k∧cq es h=(v:Int):=by
 unfold di
 constructor
 ·intro hx
  obtain ⟨h,h1,rfl⟩:=List.mem_map.1 hx
  obtain ⟨h2,h3⟩:=List.mem_filter.1 h1
  exact ⟨h,rfl,List.mem_range.1 h2,by simpa using h3⟩
 ·rintro ⟨h,rfl,h1,h2⟩
  exact List.mem_map.2 ⟨h,List.mem_filter.2 ⟨List.mem_range.2 h1,by simpa using h2⟩,rfl⟩
def GS (H:Heap) (nx0 nx ob:Nat) (ls:List (List Int)):Prop:=
 ∃us:List Value,us.length=ls.length∧ak H (at_ ob)=some (.cells us)∧(∀(i:Nat) (u:Value) (l:List Int),us[i]?=some u→ls[i]?=some l→bA H nx0 nx 1 u l.length (l.map (.int .i64)))∧∀(i j:Nat) (u w:Value) (b:Nat),us[i]?=some u→us[j]?=some w→bj u=some b→bj w=some b→i=j
section
variable {A:aG} {H H':Heap} {nx nx':Nat} {σ:aP} {L:List Value}
theorem uK:∀n:Nat,aU [Value.slice none 0 0] n=List.replicate n (.slice none 0 0):=fun n=>fa _ n
theorem GS.zero {nx0 ob n:Nat} (h:ak H (at_ ob)=some (.cells (aU [.slice none 0 0] n))):GS H nx0 nx ob (List.replicate n []):=by
 refine ⟨List.replicate n (.slice none 0 0),by simp,by rw [h,uK],fun i u l hu hl=>?_,fun i j u w b hu hw hbu=>?_⟩
 ·rw [List.getElem?_replicate] at hu hl
  split at hu
  ·rename_i hi
   rw [if_pos hi] at hl
   cases hu;cases hl
   exact .nil
  ·cases hu
 ·rw [List.getElem?_replicate] at hu
  split at hu
  ·cases hu;cases hbu
  ·cases hu
theorem qT {nx0 n b:Nat} {v:Value} {cs:List Value} (h:bA H nx0 nx 1 v n cs) (hb:bj v=some b):nx0≤b∧b < nx∧ak H (at_ b)=some (.cells cs)∧v=.slice (some ⟨b,0,some 1⟩) n (2 * n):=by
 obtain ⟨_,⟨rfl,_⟩|⟨c,rfl,g1,g2,g3⟩⟩:=h
 ·cases hb
 ·cases hb;exact ⟨g1,g2,g3,rfl⟩
theorem jG {nx0 n:Nat} {v:Value} {cs:List Value} (h:bA H nx0 nx 1 v n cs):∃b c,v=.slice b n c:=by
 obtain ⟨_,⟨rfl,rfl⟩|⟨c,rfl,g1,g2,g3⟩⟩:=h
 ·exact ⟨_,_,rfl⟩
 ·exact ⟨_,_,rfl⟩
theorem GS.frame {nx0 ob:Nat} {ls:List (List Int)} (h:GS H nx0 nx ob ls) (ho:ak H' (at_ ob)=ak H (at_ ob)) (hs:cT H H' nx0 nx) (hn:nx≤nx'):GS H' nx0 nx' ob ls:=by
 obtain ⟨us,h1,h2,h3,h4⟩:=h
 exact ⟨us,h1,ho.trans h2,fun i u l hu hl=>(h3 i u l hu hl).vh hs hn,h4⟩
theorem GS.row {nx0 ob v:Nat} {ls:List (List Int)} (h:GS H nx0 nx ob ls) (hv:v < ls.length) :
  ∃us u,us.length=ls.length∧ak H (at_ ob)=some (.cells us)∧us[0 + v * 1]?=some u∧bA H nx0 nx 1 u (ls.getD v []).length ((ls.getD v []).map (.int .i64)):=by
 obtain ⟨us,h1,h2,h3,_⟩:=h
 have hu:us[v]?=some us[v]:=List.getElem?_eq_getElem (by omega)
 refine ⟨us,us[v],h1,h2,by rw [Nat.zero_add,Nat.mul_one];exact hu,h3 v _ _ hu ?_⟩
 rw [List.getD_eq_getElem?_getD,List.getElem?_eq_getElem hv];rfl
theorem GS.push {nx0 ob v:Nat} {x:Int} {ls:List (List Int)} {us:List Value} {u:Value} {H1:Heap} (h:GS H nx0 nx ob ls) (hv:v < ls.length) (Bs:ak H (at_ ob)=some (.cells us)) (hu:us[0 + v * 1]?=some u)
  (ho:ob < nx0) (h0:nx0≤nx) (k1:ak H1 (at_ nx)=some (.cells ((ls.getD v []).map (.int .i64)++[.int .i64 x]))) (k2:∀b,nx0≤b→b < nx→bj u≠some b→ak H1 (at_ b)=ak H (at_ b)) :
  GS (aw H1 ob (us.set v (.slice (some ⟨nx,0,some 1⟩) ((ls.getD v []).length + 1) (2 * ((ls.getD v []).length + 1))))) nx0 (nx + 1) ob (ls.set v (ls.getD v []++[x])):=by
 obtain ⟨Xx,h1,h2,h3,h4⟩:=h
 rw [Bs] at h2
 cases h2
 rw [Nat.zero_add,Nat.mul_one] at hu
 refine ⟨us.set v (.slice (some ⟨nx,0,some 1⟩) ((ls.getD v []).length + 1) (2 * ((ls.getD v []).length + 1))),by rw [List.length_set,List.length_set];exact h1,by rw [aq],fun i w l hw hl=>?_,fun i j w w' b hw Pu hb fp=>?_⟩
 ·rw [List.getElem?_set] at hw hl
  by_cases e:v=i
  ·subst e
   rw [if_pos rfl,if_pos (by omega)] at hw
   rw [if_pos rfl,if_pos hv] at hl
   cases hw;cases hl
   refine ⟨by simp,.inr ⟨nx,by simp,h0,by omega,?_⟩⟩
   rw [ai,if_neg (by omega),k1,List.map_append];rfl
  ·rw [if_neg e] at hw hl
   have hg:=h3 i w l hw hl
   obtain ⟨lD,SG|⟨b,rfl,g1,g2,g3⟩⟩:=hg
   ·exact ⟨lD,.inl SG⟩
   ·refine ⟨lD,.inr ⟨b,rfl,g1,by omega,?_⟩⟩
    rw [ai,if_neg (by omega),k2 b g1 g2 (fun hub=>e (h4 v i u _ b hu hw hub rfl))]
    exact g3
 ·have key:∀(i:Nat) (w:Value) (b:Nat),(us.set v (.slice (some ⟨nx,0,some 1⟩) ((ls.getD v []).length + 1) (2 * ((ls.getD v []).length + 1))))[i]?=some w→bj w=some b→(i=v∧b=nx)∨(i≠v∧us[i]?=some w∧b < nx):=by
   intro i w b hw hb
   rw [List.getElem?_set] at hw
   by_cases e:v=i
   ·subst e
    rw [if_pos rfl,if_pos (by omega)] at hw
    cases hw;cases hb
    exact .inl ⟨rfl,rfl⟩
   ·rw [if_neg e] at hw
    have hi:i < us.length:=(List.getElem?_eq_some_iff.1 hw).1
    exact .inr ⟨fun h=>e h.symm,hw,(qT (h3 i w _ hw (List.getElem?_eq_getElem (by omega))) hb).2.1⟩
  rcases key i w b hw hb with ⟨rfl,e1⟩|⟨n1,w1,l1⟩<;>rcases key j w' b Pu fp with ⟨e2,e3⟩|⟨n2,w2,l2⟩
  ·exact e2.symm
  ·omega
  ·omega
  ·exact h4 i j w w' b w1 w2 hb fp
theorem bA.cell {nx0 k:Nat} {u:Value} {l:List Int} {x:Int} (h:bA H nx0 nx 1 u l.length (l.map (.int .i64))) (hx:l[k]?=some x):∃b c,u=.slice (some ⟨b,0,some 1⟩) l.length c∧nx0≤b∧b < nx∧ak H (at_ b)=some (.cells (l.map (.int .i64)))∧(l.map (Value.int .i64))[0 + k * 1]?=some (.int .i64 x):=by
 have hk:=(List.getElem?_eq_some_iff.1 hx).1
 obtain ⟨_,⟨_,h0⟩|⟨b,rfl,g1,g2,g3⟩⟩:=h
 ·omega
 ·exact ⟨b,_,rfl,g1,g2,g3,ay.cell hx⟩
end
end Go.Eng

namespace Go.Eng
variable {A:aG} {H H':Heap} {nx nx':Nat} {σ:aP} {Q:ct}
set_option maxRecDepth 100000
theorem Nt {n:Int} {es:List Ed} {base:Option Addr} {c:Nat} {H:Heap} {nx:Nat} (he:bS H nx 2 a5 (.slice base es.length c) es):jK (.agg #[.int .i64 n,.slice base es.length c]) (.agg #[.int .i64 n,.slice base es.length c])=true:=by
 obtain ⟨EI,c',q1,q2,_⟩:=he
 cases q1
 have:ey (.slice base es.length c) (.slice base es.length c)=true:=by
  cases base with
  | none=>obtain ⟨p1,rfl⟩:=q2 rfl;rw [p1];rfl
  | some a=>simp [ey]
 show (ey (.int .i64 n) (.int .i64 n)&&(ey (.slice base es.length c) (.slice base es.length c)&&true))=true
 rw [this];simp [ey]
theorem qU {n:Int} {es:List Ed} (hm:jF n es) {h:Nat} (hl:h < 2 * es.length):∃v:Nat,cq es h=(v:Int)∧(v:Int) < n:=by
 obtain ⟨_,_,_,fA⟩:=hm
 have lR:h / 2 < es.length:=by omega
 obtain ⟨q1,q2,q3,q4⟩:=fA es[h / 2] (List.getElem_mem lR)
 have hg:es.getD (h / 2) (0,0)=es[h / 2]:=by rw [List.getD_eq_getElem?_getD,List.getElem?_eq_getElem lR];rfl
 unfold cq
 rw [hg]
 split
 ·exact ⟨es[h / 2].1.toNat,by omega,by omega⟩
 ·exact ⟨es[h / 2].2.toNat,by omega,by omega⟩
theorem ouL {n:Int} {m nb ob:Nat} {es:List Ed} {base:Option Addr} {ec oc:Nat} {H0:Heap} (yS:A.funcs 60=some mF) (lh:∀vs H nx,A.aF 60 vs H nx=none)
  (hm:jF n es) (fB:n=(m:Int)) (he:bS H0 nb 2 a5 (.slice base es.length ec) es) (th:nb < ob) (LZ:ob < nx) (hs:an H0 H nb) (jJ:Rd H nb [.int .i64 n,.slice base es.length ec])
  (hg:GS H (ob + 1) nx ob (List.replicate m []))
  (aN:∀σ H' nx',bg [(S3,.slice (some ⟨ob,0,some 1⟩) m oc)] σ→GS H' (ob + 1) nx' ob (fM es m (2 * es.length))→an H0 H' nb→nx≤nx'→Q (.exit 0) σ H' nx') :
  WC A (.loop Qy) [(S1,.pointer (some ⟨nb,0,none⟩)),(S3,.slice (some ⟨ob,0,some 1⟩) m oc),(S4,.int .i64 0)] H nx Q:=by
 have dP:=hm.2.2.1
 have cD:=hm.2.1
 refine WC.loop (α:=Nat) (fun h=>[(S1,.pointer (some ⟨nb,0,none⟩)),(S3,.slice (some ⟨ob,0,some 1⟩) m oc),(S4,.int .i64 ((h:Nat):Int))])
  (fun h H' nx'=>h≤2 * es.length∧nx≤nx'∧GS H' (ob + 1) nx' ob (fM es m h)∧an H0 H' nb∧Rd H' nb [.int .i64 n,.slice base es.length ec]) (fun h=>2 * es.length - h)
  ?_ 0 aW ⟨Nat.zero_le _,Nat.le_refl _,by
   have:fM es m 0=List.replicate m []:=by
    apply List.ext_getElem?
    intro i
    by_cases hi:i < m
    ·rw [mL hi,List.getElem?_replicate,if_pos hi];rfl
    ·rw [List.getElem?_eq_none (by rw [cU];omega),List.getElem?_eq_none (by simp;omega)]
   rw [this];exact hg,hs,jJ⟩
 rintro q H1 aT ⟨hh,hU,xp,a7,eO⟩
 unfold Qy
 repeat' (first|((first|refine WO.n rfl ?_|refine WO.k rfl ?_);(first|refine dD ?_|refine cM ?_|refine aJ ?_|(refine ei (fun h=>?_) (fun h=>?_)<;>(try simp only [Int.ofNat_eq_natCast] at h))|refine qL ?_))|with_reducible (first|refine WO.nil ?_|refine WC.aa ?_|refine WC.drawn ?_|refine WC.seq ?_|refine WC.skip ?_|refine WC.exit ?_|refine WC.block ?_)|refine WC.aB rfl ?_|refine WC.ax rfl ?_|with_reducible (first|refine aC ?_|refine dQ ?_))
 ·have cf:q < 2 * es.length:=by omega
  obtain ⟨v,hv,hvn⟩:=qU hm cf
  have G5:v < m:=by omega
  have hvq:=Nt (n:=n) he
  refine WO.ca rfl ?_
  refine (qQ yS lh ((he.same a7).up (show nb≤aT by omega)) cf (by omega)).of ?_
  rintro _ H2 nx2 ⟨rfl,bL,eW⟩
  have lS:=bL.rd (by omega) eO
  refine ⟨a6.look rfl lS rfl rfl hvq .nil,?_⟩
  have df:an H0 H2 nb:=a7.trans bL (by omega)
  refine WO.cn rfl ?_
  refine (qQ yS lh ((he.same df).up (show nb≤nx2 by omega)) cf (by omega)).of ?_
  rintro _ H3 nx3 ⟨rfl,fH,mG⟩
  have lk:an H0 H3 nb:=df.trans fH (by omega)
  have aaH:=fH.rd (by omega) lS
  have VU:an H1 H3 aT:=bL.trans fH (by omega)
  have O2:GS H3 (ob + 1) nx3 ob (fM es m q):=xp.frame (VU ob (by omega)) (fun b _ hb=>VU b hb) (by omega)
  rw [hv]
  obtain ⟨us,u,kI,Bs,G6,rL⟩:=O2.row (v:=v) (by rw [cU];exact G5)
  rw [cU] at kI
  obtain ⟨ub,uc,hu⟩:=jG rL
  have Nu:Rd H3 ob us:=.inl Bs
  have K3:((fM es m q).getD v []).length≤q:=by rw [jg G5];exact kK
  repeat' (refine WO.n rfl ?_;(first|refine bu ?_|refine aZ ?_|refine gx ?_))
  refine WO.n rfl ?_
  have Ri:bA (aw H3 nx3 [.int .i64 (q:Int)]) (ob + 1) (nx3 + 1) 1 u ((fM es m q).getD v []).length (((fM es m q).getD v []).map (.int .i64)):=rL.vh (fun b _ hb=>by rw [ai,if_neg (by omega)]) (Nat.le_succ _)
  refine aH.wZ rfl rfl Ri (dT Rd.self rfl) (by omega) (by omega) rfl (by unfold small;omega) (by unfold small;omega) ?_
  intro H4 k1 k2
  have PV:∀b,b < nx3→bj u≠some b→ak H4 (at_ b)=ak H3 (at_ b):=by
   intro b hb cy
   rw [k2 b (by omega) (fun c z k e=>cy (by
    obtain ⟨_,⟨rfl,_⟩|⟨d,rfl,_⟩⟩:=rL
    ·cases e
    ·cases e;rfl)),ai,if_neg (by omega)]
  have L0:=(O2.frame (H':=aw H3 nx3 [.int .i64 (q:Int)]) (nx':=nx3 + 1) (by rw [ai,if_neg (by omega)]) (fun b _ hb=>by rw [ai,if_neg (by omega)]) (Nat.le_succ _)).push (x:=(q:Int)) (H1:=H4) (by rw [cU];exact G5) (by rw [ai,if_neg (by omega)];exact Bs) G6 (by omega) (by omega) k1
   (fun b h1 h2 cy=>k2 b h2 (fun c z k e=>cy (by
    obtain ⟨_,⟨rfl,_⟩|⟨d,rfl,_⟩⟩:=rL
    ·cases e
    ·cases e;rfl)))
  have iT:∀b,b≤ob→ak H4 (at_ b)=ak H3 (at_ b):=fun b hb=>PV b (by omega) (fun e=>by have:=(qT rL e).1;omega)
  have aaI:ak H4 (at_ ob)=some (.cells us):=(iT ob (Nat.le_refl _)).trans Bs
  have aaJ:us.length=m:=kI
  repeat' (first|((first|refine WO.n rfl ?_|refine WO.k rfl ?_);(first|refine aK ?_|refine aZ ?_|refine fj ?_|refine bO ?_))|with_reducible (first|refine WO.nil ?_|refine WC.aa ?_|refine aC ?_|refine eT ?_|refine kf ?_))
  refine ⟨q + 1,by omega,.cons rfl aW,by omega,by omega,?_,fun b hb=>?_,?_⟩
  ·rw [xq G5 hv]
   have e0:0 + v * 1=v:=by omega
   first|exact L0|(rw [e0];exact L0)
  ·rw [ai,if_neg (by omega),iT b (by omega)];exact lk b hb
  ·refine Rd.skip (by omega) ?_
   unfold Rd
   rw [iT nb (by omega)]
   exact aaH
 ·have:q=2 * es.length:=by omega
  subst this
  exact aN _ _ _ aW xp a7 hU
theorem xr {f:FuncId} (hf:A.funcs f=some xe) (hh:∀vs H nx,A.aF f vs H nx=none) (yS:A.funcs 60=some mF) (lh:∀vs H nx,A.aF 60 vs H nx=none)
  {n:Int} {m:Nat} {ev:Value} {es:List Ed} (hm:jF n es) (fB:n=(m:Int)) (he:bS H nx 2 a5 ev es) :
  WF A f [.agg #[.int .i64 n,ev]] H nx fun v H' nx'=>∃ob oc,v=.slice (some ⟨ob,0,some 1⟩) m oc∧m≤au oc∧nx≤ob∧ob < nx'∧GS H' (ob + 1) nx' ob (fM es m (2 * es.length))∧an H H' nx∧nx≤nx':=by
 obtain ⟨base,ec,rfl⟩:=he.form
 have cD:=hm.2.1
 subst fB
 refine WF.enter (hh _ _ _) hf ?_
 repeat' (first|((first|refine WO.n rfl ?_|refine WO.k rfl ?_);(first|refine aK ?_|refine dD ?_|refine jN ?_|refine aJ ?_|refine mD ?_))|with_reducible (first|refine WO.nil ?_|refine WC.aa ?_|refine WC.seq ?_|refine WC.block ?_|refine aC ?_))
 have bM:an H (aw H nx [.int .i64 (m:Int),.slice base es.length ec]) nx:=an.refl.set (Nat.le_refl _)
 refine WC.sub aW (ouL (nb:=nx) (ob:=nx + 1) yS lh hm rfl he (by omega) (by omega) (bM.set (by omega)) (Rd.skip (by omega) Rd.self) (GS.zero aq) (fun σ H2 nx2 hσ hg bL eW=>?_))
 refine eh (aC (WC.sub hσ ?_))
 repeat' (first|(refine WO.k rfl ?_;refine aK ?_)|with_reducible (first|refine WO.nil ?_|refine WC.aa ?_|refine WC.seq ?_|refine WC.ret ?_|refine aC ?_))
 exact az (vs:=[_]) rfl ⟨nx + 1,_,rfl,by rw [cw];omega,by omega,by omega,hg,bL,by omega⟩
theorem owI {n:Int} {m nb ob pb e:Nat} {es:List Ed} {base:Option Addr} {ec oc:Nat} {H0:Heap}
  (hm:jF n es) (fB:n=(m:Int)) (he:e < es.length) (th:nb < ob) (Cm:ob < pb) (hpx:pb < nx) (hs:an H0 H nb) (jJ:Rd H nb [.int .i64 n,.slice base es.length ec])
  (lX:Rd H pb [.int .i64 n,.slice base es.length ec,.slice (some ⟨ob,0,some 1⟩) m oc])
  (hg:GS H (pb + 1) nx ob (fM es m (2 * e)))
  (aN:∀σ H' nx',bg [(S1,.pointer (some ⟨nb,0,none⟩)),(S3,.pointer (some ⟨pb,0,none⟩)),(nu,.slice base es.length ec),(oq,.int .i64 ((es.length:Nat):Int)),(nw,.int .i64 ((e:Nat):Int))] σ→GS H' (pb + 1) nx' ob (fM es m (2 * e + 2))→an H0 H' nb→Rd H' nb [.int .i64 n,.slice base es.length ec]→Rd H' pb [.int .i64 n,.slice base es.length ec,.slice (some ⟨ob,0,some 1⟩) m oc]→nx≤nx'→Q (.exit 2) σ H' nx') :
  WC A (.loop Qu) [(S1,.pointer (some ⟨nb,0,none⟩)),(S3,.pointer (some ⟨pb,0,none⟩)),(nu,.slice base es.length ec),(oq,.int .i64 ((es.length:Nat):Int)),(nw,.int .i64 ((e:Nat):Int)),(S4,.int .i64 ((e:Nat):Int)),(sf,.agg ⟨a5 es[e]⟩),(rG,.int .i64 0)] H nx Q:=by
 have dP:=hm.2.2.1
 have cD:=hm.2.1
 refine WC.loop (α:=Nat) (fun d=>[(S1,.pointer (some ⟨nb,0,none⟩)),(S3,.pointer (some ⟨pb,0,none⟩)),(nu,.slice base es.length ec),(oq,.int .i64 ((es.length:Nat):Int)),(nw,.int .i64 ((e:Nat):Int)),(S4,.int .i64 ((e:Nat):Int)),(sf,.agg ⟨a5 es[e]⟩),(rG,.int .i64 ((d:Nat):Int))])
  (fun d H' nx'=>d≤2∧nx≤nx'∧GS H' (pb + 1) nx' ob (fM es m (2 * e + d))∧an H0 H' nb∧Rd H' nb [.int .i64 n,.slice base es.length ec]∧Rd H' pb [.int .i64 n,.slice base es.length ec,.slice (some ⟨ob,0,some 1⟩) m oc]) (fun d=>2 - d)
  ?_ 0 aW ⟨Nat.zero_le _,Nat.le_refl _,hg,hs,jJ,lX⟩
 rintro d H1 aT ⟨hd,hU,xp,a7,eO,vX⟩
 have hc:d < 2→(a5 es[e])[d * 1]?=some (.int .i64 (cq es (2 * e + d))):=by
  intro cf
  have qE:es.getD e (0,0)=es[e]:=by rw [List.getD_eq_getElem?_getD,List.getElem?_eq_getElem he];rfl
  rcases (show d=0∨d=1 by omega) with rfl|rfl
  ·unfold cq;rw [if_pos (by omega),show (2 * e + 0) / 2=e by omega,qE];rfl
  ·unfold cq;rw [if_neg (by omega),show (2 * e + 1) / 2=e by omega,qE];rfl
 unfold Qu
 repeat' (first|((first|refine WO.n rfl ?_|refine WO.k rfl ?_);(refine ei (fun h=>?_) (fun h=>?_)<;>(try simp only [Int.ofNat_eq_natCast] at h)))|with_reducible (first|refine WO.nil ?_|refine WC.aa ?_|refine WC.seq ?_|refine WC.skip ?_|refine WC.exit ?_|refine WC.block ?_)|refine WC.aB rfl ?_|refine WC.ax rfl ?_|with_reducible (first|refine aC ?_|refine dQ ?_))
 ·have cf:2 * e + d < 2 * es.length:=by omega
  have hc':=hc (by omega)
  clear hc
  obtain ⟨v,hv,hvn⟩:=qU hm cf
  have G5:v < m:=by omega
  rw [hv] at hc'
  obtain ⟨us,u,kI,Bs,G6,rL⟩:=xp.row (v:=v) (by rw [cU];exact G5)
  rw [cU] at kI
  obtain ⟨ub,uc,hu⟩:=jG rL
  have Nu:Rd H1 ob us:=.inl Bs
  have K3:((fM es m (2 * e + d)).getD v []).length≤2 * e + d:=by rw [jg G5];exact kK
  repeat' (first|((first|refine WO.n rfl ?_|refine WO.k rfl ?_);(first|refine aK ?_|refine dD ?_|refine aJ ?_|refine bu ?_|refine aZ ?_|refine gx ?_|refine UP ?_|refine bO ?_|refine qL ?_|refine jC ?_))|with_reducible (first|refine WO.nil ?_|refine WC.drawn ?_|refine aC ?_))
  refine WO.na rfl ?_
  have Ri:bA (aw H1 aT [.int .i64 ((2 * e + d:Nat):Int)]) (pb + 1) (aT + 1) 1 u ((fM es m (2 * e + d)).getD v []).length (((fM es m (2 * e + d)).getD v []).map (.int .i64)):=rL.vh (fun b _ hb=>by rw [ai,if_neg (by omega)]) (Nat.le_succ _)
  refine aH.wZ rfl rfl Ri (dT Rd.self rfl) (by omega) (by omega) rfl (by unfold small;omega) (by unfold small;omega) ?_
  intro H4 k1 k2
  have PV:∀b,b < aT→bj u≠some b→ak H4 (at_ b)=ak H1 (at_ b):=by
   intro b hb cy
   rw [k2 b (by omega) (fun c z k e=>cy (by
    obtain ⟨_,⟨rfl,_⟩|⟨d,rfl,_⟩⟩:=rL
    ·cases e
    ·cases e;rfl)),ai,if_neg (by omega)]
  have L0:=(xp.frame (H':=aw H1 aT [.int .i64 ((2 * e + d:Nat):Int)]) (nx':=aT + 1) (by rw [ai,if_neg (by omega)]) (fun b _ hb=>by rw [ai,if_neg (by omega)]) (Nat.le_succ _)).push (x:=((2 * e + d:Nat):Int)) (H1:=H4) (by rw [cU];exact G5) (by rw [ai,if_neg (by omega)];exact Bs) G6 (by omega) (by omega) k1
   (fun b h1 h2 cy=>k2 b h2 (fun c z k e=>cy (by
    obtain ⟨_,⟨rfl,_⟩|⟨d,rfl,_⟩⟩:=rL
    ·cases e
    ·cases e;rfl)))
  have iT:∀b,b≤pb→ak H4 (at_ b)=ak H1 (at_ b):=fun b hb=>PV b (by omega) (fun e=>by have:=(qT rL e).1;omega)
  have aaI:ak H4 (at_ ob)=some (.cells us):=(iT ob (by omega)).trans Bs
  have VV:Rd H4 pb [.int .i64 n,.slice base es.length ec,.slice (some ⟨ob,0,some 1⟩) m oc]:=by
   unfold Rd
   rw [iT pb (Nat.le_refl _)]
   exact vX
  have aaJ:us.length=m:=kI
  refine ⟨a6.look rfl VV rfl rfl (by simp [jK,ey]) .nil,?_⟩
  repeat' (first|((first|refine WO.n rfl ?_|refine WO.k rfl ?_);(first|refine aK ?_|refine aZ ?_|refine fj ?_|refine bO ?_))|with_reducible (first|refine WO.nil ?_|refine WC.aa ?_|refine aC ?_|refine eT ?_|refine kf ?_))
  refine ⟨d + 1,by omega,.cons rfl aW,by omega,by omega,?_,fun b hb=>?_,?_,Rd.skip (by omega) VV⟩
  ·rw [show 2 * e + (d + 1)=2 * e + d + 1 by omega,xq G5 hv]
   have e0:0 + v * 1=v:=by omega
   first|exact L0|(rw [e0];exact L0)
  ·rw [ai,if_neg (by omega),iT b (by omega)];exact a7 b hb
  ·refine Rd.skip (by omega) ?_
   unfold Rd
   rw [iT nb (by omega)]
   exact eO
 ·have:d=2:=by omega
  subst this
  exact aN _ _ _ aW xp a7 eO vX hU
theorem owO {n:Int} {m nb ob pb:Nat} {es:List Ed} {base:Option Addr} {ec oc:Nat} {H0:Heap}
  (hm:jF n es) (fB:n=(m:Int)) (he:bS H0 nb 2 a5 (.slice base es.length ec) es) (th:nb < ob) (Cm:ob < pb) (hpx:pb < nx) (hs:an H0 H nb) (jJ:Rd H nb [.int .i64 n,.slice base es.length ec])
  (lX:Rd H pb [.int .i64 n,.slice base es.length ec,.slice (some ⟨ob,0,some 1⟩) m oc])
  (hg:GS H (pb + 1) nx ob (fM es m 0))
  (aN:∀σ H' nx',bg [(S3,.pointer (some ⟨pb,0,none⟩))] σ→GS H' (pb + 1) nx' ob (fM es m (2 * es.length))→an H0 H' nb→Rd H' pb [.int .i64 n,.slice base es.length ec,.slice (some ⟨ob,0,some 1⟩) m oc]→nx≤nx'→Q (.exit 0) σ H' nx') :
  WC A (.loop Qv) [(S1,.pointer (some ⟨nb,0,none⟩)),(S3,.pointer (some ⟨pb,0,none⟩)),(nu,.slice base es.length ec),(oq,.int .i64 ((es.length:Nat):Int)),(nw,.int .i64 0)] H nx Q:=by
 have dP:=hm.2.2.1
 have cD:=hm.2.1
 refine WC.loop (α:=Nat) (fun e=>[(S1,.pointer (some ⟨nb,0,none⟩)),(S3,.pointer (some ⟨pb,0,none⟩)),(nu,.slice base es.length ec),(oq,.int .i64 ((es.length:Nat):Int)),(nw,.int .i64 ((e:Nat):Int))])
  (fun e H' nx'=>e≤es.length∧nx≤nx'∧GS H' (pb + 1) nx' ob (fM es m (2 * e))∧an H0 H' nb∧Rd H' nb [.int .i64 n,.slice base es.length ec]∧Rd H' pb [.int .i64 n,.slice base es.length ec,.slice (some ⟨ob,0,some 1⟩) m oc]) (fun e=>es.length - e)
  ?_ 0 aW ⟨Nat.zero_le _,Nat.le_refl _,hg,hs,jJ,lX⟩
 rintro e H1 aT ⟨hd,hU,xp,a7,eO,vX⟩
 unfold Qv
 repeat' (first|((first|refine WO.n rfl ?_|refine WO.k rfl ?_);(refine ei (fun h=>?_) (fun h=>?_)<;>(try simp only [Int.ofNat_eq_natCast] at h)))|with_reducible (first|refine WO.nil ?_|refine WC.aa ?_|refine WC.seq ?_|refine WC.skip ?_|refine WC.exit ?_|refine WC.block ?_)|refine WC.aB rfl ?_|refine WC.ax rfl ?_|with_reducible (first|refine aC ?_|refine dQ ?_))
 ·have cf:e < es.length:=by omega
  obtain ⟨eb,eo,Q7,rfl,Br,_,_,Nl,xk⟩:=he.at (by intro e';rw [e'] at cf;simp at cf)
  have q3:=xk e _ (List.getElem?_eq_getElem cf)
  have VL:=a7.rd Br Nl
  repeat' (first|((first|refine WO.n rfl ?_|refine WO.k rfl ?_);(first|refine aK ?_|refine sE ?_|refine aJ ?_|refine MT ?_|refine aZ ?_|refine fL ?_))|with_reducible (first|refine WO.nil ?_|refine WC.aa ?_|refine WC.seq ?_|refine WC.block ?_|refine aC ?_))
  refine WC.sub aW (owI (nb:=nb) (ob:=ob) (pb:=pb) (e:=e) (H0:=H0) hm fB cf th Cm (by omega) ((a7.set (by omega)).set (by omega)) (Rd.skip (by omega) (Rd.skip (by omega) eO)) (Rd.skip (by omega) (Rd.skip (by omega) vX)) (xp.frame (by rw [ai,if_neg (by omega),ai,if_neg (by omega)]) (fun b _ hb=>by rw [ai,if_neg (by omega),ai,if_neg (by omega)]) (Nat.le_succ _)) (fun σ H2 nx2 hσ KS bL lS aaK eW=>?_))
  refine eh (eT (aC (WC.sub hσ ?_)))
  repeat' (first|((first|refine WO.n rfl ?_|refine WO.k rfl ?_);(first|refine aK ?_|refine bO ?_))|with_reducible (first|refine WO.nil ?_|refine WC.aa ?_))
  exact ⟨e + 1,by omega,.cons rfl aW,by omega,by omega,KS,bL,lS,aaK⟩
 ·have:e=es.length:=by omega
  subst this
  exact aN _ _ _ aW xp a7 vX hU
theorem G7 {es:List Ed} {m:Nat}:fM es m 0=List.replicate m []:=by
 apply List.ext_getElem?
 intro i
 by_cases hi:i < m
 ·rw [mL hi,List.getElem?_replicate,if_pos hi];rfl
 ·rw [List.getElem?_eq_none (by rw [cU];omega),List.getElem?_eq_none (by simp;omega)]
theorem BC {f:FuncId} (hf:A.funcs f=some J9) (hh:∀vs H nx,A.aF f vs H nx=none)
  {n:Int} {m:Nat} {ev:Value} {es:List Ed} (hm:jF n es) (fB:n=(m:Int)) (he:bS H nx 2 a5 ev es) :
  WF A f [.agg #[.int .i64 n,ev]] H nx fun v H' nx'=>∃ob oc pb,v=.pointer (some ⟨pb,0,none⟩)∧m≤au oc∧nx≤ob∧ob < pb∧pb < nx'∧Rd H' pb [.int .i64 n,ev,.slice (some ⟨ob,0,some 1⟩) m oc]∧GS H' (pb + 1) nx' ob (fM es m (2 * es.length))∧an H H' nx∧nx≤nx':=by
 obtain ⟨base,ec,rfl⟩:=he.form
 have cD:=hm.2.1
 subst fB
 refine WF.enter (hh _ _ _) hf ?_
 repeat' (first|((first|refine WO.n rfl ?_|refine WO.k rfl ?_);(first|refine aK ?_|refine dD ?_|refine cM ?_|refine jN ?_|refine r9 ?_|refine aJ ?_|refine mD ?_))|with_reducible (first|refine WO.nil ?_|refine WC.aa ?_|refine WC.drawn ?_|refine WC.seq ?_|refine WC.block ?_|refine aC ?_|refine kf ?_))
 have bM:an H (aw H nx [.int .i64 (m:Int),.slice base es.length ec]) nx:=an.refl.set (Nat.le_refl _)
 refine WC.sub aW (owO (nb:=nx) (ob:=nx + 1) (pb:=nx + 1 + 1) (oc:=2 * m + 1) hm rfl he (by omega) (by omega) (by omega) ((bM.set (by omega)).set (by omega)) (Rd.skip (by omega) (Rd.skip (by omega) Rd.self)) Rd.self (by rw [G7];exact (GS.zero (bz (by omega) aq))) (fun σ H2 nx2 hσ hg bL lX eW=>?_))
 refine eh (aC (WC.sub hσ ?_))
 repeat' (first|(refine WO.k rfl ?_;refine aK ?_)|with_reducible (first|refine WO.nil ?_|refine WC.aa ?_|refine WC.seq ?_|refine WC.ret ?_|refine aC ?_))
 exact az (vs:=[_]) rfl ⟨nx + 1,_,nx + 1 + 1,rfl,by rw [cw];omega,by omega,by omega,by omega,lX,hg,bL,by omega⟩
end Go.Eng
