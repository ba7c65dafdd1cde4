import Derived.Test.YtfejkbfafacdcaaGreatWa
/- Walks over the program: part 2. -/

namespace Go.Eng
variable {A:aG} {H H':Heap} {nx nx':Nat} {σ:aP} {Q:cw}
set_option maxRecDepth 100000
theorem sS {r:List (List Int)} {v k:Nat} (hk:k < (r.getD v []).length):(r.getD v [])[k]?=some (gU r v k):=by
 unfold gU
 rw [List.getD_eq_getElem?_getD (l:=r.getD v []),List.getElem?_eq_getElem hk];rfl
theorem nxI {n:Int} {es:List Ed} {r:List (List Int)} {nb lb v:Nat} {ib:Option Addr} {ic lc:Nat} {rv:Value} {H0:Heap} {l:List Int} (g:bY n es r)
  (hi:bP H0 nb 1 aW (.slice ib (r.getD v []).length ic) (r.getD v [])) (hv:v < r.length) (oG:(r.getD v []).length≤1048576) (eB:es.length≤4000) (Cn:v≤1048576)
  (hl:au H lb l) (ua:kh bT es r v 0 l) (ym:nb≤lb) (p5:lb < nx) (bN:an H0 H nb)
  (aC:∀σ H' nx' l',aT [(S5,.slice (some ⟨lb,0,some 1⟩) (2 * es.length) lc),(iI,rv),(iB,.int .i64 ((r.length:Nat):Int)),(ko,.int .i64 ((v:Nat):Int))] σ→
   kh bT es r v (dG r v) l'→au H' lb l'→an H0 H' nb→nx≤nx'→Q (.exit 2) σ H' nx') :
  WC A (.loop P0) [(S5,.slice (some ⟨lb,0,some 1⟩) (2 * es.length) lc),(iI,rv),(iB,.int .i64 ((r.length:Nat):Int)),(ko,.int .i64 ((v:Nat):Int)),(S7,.slice ib (r.getD v []).length ic),(nF,.slice ib (r.getD v []).length ic),(va,.int .i64 (((r.getD v []).length:Nat):Int)),(sL,.int .i64 0)] H nx Q:=by
 refine WC.loop (α:=Nat×List Int) (fun k=>[(S5,.slice (some ⟨lb,0,some 1⟩) (2 * es.length) lc),(iI,rv),(iB,.int .i64 ((r.length:Nat):Int)),(ko,.int .i64 ((v:Nat):Int)),(S7,.slice ib (r.getD v []).length ic),(nF,.slice ib (r.getD v []).length ic),(va,.int .i64 (((r.getD v []).length:Nat):Int)),(sL,.int .i64 ((k.1:Nat):Int))])
  (fun k H' nx'=>k.1≤(r.getD v []).length∧nx≤nx'∧kh bT es r v k.1 k.2∧au H' lb k.2∧an H0 H' nb) (fun k=>(r.getD v []).length - k.1)
  ?_ (0,l) aN ⟨Nat.zero_le _,Nat.le_refl _,ua,hl,bN⟩
 rintro ⟨k,l1⟩ H1 aY ⟨hk,b9,sT,gx,aQ⟩
 simp only at hk sT gx ⊢
 have By:=sT.1
 have F7:ao H1 (at_ lb)=some (.cells (l1.map (.int .i64))):=gx
 unfold P0
 repeat' (first|((first|refine WO.n rfl ?_|refine WO.k rfl ?_);(refine dt (fun h=>?_) (fun h=>?_)<;>(try simp only [Int.ofNat_eq_natCast] at h)))|with_reducible (first|refine WO.nil ?_|refine WC.aa ?_|refine WC.seq ?_|refine WC.skip ?_|refine WC.exit ?_|refine WC.block ?_)|refine WC.ax rfl ?_|refine WC.ay rfl ?_|with_reducible (first|refine aA ?_|refine ef ?_))
 ·have bF:k < (r.getD v []).length:=by omega
  have F2:k < dG r v:=bF
  obtain ⟨bb,bo,D7,rfl,ou,_,_,qU,oy⟩:=hi.at (by intro e;rw [e] at bF;simp at bF)
  have q1:=en (v:=.int .i64 (gU r v k)) (oy k _ (sS bF))
  have Ax:(k + 1) % (r.getD v []).length < (r.getD v []).length:=Nat.mod_lt _ (by omega)
  have q2:=en (v:=.int .i64 (gU r v ((k + 1) % (r.getD v []).length))) (oy _ _ (sS Ax))
  have sf:=aQ.rd ou qU
  have bS:=sT.step g AQ (fun a ha=>de ha) hv F2
  obtain ⟨p1,p2,_⟩:=g.ok v k hv F2
  generalize hx:gU r v k=x at q1 bS p1 p2
  obtain ⟨w,rfl⟩:∃w:Nat,x=(w:Int):=⟨x.toNat,by omega⟩
  rw [Int.toNat_natCast] at bS
  have yt:w < 2 * es.length:=by omega
  have Mg:=de yt
  repeat' (first|((first|refine WO.n rfl ?_|refine WO.k rfl ?_);(first|refine aK ?_|refine cH ?_|refine bj ?_|refine aZ ?_|refine ep ?_|refine ba ?_|refine sa ?_|refine OW ?_))|with_reducible (first|refine WO.nil ?_|refine WC.aa ?_|refine aA ?_|refine dY ?_))
  refine ⟨(k + 1,l1.set (bT w) (gU r v ((k + 1) % dG r v))),by show (r.getD v []).length - (k + 1) < (r.getD v []).length - k;omega,.cons rfl aN,by show k + 1≤_;omega,by omega,bS,?_,aQ.set (by omega)⟩
  show au (aI H1 lb _) lb _
  unfold au
  rw [aw,List.map_set]
  congr 3
  first|done|rfl|omega
 ·have:k=(r.getD v []).length:=by omega
  subst this
  exact aC _ _ _ l1 aN sT gx aQ b9
theorem nxO {n:Int} {es:List Ed} {r:List (List Int)} {nb lb:Nat} {bu:Option Addr} {rc lc:Nat} {H0:Heap} {l:List Int} (g:bY n es r)
  (hr:dZ H0 nb 1 aW (.slice bu r.length rc) r) (cD:bX r) (eB:es.length≤4000)
  (hl:au H lb l) (ua:kh bT es r 0 0 l) (ym:nb≤lb) (p5:lb < nx) (bN:an H0 H nb)
  (aC:∀σ H' nx' l',aT [(S5,.slice (some ⟨lb,0,some 1⟩) (2 * es.length) lc)] σ→
   eW es r l'→au H' lb l'→an H0 H' nb→nx≤nx'→Q (.exit 0) σ H' nx') :
  WC A (.loop P1) [(S5,.slice (some ⟨lb,0,some 1⟩) (2 * es.length) lc),(iI,.slice bu r.length rc),(iB,.int .i64 ((r.length:Nat):Int)),(ko,.int .i64 0)] H nx Q:=by
 refine WC.loop (α:=Nat×List Int) (fun v=>[(S5,.slice (some ⟨lb,0,some 1⟩) (2 * es.length) lc),(iI,.slice bu r.length rc),(iB,.int .i64 ((r.length:Nat):Int)),(ko,.int .i64 ((v.1:Nat):Int))])
  (fun v H' nx'=>v.1≤r.length∧nx≤nx'∧kh bT es r v.1 0 v.2∧au H' lb v.2∧an H0 H' nb) (fun v=>r.length - v.1)
  ?_ (0,l) aN ⟨Nat.zero_le _,Nat.le_refl _,ua,hl,bN⟩
 rintro ⟨v,l1⟩ H1 aY ⟨hv,b9,sT,gx,aQ⟩
 simp only at hv sT gx ⊢
 have oV:=cD.1
 unfold P1
 repeat' (first|((first|refine WO.n rfl ?_|refine WO.k rfl ?_);(refine dt (fun h=>?_) (fun h=>?_)<;>(try simp only [Int.ofNat_eq_natCast] at h)))|with_reducible (first|refine WO.nil ?_|refine WC.aa ?_|refine WC.seq ?_|refine WC.skip ?_|refine WC.exit ?_|refine WC.block ?_)|refine WC.ax rfl ?_|refine WC.ay rfl ?_|with_reducible (first|refine aA ?_|refine ef ?_))
 ·have qV:v < r.length:=by omega
  have jA:r.getD v []=r[v]:=by rw [List.getD_eq_getElem?_getD,List.getElem?_eq_getElem qV];rfl
  obtain ⟨rb,ro,vO,ib,ic,rfl,jo,iP,iD,hi⟩:=hr.at qV
  rw [← jA] at iD hi
  have kg:=aQ.rd jo iP
  repeat' (first|((first|refine WO.n rfl ?_|refine WO.k rfl ?_);(first|refine aK ?_|refine cH ?_|refine bj ?_|refine aZ ?_))|with_reducible (first|refine WO.nil ?_|refine WC.aa ?_|refine WC.seq ?_|refine WC.block ?_|refine aA ?_))
  refine WC.sub aN (nxI g hi qV (cD.row v) eB (by omega) gx sT ym (by omega) aQ (fun σ H2 nx2 l2 hσ RI lX dk fq=>?_))
  refine ew (dY (aA (WC.sub hσ ?_)))
  repeat' (first|((first|refine WO.n rfl ?_|refine WO.k rfl ?_);(first|refine aK ?_|refine ba ?_))|with_reducible (first|refine WO.nil ?_|refine WC.aa ?_))
  exact ⟨(v + 1,l2),by show r.length - (v + 1) < r.length - v;omega,.cons rfl aN,by show v + 1≤_;omega,by omega,RI.row,lX,dk⟩
 ·have:v=r.length:=by omega
  subst this
  exact aC _ _ _ l1 aN sT.all gx aQ b9
theorem CM {f:FuncId} (hf:A.funcs f=some qQ) (hh:∀vs H nx,A.aH f vs H nx=none)
  {n:Int} {ev rv:Value} {es:List Ed} {r:List (List Int)} (g:bY n es r) (he:bP H nx 2 bH ev es) (hr:dZ H nx 1 aW rv r) (cD:bX r) (eB:es.length≤4000) :
  WF A f [.agg #[.int .i64 n,ev],rv] H nx fun v H' nx'=>∃b c l,v=.slice (some ⟨b,0,some 1⟩) (2 * es.length) c∧2 * es.length≤aE c∧nx≤b∧b < nx'∧eW es r l∧au H' b l∧an H H' nx:=by
 obtain ⟨base,ec,rfl⟩:=he.form
 obtain ⟨bu,rc,rfl⟩:=hr.form
 refine WF.enter (hh _ _ _) hf ?_
 repeat' (first|((first|refine WO.n rfl ?_|refine WO.k rfl ?_);(first|refine aK ?_|refine cI ?_|refine cH ?_|refine jL ?_|refine aJ ?_|refine mI ?_|refine qN ?_))|with_reducible (first|refine WO.nil ?_|refine WC.aa ?_|refine WC.seq ?_|refine WC.block ?_|refine aA ?_))
 have bg:an H (aI H nx [.int .i64 n,.slice base es.length ec]) nx:=an.refl.set (Nat.le_refl _)
 refine WC.sub aN (nxO (nb:=nx) (lb:=nx + 1) g hr cD eB (er aw) (.zero (by simp)) (by omega) (by omega) (bg.set (by omega)) (fun σ H2 nx2 l2 hσ lX Qm bI fq=>?_))
 refine ew (aA (WC.sub hσ ?_))
 repeat' (first|(refine WO.k rfl ?_;refine aK ?_)|with_reducible (first|refine WO.nil ?_|refine WC.aa ?_|refine WC.seq ?_|refine WC.ret ?_|refine aA ?_))
 exact az (vs:=[_]) rfl ⟨_,_,l2,rfl,by rw [dp];omega,by omega,by omega,lX,Qm,bI⟩
theorem ntI {n:Int} {es:List Ed} {r:List (List Int)} {nb lb v:Nat} {bu:Option Addr} {rc lc:Nat} {H0:Heap} {l:List Int} (g:bY n es r)
  (hr:dZ H0 nb 1 aW (.slice bu r.length rc) r) (hv:v < r.length) (oG:(r.getD v []).length≤1048576) (eB:es.length≤4000) (Cn:v≤1048576)
  (hl:au H lb l) (ua:kh id es r v 0 l) (ym:nb≤lb) (p5:lb < nx) (bN:an H0 H nb)
  (aC:∀σ H' nx' l',aT [(S1,.slice bu r.length rc),(S5,.slice (some ⟨lb,0,some 1⟩) (2 * es.length) lc),(S6,.int .i64 ((v:Nat):Int))] σ→
   kh id es r v (dG r v) l'→au H' lb l'→an H0 H' nb→nx≤nx'→Q (.exit 2) σ H' nx') :
  WC A (.loop PA) [(S1,.slice bu r.length rc),(S5,.slice (some ⟨lb,0,some 1⟩) (2 * es.length) lc),(S6,.int .i64 ((v:Nat):Int)),(S7,.int .i64 0)] H nx Q:=by
 refine WC.loop (α:=Nat×List Int) (fun k=>[(S1,.slice bu r.length rc),(S5,.slice (some ⟨lb,0,some 1⟩) (2 * es.length) lc),(S6,.int .i64 ((v:Nat):Int)),(S7,.int .i64 ((k.1:Nat):Int))])
  (fun k H' nx'=>k.1≤(r.getD v []).length∧nx≤nx'∧kh id es r v k.1 k.2∧au H' lb k.2∧an H0 H' nb) (fun k=>(r.getD v []).length - k.1)
  ?_ (0,l) aN ⟨Nat.zero_le _,Nat.le_refl _,ua,hl,bN⟩
 rintro ⟨k,l1⟩ H1 aY ⟨hk,b9,sT,gx,aQ⟩
 simp only at hk sT gx ⊢
 have By:=sT.1
 have F7:ao H1 (at_ lb)=some (.cells (l1.map (.int .i64))):=gx
 have jA:r.getD v []=r[v]:=by rw [List.getD_eq_getElem?_getD,List.getElem?_eq_getElem hv];rfl
 obtain ⟨rb,ro,vO,ib,ic,rfl,jo,iP,iD,hi⟩:=hr.at hv
 rw [← jA] at iD hi
 have kg:=aQ.rd jo iP
 unfold PA
 repeat' (first|((first|refine WO.n rfl ?_|refine WO.k rfl ?_);(first|refine cH ?_|refine bj ?_|refine aZ ?_|(refine dt (fun h=>?_) (fun h=>?_)<;>(try simp only [Int.ofNat_eq_natCast] at h))))|with_reducible (first|refine WO.nil ?_|refine WC.aa ?_|refine WC.drawn ?_|refine WC.seq ?_|refine WC.skip ?_|refine WC.exit ?_|refine WC.block ?_)|refine WC.ax rfl ?_|refine WC.ay rfl ?_|with_reducible (first|refine aA ?_|refine ef ?_))
 ·have bF:k < (r.getD v []).length:=by omega
  have F2:k < dG r v:=bF
  obtain ⟨bb,bo,D7,rfl,ou,_,_,qU,oy⟩:=hi.at (by intro e;rw [e] at bF;simp at bF)
  have q1:=en (v:=.int .i64 (gU r v k)) (oy k _ (sS bF))
  have Ax:(k + 1) % (r.getD v []).length < (r.getD v []).length:=Nat.mod_lt _ (by omega)
  have q2:=en (v:=.int .i64 (gU r v ((k + 1) % (r.getD v []).length))) (oy _ _ (sS Ax))
  have sf:=aQ.rd ou qU
  have bS:=sT.step g (fun _ _ h=>h) (fun a ha=>ha) hv F2
  obtain ⟨p1,p2,_⟩:=g.ok v k hv F2
  generalize hx:gU r v k=x at q1 bS p1 p2
  obtain ⟨w,rfl⟩:∃w:Nat,x=(w:Int):=⟨x.toNat,by omega⟩
  rw [Int.toNat_natCast] at bS
  have yt:w < 2 * es.length:=by omega
  repeat' (first|((first|refine WO.n rfl ?_|refine WO.k rfl ?_);(first|refine aK ?_|refine cH ?_|refine bj ?_|refine aZ ?_|refine ep ?_|refine ba ?_|refine sa ?_))|with_reducible (first|refine WO.nil ?_|refine WC.aa ?_|refine aA ?_|refine dY ?_|refine nD ?_))
  refine ⟨(k + 1,l1.set w (gU r v ((k + 1) % dG r v))),by show (r.getD v []).length - (k + 1) < (r.getD v []).length - k;omega,.cons rfl aN,by show k + 1≤_;omega,by omega,bS,?_,aQ.set (by omega)⟩
  show au (aI H1 lb _) lb _
  unfold au
  rw [aw,List.map_set]
  congr 3
  first|done|rfl|omega
 ·have:k=(r.getD v []).length:=by omega
  subst this
  exact aC _ _ _ l1 aN sT gx aQ b9
theorem ntO {n:Int} {es:List Ed} {r:List (List Int)} {nb lb:Nat} {bu:Option Addr} {rc lc:Nat} {H0:Heap} {l:List Int} (g:bY n es r)
  (hr:dZ H0 nb 1 aW (.slice bu r.length rc) r) (cD:bX r) (eB:es.length≤4000)
  (hl:au H lb l) (ua:kh id es r 0 0 l) (ym:nb≤lb) (p5:lb < nx) (bN:an H0 H nb)
  (aC:∀σ H' nx' l',aT [(S5,.slice (some ⟨lb,0,some 1⟩) (2 * es.length) lc)] σ→
   kh id es r r.length 0 l'→au H' lb l'→an H0 H' nb→nx≤nx'→Q (.exit 0) σ H' nx') :
  WC A (.loop PB) [(S1,.slice bu r.length rc),(S5,.slice (some ⟨lb,0,some 1⟩) (2 * es.length) lc),(S6,.int .i64 0)] H nx Q:=by
 refine WC.loop (α:=Nat×List Int) (fun v=>[(S1,.slice bu r.length rc),(S5,.slice (some ⟨lb,0,some 1⟩) (2 * es.length) lc),(S6,.int .i64 ((v.1:Nat):Int))])
  (fun v H' nx'=>v.1≤r.length∧nx≤nx'∧kh id es r v.1 0 v.2∧au H' lb v.2∧an H0 H' nb) (fun v=>r.length - v.1)
  ?_ (0,l) aN ⟨Nat.zero_le _,Nat.le_refl _,ua,hl,bN⟩
 rintro ⟨v,l1⟩ H1 aY ⟨hv,b9,sT,gx,aQ⟩
 simp only at hv sT gx ⊢
 have oV:=cD.1
 unfold PB
 repeat' (first|((first|refine WO.n rfl ?_|refine WO.k rfl ?_);(first|refine aK ?_|refine cH ?_|(refine dt (fun h=>?_) (fun h=>?_)<;>(try simp only [Int.ofNat_eq_natCast] at h))))|with_reducible (first|refine WO.nil ?_|refine WC.aa ?_|refine WC.seq ?_|refine WC.skip ?_|refine WC.exit ?_|refine WC.block ?_)|refine WC.ax rfl ?_|refine WC.ay rfl ?_|with_reducible (first|refine aA ?_|refine ef ?_))
 ·have qV:v < r.length:=by omega
  refine WC.sub aN (ntI g hr qV (cD.row v) eB (by omega) gx sT ym (by omega) aQ (fun σ H2 nx2 l2 hσ RI lX dk fq=>?_))
  refine ew (dY (aA (WC.sub hσ ?_)))
  repeat' (first|((first|refine WO.n rfl ?_|refine WO.k rfl ?_);(first|refine aK ?_|refine ba ?_))|with_reducible (first|refine WO.nil ?_|refine WC.aa ?_))
  exact ⟨(v + 1,l2),by show r.length - (v + 1) < r.length - v;omega,.cons rfl aN,by show v + 1≤_;omega,by omega,RI.row,lX,dk⟩
 ·have:v=r.length:=by omega
  subst this
  exact aC _ _ _ l1 aN sT gx aQ b9
def Qn (m:Nat) (lb l:List Int) (k:Nat):Prop:=l.length=m∧∀i,i < k→l[i]?=lb[bT i]?
theorem ntL {m nb bb lb:Nat} {lc bc:Nat} {H0:Heap} {l0 l:List Int} (F8:A.funcs 35=some pE) (qW:∀vs H nx,A.aH 35 vs H nx=none)
  (hm:m≤4000) (hb:au H bb l0) (hl0:l0.length=2 * m) (hl:au H lb l) (ua:Qn (2 * m) l0 l 0) (cG:bb < lb) (vn:nb≤bb) (p5:lb < nx) (bN:an H0 H nb)
  (aC:∀σ H' nx' l',aT [(S8,.slice (some ⟨lb,0,some 1⟩) (2 * m) lc)] σ→
   Qn (2 * m) l0 l' (2 * m)→au H' lb l'→an H0 H' nb→nx≤nx'→Q (.exit 4) σ H' nx') :
  WC A (.loop PC) [(S5,.slice (some ⟨bb,0,some 1⟩) (2 * m) bc),(S8,.slice (some ⟨lb,0,some 1⟩) (2 * m) lc),(S9,.int .i64 0)] H nx Q:=by
 refine WC.loop (α:=Nat×List Int) (fun v=>[(S5,.slice (some ⟨bb,0,some 1⟩) (2 * m) bc),(S8,.slice (some ⟨lb,0,some 1⟩) (2 * m) lc),(S9,.int .i64 ((v.1:Nat):Int))])
  (fun v H' nx'=>v.1≤2 * m∧nx≤nx'∧Qn (2 * m) l0 v.2 v.1∧au H' lb v.2∧au H' bb l0∧an H0 H' nb) (fun v=>2 * m - v.1)
  ?_ (0,l) aN ⟨Nat.zero_le _,Nat.le_refl _,ua,hl,hb,bN⟩
 rintro ⟨v,l1⟩ H1 aY ⟨hv,b9,sT,gx,dJ,aQ⟩
 simp only at hv sT gx ⊢
 have By:=sT.1
 have F7:ao H1 (at_ lb)=some (.cells (l1.map (.int .i64))):=gx
 have Zn:ao H1 (at_ bb)=some (.cells (l0.map (.int .i64))):=dJ
 unfold PC
 repeat' (first|((first|refine WO.n rfl ?_|refine WO.k rfl ?_);(first|refine cH ?_|(refine dt (fun h=>?_) (fun h=>?_)<;>(try simp only [Int.ofNat_eq_natCast] at h))))|with_reducible (first|refine WO.nil ?_|refine WC.aa ?_|refine WC.seq ?_|refine WC.skip ?_|refine WC.exit ?_|refine WC.block ?_)|refine WC.ax rfl ?_|refine WC.ay rfl ?_|with_reducible (first|refine aA ?_|refine ef ?_))
 ·have qV:v < 2 * m:=by omega
  have Mg:=de qV
  have q1:=au.cell (l:=l0) (List.getElem?_eq_getElem (show bT v < l0.length by omega))
  refine WO.cn rfl ?_
  refine (wY F8 qW (h:=v) (by omega)).of ?_
  rintro _ H2 nx2 ⟨rfl,rfl,rfl⟩
  repeat' (first|((first|refine WO.n rfl ?_|refine WO.k rfl ?_);(first|refine aK ?_|refine bj ?_|refine aZ ?_|refine ep ?_|refine ba ?_))|with_reducible (first|refine WO.nil ?_|refine WC.aa ?_|refine aA ?_|refine dY ?_))
  refine ⟨(v + 1,l1.set v (l0[bT v]'(by omega))),by show 2 * m - (v + 1) < 2 * m - v;omega,.cons rfl aN,by show v + 1≤_;omega,by omega,⟨by simpa using By,fun i hi=>?_⟩,?_,?_,aQ.set (by omega)⟩
  ·show (l1.set v _)[i]?=_
   rw [List.getElem?_set]
   by_cases e:v=i
   ·subst e
    rw [if_pos rfl,if_pos (by omega),List.getElem?_eq_getElem (show bT v < l0.length by omega)]
   ·rw [if_neg e]
    exact sT.2 i (by simp only at hi;omega)
  ·show au (aI H2 lb _) lb _
   unfold au
   rw [aw,List.map_set]
   congr 3
   first|done|rfl|omega
  ·show au (aI H2 lb _) bb _
   exact cy (by omega) Zn
 ·have:v=2 * m:=by omega
  subst this
  exact aC _ _ _ l1 aN sT gx aQ b9
theorem F9 {f:FuncId} (hf:A.funcs f=some uC) (hh:∀vs H nx,A.aH f vs H nx=none) (F8:A.funcs 35=some pE) (qW:∀vs H nx,A.aH 35 vs H nx=none)
  {n:Int} {ev rv:Value} {es:List Ed} {r:List (List Int)} (g:bY n es r) (he:bP H nx 2 bH ev es) (hr:dZ H nx 1 aW rv r) (cD:bX r) (eB:es.length≤4000) :
  WF A f [.agg #[.int .i64 n,ev],rv] H nx fun v H' nx'=>∃b c l,v=.slice (some ⟨b,0,some 1⟩) (2 * es.length) c∧2 * es.length≤aE c∧nx≤b∧b < nx'∧eW es r l∧au H' b l∧an H H' nx:=by
 obtain ⟨base,ec,rfl⟩:=he.form
 obtain ⟨bu,rc,rfl⟩:=hr.form
 refine WF.enter (hh _ _ _) hf ?_
 repeat' (first|((first|refine WO.n rfl ?_|refine WO.k rfl ?_);(first|refine aK ?_|refine cI ?_|refine cH ?_|refine jL ?_|refine aJ ?_|refine mI ?_|refine qN ?_))|with_reducible (first|refine WO.nil ?_|refine WC.aa ?_|refine WC.seq ?_|refine WC.block ?_|refine aA ?_))
 have bg:an H (aI H nx [.int .i64 n,.slice base es.length ec]) nx:=an.refl.set (Nat.le_refl _)
 refine WC.sub aN (ntO (nb:=nx) (lb:=nx + 1) g hr cD eB (er aw) (.zero (by simp)) (by omega) (by omega) (bg.set (by omega)) (fun σ H2 nx2 l2 hσ lX Qm bI fq=>?_))
 refine ew (aA (WC.sub hσ ?_))
 repeat' (first|((first|refine WO.n rfl ?_|refine WO.k rfl ?_);(first|refine aK ?_|refine cH ?_|refine mI ?_))|with_reducible (first|refine WO.nil ?_|refine WC.aa ?_|refine WC.seq ?_|refine WC.block ?_|refine aA ?_))
 have By:=lX.1
 refine WC.sub aN (ntL (nb:=nx) (bb:=nx + 1) (lb:=nx2) (l0:=l2) F8 qW eB (cy (by omega) Qm) By (er aw) ⟨by simp,fun i hi=>by omega⟩ (by omega) (by omega) (by omega) (bI.set (by omega)) (fun σ H3 iY l3 hσ Qo hi3 eL se=>?_))
 refine ew (aA (WC.sub hσ ?_))
 repeat' (first|(refine WO.k rfl ?_;refine aK ?_)|with_reducible (first|refine WO.nil ?_|refine WC.aa ?_|refine WC.seq ?_|refine WC.ret ?_|refine aA ?_))
 refine az (vs:=[_]) rfl ⟨_,_,l3,rfl,by rw [dp];omega,by omega,by omega,⟨Qo.1,fun v k hv hk=>?_⟩,hi3,eL⟩
 obtain ⟨g1,g2,_⟩:=g.ok v k hv hk
 rw [Qo.2 _ (de (by omega)),fA]
 exact lX.2 v k hv hk (.inl hv)
end Go.Eng

namespace Go.Eng
def nG (nxt:List Int):Nat→List Bool→Nat→List Int→List Bool×List Int
 | 0,s,_,f=>(s,f)
 | m + 1,s,k,f=>if s.getD k true then (s,f) else nG nxt m (s.set k true) (nxt.getD k 0).toNat (f++[(k:Int)])
theorem pJ {nxt:List Int} {m k:Nat} {s:List Bool} {f:List Int} (h:s.getD k true=true):nG nxt m s k f=(s,f):=by
 cases m with
 | zero=>rfl
 | succ m=>show (if s.getD k true then (s,f) else _)=_;rw [h];rfl
theorem pK {nxt:List Int} {m k:Nat} {s:List Bool} {f:List Int} (h:s.getD k true=false):nG nxt (m + 1) s k f=nG nxt m (s.set k true) (nxt.getD k 0).toNat (f++[(k:Int)]):=by
 show (if s.getD k true then (s,f) else _)=_;rw [h];rfl
theorem count_set {s:List Bool} {k:Nat} (hk:k < s.length) (h:s[k]=false):(s.set k true).count false + 1=s.count false:=by
 induction s generalizing k with
 | nil=>simp at hk
 | cons b s ih=>
  cases k with
  | zero=>
   have hb:b=false:=h
   subst hb
   rw [List.set_cons_zero,List.count_cons_of_ne (by decide),List.count_cons_self]
  | succ k=>
   have:=ih (k:=k) (by simpa using hk) (by simpa using h)
   rw [List.set_cons_succ,List.count_cons,List.count_cons]
   omega
def mO (nxt:List Int) (st:List Bool×List (List Int)) (h:Nat):List Bool×List (List Int):=
 ((nG nxt nxt.length st.1 h []).1,if (nG nxt nxt.length st.1 h []).2=[] then st.2 else st.2++[(nG nxt nxt.length st.1 h []).2])
def aV (nxt:List Int) (k:Nat):List Bool×List (List Int):=(List.range k).foldl (mO nxt) (List.replicate nxt.length false,[])
theorem fk {nxt:List Int} {k:Nat}:aV nxt (k + 1)=mO nxt (aV nxt k) k:=by
 unfold aV
 rw [List.range_succ,List.foldl_append];rfl
def sj (r:List (List Int)) (k:Nat):List (List Int):=(r.take k).filter fun l=>l.length=0
theorem AR {r:List (List Int)} {k:Nat} (hk:k < r.length):sj r (k + 1)=if (r.getD k []).length=0 then sj r k++[[]] else sj r k:=by
 unfold sj
 have hg:r.getD k []=r[k]:=by rw [List.getD_eq_getElem?_getD,List.getElem?_eq_getElem hk];rfl
 rw [List.take_add_one,List.getElem?_eq_getElem hk,List.filter_append,hg]
 show _++List.filter _ [r[k]]=_
 by_cases e:r[k].length=0
 ·have e2:r[k]=[]:=List.eq_nil_of_length_eq_zero e
  rw [if_pos e,e2];rfl
 ·rw [if_neg e,List.filter_cons_of_neg (by simpa using e),List.filter_nil,List.append_nil]
theorem yv {r:List (List Int)} {k:Nat}:(sj r k).length≤k:=by
 unfold sj
 refine Nat.le_trans (List.length_filter_le _ _) ?_
 rw [List.length_take];omega
def kj (r:List (List Int)) (nxt:List Int):List (List Int):=(aV nxt nxt.length).2++sj r r.length
noncomputable def yw (es:List Ed) (r:List (List Int)):List Int:=open Classical in if h:∃l,eW es r l then Classical.choose h else []
theorem jb {n:Int} {es:List Ed} {r:List (List Int)} {l:List Int} (g:bY n es r) (h:eW es r l):yw es r=l:=by
 have he:∃l,eW es r l:=⟨l,h⟩
 unfold yw
 rw [dif_pos he]
 exact eW.uniq g (Classical.choose_spec he) h
noncomputable def aD (es:List Ed) (r:List (List Int)):List (List Int):=kj r (yw es r)
def LL (H:Heap) (nx0 nx:Nat) (v:Value) (fs:List (List Int)):Prop:=
 ∃us:List Value,us.length=fs.length∧bM H nx0 nx 1 v us.length us∧(∀(i:Nat) (u:Value) (f:List Int),us[i]?=some u→fs[i]?=some f→bP H nx 1 aW u f)∧∀u∈us,∀b,cf u=some b→nx0≤b∧b < nx∧cf v≠some b
section
variable {A:aG} {H H':Heap} {nx nx':Nat} {σ:aP} {L:List Value}
theorem LL.nil {nx0:Nat}:LL H nx0 nx (.slice none 0 0) []:=⟨[],rfl,.nil,fun i u f h=>by simp at h,fun u h=>by simp at h⟩
theorem LL.qL {nx0:Nat} {v:Value} {fs:List (List Int)} (h:LL H nx0 nx v fs) (hs:∀b,nx0≤b→b < nx→ao H' (at_ b)=ao H (at_ b)) (hn:nx≤nx'):LL H' nx0 nx' v fs:=by
 obtain ⟨us,h1,h2,h3,h4⟩:=h
 refine ⟨us,h1,h2.qL hs hn,fun i u f hu hf=>(h3 i u f hu hf).blk (fun b hb hl=>hs b ?_ hl) hn,fun u hu b hb=>?_⟩
 ·exact (h4 u (List.mem_of_getElem? hu) b hb).1
 ·obtain ⟨g1,g2,g3⟩:=h4 u hu b hb
  exact ⟨g1,by omega,g3⟩
theorem Ga (us:List Value):us.flatMap Ay=us:=by
 induction us with
 | nil=>rfl
 | cons u us ih=>rw [List.flatMap_cons,ih];rfl
theorem LL.UI {nx0:Nat} {v:Value} {fs:List (List Int)} (h:LL H nx0 nx v fs):dZ H nx 1 aW v fs:=by
 obtain ⟨us,h1,h2,h3,h4⟩:=h
 exact ⟨us,h1,bM.sle (enc:=Ay) (by rw [Ga];exact h2) (fun _=>rfl),h3⟩
theorem LL.blk {nx0 b:Nat} {v:Value} {fs:List (List Int)} (h:LL H nx0 nx v fs) (hb:cf v=some b):nx0≤b∧b < nx:=by
 obtain ⟨us,h1,⟨_,⟨rfl,_⟩|⟨c,rfl,g1,g2,_⟩⟩,_⟩:=h
 ·cases hb
 ·cases hb;exact ⟨g1,g2⟩
theorem LL.form {nx0:Nat} {v:Value} {fs:List (List Int)} (h:LL H nx0 nx v fs):∃b c,v=.slice b fs.length c:=by
 obtain ⟨us,h1,⟨_,⟨rfl,g⟩|⟨c,rfl,g1,g2,_⟩⟩,_⟩:=h
 ·exact ⟨_,_,by rw [← h1,g]⟩
 ·exact ⟨_,_,by rw [← h1]⟩
theorem LL.at {nx0 n c:Nat} {base:Option Addr} {fs:List (List Int)} (h:LL H nx0 nx (.slice base n c) fs) {i:Nat} (hi:i < fs.length) :
  ∃b o cs ib ic,base=some ⟨b,o,some 1⟩∧nx0≤b∧b < nx∧Rd H b cs∧cs[o + i * 1]?=some (.slice ib (fs[i]).length ic)∧bP H nx 1 aW (.slice ib (fs[i]).length ic) fs[i]∧∀q,cf (.slice ib (fs[i]).length ic)=some q→nx0≤q:=by
 obtain ⟨us,h1,⟨h2a,h2⟩,h3,h4⟩:=h
 have hu:us[i]?=some us[i]:=List.getElem?_eq_getElem (by omega)
 have hs:=h3 i _ _ hu (List.getElem?_eq_getElem hi)
 have hq:=h4 us[i] (List.getElem_mem (by omega))
 rcases h2 with ⟨_,h0⟩|⟨b,hv,g1,g2,g3⟩
 ·omega
 ·cases hv
  obtain ⟨ib,ic,he⟩:=hs.form
  rw [he] at hu hs hq
  exact ⟨b,0,us,ib,ic,rfl,g1,g2,.inl g3,by rw [Nat.zero_add,Nat.mul_one];exact hu,hs,fun q hb=>(hq q hb).1⟩
def da (H H':Heap) (lo hi:Nat):Prop:=∀b,lo≤b→b < hi→ao H' (at_ b)=ao H (at_ b)
theorem da.refl {lo hi:Nat}:da H H lo hi:=fun _ _ _=>rfl
theorem da.rd {lo hi b:Nat} {cs:List Value} (h:da H H' lo hi) (h1:lo≤b) (h2:b < hi) (hr:Rd H b cs):Rd H' b cs:=by
 unfold Rd
 rw [h b h1 h2]
 exact hr
theorem da.set {lo hi b:Nat} {cs:List Value} (h:da H H' lo hi) (hb:b < lo∨hi≤b):da H (aI H' b cs) lo hi:=fun c h1 h2=>by rw [ak,if_neg (by omega)];exact h c h1 h2
theorem da.same {H2:Heap} {lo hi:Nat} (h:da H H' lo hi) (hs:an H' H2 hi):da H H2 lo hi:=fun c h1 h2=>(hs c h2).trans (h c h1 h2)
theorem LL.JN {nx0:Nat} {v:Value} {fs:List (List Int)} (h:LL H nx0 nx v fs) (hs:da H H' nx0 nx) (hn:nx≤nx'):LL H' nx0 nx' v fs:=h.qL hs hn
theorem aM.AS {by_ nx0 q c:Nat} {zero:List Value} {s x:Od} {v u:Value} {fs:List (List Int)} {f:List Int} {K:Value→Heap→Nat→Prop} (hs:ev σ L s=some v) (hx:ev σ L x=some (.slice (some ⟨q,0,some 1⟩) 1 c)) (hq:Rd H q [u]) (hg:LL H nx0 nx v fs) (hu:bP H nx 1 aW u f) (hb:∀b,cf u=some b→nx0≤b∧b < nx∧cf v≠some b) (h0:nx0≤nx)
  (h2:(fs.length + 1) * by_≤small) (h3:fs.length + 1≤small)
  (h:∀v' H',LL H' nx0 (nx + 1) v' (fs++[f])→(∀b,b < nx→cf v≠some b→ao H' (at_ b)=ao H (at_ b))→K v' H' (nx + 1)):aM A (.app 1 by_ zero s x false) σ L H nx K:=by
 obtain ⟨us,e1,e2,e3,e4⟩:=hg
 have Ae:bZ [u]=true:=by
  obtain ⟨b',c',rfl⟩:=hu.form
  rfl
 refine aM.j1 hs hx e2 (cN hq rfl) (by omega) (by omega) Ae (by rw [e1];exact h2) (by rw [e1];exact h3) ?_
 intro H1 k1 k2
 have NO:∀b,b < nx→cf v≠some b→ao H1 (at_ b)=ao H (at_ b):=by
  intro b hb cG
  refine k2 b hb fun c' z' k' hv=>?_
  obtain ⟨_,⟨rfl,_⟩|⟨d,rfl,_⟩⟩:=e2
  ·cases hv
  ·cases hv;exact cG rfl
 refine h _ H1 ⟨us++[u],by simp [e1],⟨by simp,.inr ⟨nx,by simp,h0,by omega,k1⟩⟩,fun i w g hw hg=>?_,fun w hw b G3=>?_⟩ NO
 ·rcases Nat.lt_or_ge i us.length with hi|hi
  ·rw [List.getElem?_append_left hi] at hw
   rw [List.getElem?_append_left (by omega)] at hg
   exact (e3 i w g hw hg).blk (fun b hb hl=>NO b hl (e4 w (List.mem_of_getElem? hw) b hb).2.2) (Nat.le_succ _)
  ·rw [List.getElem?_append_right hi] at hw
   rw [List.getElem?_append_right (by omega)] at hg
   have hi0:i - us.length=0:=by
    cases h9:i - us.length with
    | zero=>rfl
    | succ m=>rw [h9] at hw;simp at hw
   rw [hi0] at hw
   rw [show i - fs.length=0 by omega] at hg
   cases hw;cases hg
   exact hu.blk (fun b ou hl=>NO b hl (hb b ou).2.2) (Nat.le_succ _)
 ·have:nx0≤b∧b < nx:=by
   rcases List.mem_append.1 hw with hw|hw
   ·exact ⟨(e4 w hw b G3).1,(e4 w hw b G3).2.1⟩
   ·rw [List.mem_singleton.1 hw] at G3
    exact ⟨(hb b G3).1,(hb b G3).2.1⟩
  refine ⟨this.1,by omega,fun e=>?_⟩
  cases e
  omega
end
end Go.Eng

namespace Go.Eng
variable {A:aG} {H H':Heap} {nx nx':Nat} {σ:aP} {Q:cw}
set_option maxRecDepth 100000
def mP (nxt:List Int):Prop:=∀i,i < nxt.length→∃q:Nat,nxt[i]?=some (q:Int)∧q < nxt.length
theorem wZ (l:List Int):l.flatMap aW=l.map (.int .i64):=by
 induction l with
 | nil=>rfl
 | cons u us ih=>rw [List.flatMap_cons,ih];rfl
theorem Ea {nx0:Nat} {v:Value} {l:List Int} (h:bM H nx0 nx 1 v l.length (l.map (.int .i64))):bP H nx 1 aW v l∧∀b,cf v=some b→nx0≤b∧b < nx:=by
 refine ⟨bM.sle (enc:=aW) (by rw [wZ];exact h) (fun _=>rfl),fun b hb=>?_⟩
 obtain ⟨_,⟨rfl,_⟩|⟨c,rfl,g1,g2,_⟩⟩:=h
 ·cases hb
 ·cases hb;exact ⟨g1,g2⟩
structure Orb (nxt:List Int) (s:List Bool) (h:Nat) (H H':Heap) (nx nx' sb:Nat) (fv:Value):Prop where
 le:nx≤nx'
 seen:bV H' sb (nG nxt nxt.length s h []).1
 len:(nG nxt nxt.length s h []).1.length=nxt.length
 aa3:bM H' nx nx' 1 fv (nG nxt nxt.length s h []).2.length ((nG nxt nxt.length s h []).2.map (.int .i64))
 NP:(nG nxt nxt.length s h []).2.length≤nxt.length
 qL:∀b,b < nx→b≠sb→ao H' (at_ b)=ao H (at_ b)
theorem Zo {nxt:List Int} {lb sb h:Nat} {lc sc:Nat} {lv:Value} {rv:Value} {s:List Bool} (hn:mP nxt) (hm:nxt.length≤8000)
  (hl:au H lb nxt) (hs:bV H sb s) (Gb:s.length=nxt.length) (hh:h < nxt.length) (cG:lb≠sb) (oa:lb < nx) (zb:sb < nx)
  (aC:∀σ H' nx' fv,aT [(S1,rv),(sM,.int .i64 ((nxt.length:Nat):Int)),(nF,.int .i64 ((h:Nat):Int)),(S5,.slice (some ⟨lb,0,some 1⟩) nxt.length lc),(S6,.slice (some ⟨sb,0,some 1⟩) nxt.length sc),(S7,lv),(S9,fv)] σ→Orb nxt s h H H' nx nx' sb fv→Q (.exit 2) σ H' nx') :
  WC A (.loop Js) [(S1,rv),(sM,.int .i64 ((nxt.length:Nat):Int)),(nF,.int .i64 ((h:Nat):Int)),(S5,.slice (some ⟨lb,0,some 1⟩) nxt.length lc),(S6,.slice (some ⟨sb,0,some 1⟩) nxt.length sc),(S7,lv),(S9,.slice none 0 0),(gu,.int .i64 ((h:Nat):Int))] H nx Q:=by
 refine WC.loop (α:=(Nat×Nat)×List Bool×List Int×Value) (fun st=>[(S1,rv),(sM,.int .i64 ((nxt.length:Nat):Int)),(nF,.int .i64 ((h:Nat):Int)),(S5,.slice (some ⟨lb,0,some 1⟩) nxt.length lc),(S6,.slice (some ⟨sb,0,some 1⟩) nxt.length sc),(S7,lv),(S9,st.2.2.2),(gu,.int .i64 ((st.1.1:Nat):Int))])
  (fun st H' nx'=>st.1.1 < nxt.length∧nx≤nx'∧nG nxt st.1.2 st.2.1 st.1.1 st.2.2.1=nG nxt nxt.length s h []∧st.2.1.count false≤st.1.2∧st.2.1.length=nxt.length∧st.2.2.1.length + st.2.1.count false≤nxt.length∧bV H' sb st.2.1∧bM H' nx nx' 1 st.2.2.2 st.2.2.1.length (st.2.2.1.map (.int .i64))∧(∀b,b < nx→b≠sb→ao H' (at_ b)=ao H (at_ b))) (fun st=>st.2.1.count false)
  ?_ ((h,nxt.length),s,[],.slice none 0 0) aN ⟨hh,Nat.le_refl _,rfl,by rw [← Gb];exact List.count_le_length,Gb,by show 0 + s.count false≤_;have:=List.count_le_length (a:=false) (l:=s);omega,hs,.nil,fun _ _ _=>rfl⟩
 rintro ⟨⟨k,m⟩,s1,f1,fv⟩ H1 aY ⟨hk,b9,ho,hc,pL,zD,aS,pM,dJ⟩
 simp only at hk ho hc pL zD aS pM ⊢
 have F4:ao H1 (at_ sb)=some (.cells (s1.map .bool)):=aS
 have gx:ao H1 (at_ lb)=some (.cells (nxt.map (.int .i64))):=(dJ lb oa cG).trans hl
 have CE:=List.getElem?_eq_getElem (show k < s1.length by omega)
 generalize G3:s1[k]=bw at CE
 have q1:=JJ CE
 have kW:s1.getD k true=bw:=by rw [List.getD_eq_getElem?_getD,CE];rfl
 obtain ⟨q,hq,Zp⟩:=hn k hk
 have q2:=au.cell hq
 have Zq:(nxt.getD k 0).toNat=q:=by rw [List.getD_eq_getElem?_getD,hq];rfl
 unfold Js
 cases bw with
 | true=>
  repeat' (first|((first|refine WO.n rfl ?_|refine WO.k rfl ?_);(first|refine rH ?_|refine bj ?_|refine aZ ?_))|with_reducible (first|refine WO.nil ?_|refine WC.aa ?_|refine WC.seq ?_|refine WC.exit ?_)|refine WC.ay rfl ?_|with_reducible refine ef ?_)
  have bS:=pJ (nxt:=nxt) (m:=m) (f:=f1) kW
  rw [ho] at bS
  exact aC _ _ _ fv aN ⟨b9,by rw [bS];exact aS,by rw [bS];exact pL,by rw [bS];exact pM,by rw [bS];show f1.length≤_;omega,dJ⟩
 | false=>
  have sw:=count_set (s:=s1) (k:=k) (by omega) G3
  obtain ⟨m',rfl⟩:∃m',m=m' + 1:=⟨m - 1,by omega⟩
  have bS:=pK (nxt:=nxt) (m:=m') (f:=f1) kW
  rw [Zq,ho] at bS
  repeat' (first|((first|refine WO.n rfl ?_|refine WO.k rfl ?_);(first|refine rH ?_|refine bj ?_|refine aZ ?_|refine iu ?_|refine ep ?_))|with_reducible (first|refine WO.nil ?_|refine WC.aa ?_|refine WC.seq ?_|refine WC.skip ?_|refine WC.block ?_)|refine WC.ax rfl ?_|with_reducible refine aA ?_)
  refine WO.n rfl ?_
  refine aM.push (nx0:=nx) rfl rfl (pM.qL (H':=aI (aI H1 sb ((s1.map Value.bool).set (0 + k * 1) (.bool true))) aY [.int .i64 (k:Int)]) (fun b hb bR=>by rw [ak,if_neg (by omega),ak,if_neg (by omega)]) (Nat.le_succ _)) (cN Rd.self rfl) (by omega) (by omega) rfl rfl (by omega) (by unfold small;omega) (by unfold small;omega) ?_
  intro UJ H2 sU bI j8
  have dT:∀b,b < nx→ao H2 (at_ b)=ao (aI H1 sb ((s1.map Value.bool).set (0 + k * 1) (.bool true))) (at_ b):=fun b hb=>(bI b hb).trans (by rw [ak,if_neg (by omega)])
  have lX:ao H2 (at_ lb)=some (.cells (nxt.map (.int .i64))):=by
   rw [dT lb oa,ak,if_neg cG];exact gx
  have Md:bV H2 sb (s1.set k true):=by
   unfold bV
   rw [dT sb zb,aw,List.map_set]
   congr 3
   first|done|omega
  repeat' (first|((first|refine WO.n rfl ?_|refine WO.k rfl ?_);(first|refine aK ?_|refine bj ?_|refine aZ ?_))|with_reducible (first|refine WO.nil ?_|refine WC.aa ?_|refine aA ?_|refine dY ?_))
  refine ⟨((q,m'),s1.set k true,f1++[(k:Int)],UJ),by show (s1.set k true).count false < s1.count false;omega,aN,Zp,by omega,bS.symm,by show (s1.set k true).count false≤m';omega,by show (s1.set k true).length=_;rw [List.length_set];exact pL,by show (f1++[(k:Int)]).length + (s1.set k true).count false≤_;rw [List.length_append];show f1.length + 1 + _≤_;omega,Md,?_,fun b hb JO=>?_⟩
  ·show bM H2 nx _ 1 UJ (f1++[(k:Int)]).length ((f1++[(k:Int)]).map _)
   rw [List.length_append,List.map_append];exact sU
  ·rw [dT b hb,ak,if_neg JO];exact dJ b hb JO
theorem Zr {nxt:List Int} {lb sb h:Nat} {lc sc:Nat} {lv:Value} {rv nv:Value} {s:List Bool} (hn:mP nxt) (hm:nxt.length≤8000)
  (hl:au H lb nxt) (hs:bV H sb s) (Gb:s.length=nxt.length) (hh:h < nxt.length) (cG:lb≠sb) (oa:lb < nx) (zb:sb < nx)
  (aC:∀σ H' nx' fv,aT [(S1,rv),(S2,nv),(S8,.int .i64 ((h:Nat):Int)),(S5,.slice (some ⟨lb,0,some 1⟩) nxt.length lc),(S6,.slice (some ⟨sb,0,some 1⟩) nxt.length sc),(S7,lv),(S9,fv)] σ→Orb nxt s h H H' nx nx' sb fv→Q (.exit 2) σ H' nx') :
  WC A (.loop I8) [(S1,rv),(S2,nv),(S8,.int .i64 ((h:Nat):Int)),(S5,.slice (some ⟨lb,0,some 1⟩) nxt.length lc),(S6,.slice (some ⟨sb,0,some 1⟩) nxt.length sc),(S7,lv),(S9,.slice none 0 0),(gu,.int .i64 ((h:Nat):Int))] H nx Q:=by
 refine WC.loop (α:=(Nat×Nat)×List Bool×List Int×Value) (fun st=>[(S1,rv),(S2,nv),(S8,.int .i64 ((h:Nat):Int)),(S5,.slice (some ⟨lb,0,some 1⟩) nxt.length lc),(S6,.slice (some ⟨sb,0,some 1⟩) nxt.length sc),(S7,lv),(S9,st.2.2.2),(gu,.int .i64 ((st.1.1:Nat):Int))])
  (fun st H' nx'=>st.1.1 < nxt.length∧nx≤nx'∧nG nxt st.1.2 st.2.1 st.1.1 st.2.2.1=nG nxt nxt.length s h []∧st.2.1.count false≤st.1.2∧st.2.1.length=nxt.length∧st.2.2.1.length + st.2.1.count false≤nxt.length∧bV H' sb st.2.1∧bM H' nx nx' 1 st.2.2.2 st.2.2.1.length (st.2.2.1.map (.int .i64))∧(∀b,b < nx→b≠sb→ao H' (at_ b)=ao H (at_ b))) (fun st=>st.2.1.count false)
  ?_ ((h,nxt.length),s,[],.slice none 0 0) aN ⟨hh,Nat.le_refl _,rfl,by rw [← Gb];exact List.count_le_length,Gb,by show 0 + s.count false≤_;have:=List.count_le_length (a:=false) (l:=s);omega,hs,.nil,fun _ _ _=>rfl⟩
 rintro ⟨⟨k,m⟩,s1,f1,fv⟩ H1 aY ⟨hk,b9,ho,hc,pL,zD,aS,pM,dJ⟩
 simp only at hk ho hc pL zD aS pM ⊢
 have F4:ao H1 (at_ sb)=some (.cells (s1.map .bool)):=aS
 have gx:ao H1 (at_ lb)=some (.cells (nxt.map (.int .i64))):=(dJ lb oa cG).trans hl
 have CE:=List.getElem?_eq_getElem (show k < s1.length by omega)
 generalize G3:s1[k]=bw at CE
 have q1:=JJ CE
 have kW:s1.getD k true=bw:=by rw [List.getD_eq_getElem?_getD,CE];rfl
 obtain ⟨q,hq,Zp⟩:=hn k hk
 have q2:=au.cell hq
 have Zq:(nxt.getD k 0).toNat=q:=by rw [List.getD_eq_getElem?_getD,hq];rfl
 unfold I8
 cases bw with
 | true=>
  repeat' (first|((first|refine WO.n rfl ?_|refine WO.k rfl ?_);(first|refine rH ?_|refine bj ?_|refine aZ ?_))|with_reducible (first|refine WO.nil ?_|refine WC.aa ?_|refine WC.seq ?_|refine WC.exit ?_)|refine WC.ay rfl ?_|with_reducible refine ef ?_)
  have bS:=pJ (nxt:=nxt) (m:=m) (f:=f1) kW
  rw [ho] at bS
  exact aC _ _ _ fv aN ⟨b9,by rw [bS];exact aS,by rw [bS];exact pL,by rw [bS];exact pM,by rw [bS];show f1.length≤_;omega,dJ⟩
 | false=>
  have sw:=count_set (s:=s1) (k:=k) (by omega) G3
  obtain ⟨m',rfl⟩:∃m',m=m' + 1:=⟨m - 1,by omega⟩
  have bS:=pK (nxt:=nxt) (m:=m') (f:=f1) kW
  rw [Zq,ho] at bS
  repeat' (first|((first|refine WO.n rfl ?_|refine WO.k rfl ?_);(first|refine rH ?_|refine bj ?_|refine aZ ?_|refine iu ?_|refine ep ?_))|with_reducible (first|refine WO.nil ?_|refine WC.aa ?_|refine WC.seq ?_|refine WC.skip ?_|refine WC.block ?_)|refine WC.ax rfl ?_|with_reducible refine aA ?_)
  refine WO.n rfl ?_
  refine aM.push (nx0:=nx) rfl rfl (pM.qL (H':=aI (aI H1 sb ((s1.map Value.bool).set (0 + k * 1) (.bool true))) aY [.int .i64 (k:Int)]) (fun b hb bR=>by rw [ak,if_neg (by omega),ak,if_neg (by omega)]) (Nat.le_succ _)) (cN Rd.self rfl) (by omega) (by omega) rfl rfl (by omega) (by unfold small;omega) (by unfold small;omega) ?_
  intro UJ H2 sU bI j8
  have dT:∀b,b < nx→ao H2 (at_ b)=ao (aI H1 sb ((s1.map Value.bool).set (0 + k * 1) (.bool true))) (at_ b):=fun b hb=>(bI b hb).trans (by rw [ak,if_neg (by omega)])
  have lX:ao H2 (at_ lb)=some (.cells (nxt.map (.int .i64))):=by
   rw [dT lb oa,ak,if_neg cG];exact gx
  have Md:bV H2 sb (s1.set k true):=by
   unfold bV
   rw [dT sb zb,aw,List.map_set]
   congr 3
   first|done|omega
  repeat' (first|((first|refine WO.n rfl ?_|refine WO.k rfl ?_);(first|refine aK ?_|refine bj ?_|refine aZ ?_))|with_reducible (first|refine WO.nil ?_|refine WC.aa ?_|refine aA ?_|refine dY ?_))
  refine ⟨((q,m'),s1.set k true,f1++[(k:Int)],UJ),by show (s1.set k true).count false < s1.count false;omega,aN,Zp,by omega,bS.symm,by show (s1.set k true).count false≤m';omega,by show (s1.set k true).length=_;rw [List.length_set];exact pL,by show (f1++[(k:Int)]).length + (s1.set k true).count false≤_;rw [List.length_append];show f1.length + 1 + _≤_;omega,Md,?_,fun b hb JO=>?_⟩
  ·show bM H2 nx _ 1 UJ (f1++[(k:Int)]).length ((f1++[(k:Int)]).map _)
   rw [List.length_append,List.map_append];exact sU
  ·rw [dT b hb,ak,if_neg JO];exact dJ b hb JO
theorem oz {nxt:List Int} {k:Nat} (h:(aV nxt k).2.length≤k):(aV nxt (k + 1)).2.length≤k + 1:=by
 rw [fk]
 unfold mO
 show (if _ then _ else _:List (List Int)).length≤_
 split
 ·omega
 ·rw [List.length_append];show _ + 1≤_;omega
theorem JP {nxt:List Int}:∀{m k:Nat} {s:List Bool} {f:List Int},f≠[]→(nG nxt m s k f).2≠[]:=by
 intro m
 induction m with
 | zero=>intro k s f h;exact h
 | succ m ih=>
  intro k s f h
  show (if s.getD k true then (s,f) else _:List Bool×List Int).2≠[]
  split
  ·exact h
  ·exact ih (by simp)
theorem Qp {nxt:List Int} {k:Nat} {s:List Bool} (hk:k < nxt.length) (h:s.getD k true=false):(nG nxt nxt.length s k []).2≠[]:=by
 obtain ⟨m,hm⟩:∃m,nxt.length=m + 1:=⟨nxt.length - 1,by omega⟩
 rw [hm,pK h]
 exact JP (by simp)
theorem Zs {nxt:List Int} {nb lb sb:Nat} {lc sc:Nat} {rv:Value} {H0:Heap} (hn:mP nxt) (hm:nxt.length≤8000)
  (hl:au H lb nxt) (hs:bV H sb (List.replicate nxt.length false)) (cG:lb≠sb) (oa:lb < nx) (zb:sb < nx) (kB:nb≤lb) (UK:nb≤sb) (bN:an H0 H nb)
  (aC:∀σ H' nx' lv,aT [(S1,rv),(S7,lv)] σ→LL H' nx nx' lv (aV nxt nxt.length).2→(aV nxt nxt.length).2.length≤nxt.length→an H0 H' nb→nx≤nx'→Q (.exit 0) σ H' nx') :
  WC A (.loop Jt) [(S1,rv),(S5,.slice (some ⟨lb,0,some 1⟩) nxt.length lc),(S6,.slice (some ⟨sb,0,some 1⟩) nxt.length sc),(S7,.slice none 0 0),(sM,.int .i64 ((nxt.length:Nat):Int)),(nF,.int .i64 0)] H nx Q:=by
 refine WC.loop (α:=Nat×Value) (fun st=>[(S1,rv),(S5,.slice (some ⟨lb,0,some 1⟩) nxt.length lc),(S6,.slice (some ⟨sb,0,some 1⟩) nxt.length sc),(S7,st.2),(sM,.int .i64 ((nxt.length:Nat):Int)),(nF,.int .i64 ((st.1:Nat):Int))])
  (fun st H' nx'=>st.1≤nxt.length∧nx≤nx'∧bV H' sb (aV nxt st.1).1∧(aV nxt st.1).1.length=nxt.length∧LL H' nx nx' st.2 (aV nxt st.1).2∧(aV nxt st.1).2.length≤st.1∧au H' lb nxt∧an H0 H' nb) (fun st=>nxt.length - st.1)
  ?_ (0,.slice none 0 0) aN ⟨Nat.zero_le _,Nat.le_refl _,hs,by show (List.replicate _ _).length=_;rw [List.length_replicate],.nil,Nat.zero_le _,hl,bN⟩
 rintro ⟨k,lv⟩ H1 aY ⟨hk,b9,aS,pL,ny,kV,gx,aQ⟩
 simp only at hk aS pL ny kV ⊢
 unfold Jt
 repeat' (first|(refine WO.k rfl ?_;(first|refine aK ?_|(refine dt (fun h=>?_) (fun h=>?_)<;>(try simp only [Int.ofNat_eq_natCast] at h))))|with_reducible (first|refine WO.nil ?_|refine WC.aa ?_|refine WC.seq ?_|refine WC.skip ?_|refine WC.exit ?_|refine WC.block ?_)|refine WC.ax rfl ?_|refine WC.ay rfl ?_|with_reducible (first|refine aA ?_|refine ef ?_))
 ·have bF:k < nxt.length:=by omega
  refine WC.sub aN (Zo (lb:=lb) (sb:=sb) (h:=k) (lv:=lv) hn hm gx aS pL bF cG (by omega) (by omega) (fun σ H2 nx2 fv hσ o=>?_))
  refine ew (aA (WC.sub hσ ?_))
  obtain ⟨o1,o2,o3,o4,o5,o6⟩:=o
  obtain ⟨z1,z2⟩:=Ea o4
  obtain ⟨fb,fc,rfl⟩:=z1.form
  have w3:LL H2 nx nx2 lv (aV nxt k).2:=ny.qL (fun b hb bR=>o6 b bR (by omega)) o1
  have lX:au H2 lb nxt:=(o6 lb (by omega) cG).trans gx
  have dk:an H0 H2 nb:=fun b hb=>(o6 b (by omega) (by omega)).trans (aQ b hb)
  have hlen:=oz kV
  have e1:(aV nxt (k + 1)).1=(nG nxt nxt.length (aV nxt k).1 k []).1:=by rw [fk];rfl
  have e2:(aV nxt (k + 1)).2=if (nG nxt nxt.length (aV nxt k).1 k []).2=[] then (aV nxt k).2 else (aV nxt k).2++[(nG nxt nxt.length (aV nxt k).1 k []).2]:=by rw [fk];rfl
  generalize (nG nxt nxt.length (aV nxt k).1 k []).2=f at *
  repeat' (first|((first|refine WO.n rfl ?_|refine WO.k rfl ?_);(first|refine aK ?_|refine cH ?_|refine iu ?_|(refine Bu (fun h=>?_) (fun h=>?_)<;>(try simp only [Int.ofNat_eq_natCast] at h))|refine ba ?_))|with_reducible (first|refine WO.nil ?_|refine WC.aa ?_|refine WC.seq ?_|refine WC.skip ?_)|refine WC.ax rfl ?_|refine WC.ay rfl ?_|with_reducible (first|refine aA ?_|refine dY ?_))
  ·refine WO.n rfl ?_
   have xw:0 < f.length:=by omega
   have e3:f≠[]:=by intro e;rw [e] at xw;simp at xw
   rw [if_neg e3] at e2
   have w4:=w3.qL (H':=aI H2 nx2 [.slice fb f.length fc]) (nx':=nx2 + 1) (fun b hb bR=>by rw [ak,if_neg (by omega)]) (Nat.le_succ _)
   refine aM.AS (nx0:=nx) rfl rfl Rd.self w4 ((z1.same (an.refl.set (Nat.le_refl _))).up (Nat.le_succ _)) (fun b hb=>⟨by have:=z2 b hb;omega,by have:=z2 b hb;omega,fun e=>by have:=z2 b hb;have:=ny.blk e;omega⟩) (by omega) (by unfold small;omega) (by unfold small;omega) ?_
   intro wU H3 Mh G5
   have w5:∀b,b < nx→ao H3 (at_ b)=ao H2 (at_ b):=fun b hb=>(G5 b (by omega) (fun e=>by have:=ny.blk e;omega)).trans (by rw [ak,if_neg (by omega)])
   repeat' (first|((first|refine WO.n rfl ?_|refine WO.k rfl ?_);(first|refine aK ?_|refine ba ?_))|with_reducible (first|refine WO.nil ?_|refine WC.aa ?_|refine aA ?_|refine dY ?_))
   refine ⟨(k + 1,wU),by show nxt.length - (k + 1) < nxt.length - k;omega,.cons rfl aN,by show k + 1≤_;omega,by omega,?_,?_,?_,hlen,(w5 lb oa).trans lX,fun b hb=>(w5 b (by omega)).trans (dk b hb)⟩
   ·show bV _ sb (aV nxt (k + 1)).1
    rw [e1];exact (w5 sb zb).trans o2
   ·show (aV nxt (k + 1)).1.length=_
    rw [e1];exact o3
   ·show LL _ _ _ wU (aV nxt (k + 1)).2
    rw [e2];exact Mh
  ·have e3:f=[]:=List.eq_nil_of_length_eq_zero (by omega)
   rw [if_pos e3] at e2
   refine ⟨(k + 1,lv),by show nxt.length - (k + 1) < nxt.length - k;omega,.cons rfl aN,by show k + 1≤_;omega,by omega,?_,?_,?_,hlen,lX,dk⟩
   ·show bV _ sb (aV nxt (k + 1)).1
    rw [e1];exact o2
   ·show (aV nxt (k + 1)).1.length=_
    rw [e1];exact o3
   ·show LL _ _ _ lv (aV nxt (k + 1)).2
    rw [e2];exact w3
 ·have:k=nxt.length:=by omega
  subst this
  exact aC _ _ _ lv aN ny kV aQ b9
theorem Zt {r F:List (List Int)} {nb nx0:Nat} {bu:Option Addr} {rc:Nat} {lv:Value} {H0:Heap} (hr:dZ H0 nb 1 aW (.slice bu r.length rc) r) (cD:bX r) (hF:F.length≤8000)
  (hL:LL H nx0 nx lv F) (h1:nb≤nx0) (h2:nx0≤nx) (bN:an H0 H nb)
  (aC:∀σ H' nx' lv,aT [(S7,lv)] σ→LL H' nx0 nx' lv (F++sj r r.length)→an H0 H' nb→nx≤nx'→Q (.exit 4) σ H' nx') :
  WC A (.loop Ju) [(S7,lv),(GV,.slice bu r.length rc),(Jk,.int .i64 ((r.length:Nat):Int)),(GQ,.int .i64 0)] H nx Q:=by
 refine WC.loop (α:=Nat×Value) (fun st=>[(S7,st.2),(GV,.slice bu r.length rc),(Jk,.int .i64 ((r.length:Nat):Int)),(GQ,.int .i64 ((st.1:Nat):Int))])
  (fun st H' nx'=>st.1≤r.length∧nx≤nx'∧LL H' nx0 nx' st.2 (F++sj r st.1)∧an H0 H' nb) (fun st=>r.length - st.1)
  ?_ (0,lv) aN ⟨Nat.zero_le _,Nat.le_refl _,by show LL _ _ _ _ (F++sj r 0);rw [show sj r 0=[] from rfl,List.append_nil];exact hL,bN⟩
 rintro ⟨v,D5⟩ H1 aY ⟨hv,b9,ny,aQ⟩
 simp only at hv ny ⊢
 have oV:=cD.1
 unfold Ju
 repeat' (first|((first|refine WO.n rfl ?_|refine WO.k rfl ?_);(refine dt (fun h=>?_) (fun h=>?_)<;>(try simp only [Int.ofNat_eq_natCast] at h)))|with_reducible (first|refine WO.nil ?_|refine WC.aa ?_|refine WC.seq ?_|refine WC.skip ?_|refine WC.exit ?_|refine WC.block ?_)|refine WC.ax rfl ?_|refine WC.ay rfl ?_|with_reducible (first|refine aA ?_|refine ef ?_))
 ·have qV:v < r.length:=by omega
  have jA:r.getD v []=r[v]:=by rw [List.getD_eq_getElem?_getD,List.getElem?_eq_getElem qV];rfl
  obtain ⟨rb,ro,vO,ib,ic,rfl,jo,iP,iD,hi⟩:=hr.at qV
  rw [← jA] at iD hi
  have kg:=aQ.rd jo iP
  have sH:=yv (r:=r) (k:=v)
  have zD:(F++sj r v).length≤8000 + v:=by rw [List.length_append];omega
  have hs:=AR qV
  repeat' (first|((first|refine WO.n rfl ?_|refine WO.k rfl ?_);(first|refine aK ?_|refine cH ?_|refine bj ?_|refine aZ ?_|refine iu ?_|(refine sJ (fun h=>?_) (fun h=>?_)<;>(try simp only [Int.ofNat_eq_natCast] at h))|refine ba ?_))|with_reducible (first|refine WO.nil ?_|refine WC.aa ?_|refine WC.seq ?_|refine WC.skip ?_)|refine WC.ax rfl ?_|refine WC.ay rfl ?_|with_reducible (first|refine aA ?_|refine dY ?_))
  ·refine WO.n rfl ?_
   rw [if_pos (by omega)] at hs
   have w4:=ny.qL (H':=aI H1 aY [.slice none 0 0]) (nx':=aY + 1) (fun b hb bR=>by rw [ak,if_neg (by omega)]) (Nat.le_succ _)
   refine aM.AS (nx0:=nx0) (f:=[]) rfl rfl Rd.self w4 .nil (fun b hb=>by cases hb) (by omega) (by unfold small;omega) (by unfold small;omega) ?_
   intro wU H3 Mh G5
   have w5:∀b,b < nb→ao H3 (at_ b)=ao H1 (at_ b):=fun b hb=>(G5 b (by omega) (fun e=>by have:=ny.blk e;omega)).trans (by rw [ak,if_neg (by omega)])
   repeat' (first|((first|refine WO.n rfl ?_|refine WO.k rfl ?_);(first|refine aK ?_|refine ba ?_))|with_reducible (first|refine WO.nil ?_|refine WC.aa ?_|refine aA ?_|refine dY ?_))
   refine ⟨(v + 1,wU),by show r.length - (v + 1) < r.length - v;omega,.cons rfl aN,by show v + 1≤_;omega,by omega,?_,fun b hb=>(w5 b hb).trans (aQ b hb)⟩
   show LL _ _ _ wU (F++sj r (v + 1))
   rw [hs,← List.append_assoc];exact Mh
  ·rw [if_neg (by omega)] at hs
   refine ⟨(v + 1,D5),by show r.length - (v + 1) < r.length - v;omega,.cons rfl aN,by show v + 1≤_;omega,by omega,?_,aQ⟩
   show LL _ _ _ D5 (F++sj r (v + 1))
   rw [hs];exact ny
 ·have:v=r.length:=by omega
  subst this
  exact aC _ _ _ D5 aN ny aQ b9
theorem yx {n:Int} {es:List Ed} {r:List (List Int)} {l:List Int} (g:bY n es r) (h:eW es r l):mP l:=by
 intro i hi
 rw [h.1] at hi ⊢
 exact h.lt g hi
theorem oA {f:FuncId} (hf:A.funcs f=some uD) (hh:∀vs H nx,A.aH f vs H nx=none) (CN:A.funcs 101=some qQ) (uJ:∀vs H nx,A.aH 101 vs H nx=none)
  {n:Int} {ev rv:Value} {es:List Ed} {r:List (List Int)} (g:bY n es r) (he:bP H nx 2 bH ev es) (hr:dZ H nx 1 aW rv r) (cD:bX r) (eB:es.length≤4000) :
  WF A f [.agg #[.int .i64 n,ev],rv] H nx fun v H' nx'=>∃nx0,nx≤nx0∧nx0≤nx'∧LL H' nx0 nx' v (aD es r)∧an H H' nx:=by
 obtain ⟨base,ec,rfl⟩:=he.form
 obtain ⟨bu,rc,rfl⟩:=hr.form
 refine WF.enter (hh _ _ _) hf ?_
 repeat' (first|((first|refine WO.n rfl ?_|refine WO.k rfl ?_);(first|refine aK ?_|refine jL ?_|refine aJ ?_))|with_reducible (first|refine WO.nil ?_|refine WC.aa ?_|refine WC.seq ?_|refine aA ?_))
 have bg:an H (aI H nx [.int .i64 n,.slice base es.length ec]) nx:=an.refl.set (Nat.le_refl _)
 refine WO.cn rfl ?_
 refine (CM CN uJ g ((he.same bg).up (Nat.le_succ _)) ((hr.same bg).up (Nat.le_succ _)) cD eB).of ?_
 rintro _ H1 aY ⟨lb,lc,l,rfl,VO,UL,UM,kB,sH,aS⟩
 have bn:an H H1 nx:=bg.trans aS (by omega)
 have By:=kB.1
 repeat' (first|((first|refine WO.n rfl ?_|refine WO.k rfl ?_);(first|refine aK ?_|refine cH ?_|refine mI ?_))|with_reducible (first|refine WO.nil ?_|refine WC.aa ?_|refine WC.seq ?_|refine WC.block ?_|refine aA ?_))
 rw [← By]
 refine WC.sub aN (Zs (nb:=nx) (lb:=lb) (sb:=aY) (nxt:=l) (yx g kB) (by omega) (cy (by omega) sH) (by show ao _ _=_;rw [aw,iy,List.map_replicate]) (by omega) (by omega) (by omega) (by omega) (by omega) (bn.set (by omega)) (fun σ H2 nx2 lv hσ w3 hF2 bI fq=>?_))
 refine ew (aA (WC.sub hσ ?_))
 repeat' (first|(refine WO.k rfl ?_;(first|refine aK ?_|refine cH ?_))|with_reducible (first|refine WO.nil ?_|refine WC.aa ?_|refine WC.seq ?_|refine WC.block ?_|refine aA ?_))
 refine WC.sub aN (Zt (nb:=nx) (nx0:=aY + 1) hr cD (by omega) w3 (by omega) (by omega) bI (fun σ H3 iY lv3 hσ w4 eL se=>?_))
 refine ew (aA (WC.sub hσ ?_))
 repeat' (first|(refine WO.k rfl ?_;refine aK ?_)|with_reducible (first|refine WO.nil ?_|refine WC.aa ?_|refine WC.seq ?_|refine WC.ret ?_|refine aA ?_))
 refine az (vs:=[_]) rfl ⟨aY + 1,by omega,by omega,?_,eL⟩
 unfold aD kj
 rw [jb g kB]
 exact w4
theorem Zu {nxt:List Int} {nb lb sb:Nat} {lc sc:Nat} {rv nv:Value} {cn:List Value} {H0:Heap} (hn:mP nxt) (hm:nxt.length≤8000)
  (hl:au H lb nxt) (hs:bV H sb (List.replicate nxt.length false)) (cG:lb≠sb) (oa:lb < nx) (zb:sb < nx) (kB:nb≤lb) (UK:nb≤sb) (bN:an H0 H nb) (po:Rd H nb cn) (oI:nb < lb) (Bs:nb < sb)
  (aC:∀σ H' nx' lv,aT [(S1,rv),(S2,nv),(S7,lv)] σ→LL H' nx nx' lv (aV nxt nxt.length).2→(aV nxt nxt.length).2.length≤nxt.length→an H0 H' nb→Rd H' nb cn→nx≤nx'→Q (.exit 0) σ H' nx') :
  WC A (.loop I9) [(S1,rv),(S2,nv),(S5,.slice (some ⟨lb,0,some 1⟩) nxt.length lc),(S6,.slice (some ⟨sb,0,some 1⟩) nxt.length sc),(S7,.slice none 0 0),(S8,.int .i64 0)] H nx Q:=by
 refine WC.loop (α:=Nat×Value) (fun st=>[(S1,rv),(S2,nv),(S5,.slice (some ⟨lb,0,some 1⟩) nxt.length lc),(S6,.slice (some ⟨sb,0,some 1⟩) nxt.length sc),(S7,st.2),(S8,.int .i64 ((st.1:Nat):Int))])
  (fun st H' nx'=>st.1≤nxt.length∧nx≤nx'∧bV H' sb (aV nxt st.1).1∧(aV nxt st.1).1.length=nxt.length∧LL H' nx nx' st.2 (aV nxt st.1).2∧(aV nxt st.1).2.length≤st.1∧au H' lb nxt∧an H0 H' nb∧Rd H' nb cn) (fun st=>nxt.length - st.1)
  ?_ (0,.slice none 0 0) aN ⟨Nat.zero_le _,Nat.le_refl _,hs,by show (List.replicate _ _).length=_;rw [List.length_replicate],.nil,Nat.zero_le _,hl,bN,po⟩
 rintro ⟨k,lv⟩ H1 aY ⟨hk,b9,aS,pL,ny,kV,gx,aQ,hO⟩
 simp only at hk aS pL ny kV ⊢
 unfold I9
 repeat' (first|((first|refine WO.n rfl ?_|refine WO.k rfl ?_);(first|refine cH ?_|refine aZ ?_|(refine dt (fun h=>?_) (fun h=>?_)<;>(try simp only [Int.ofNat_eq_natCast] at h))))|with_reducible (first|refine WO.nil ?_|refine WC.aa ?_|refine WC.seq ?_|refine WC.skip ?_|refine WC.exit ?_|refine WC.block ?_)|refine WC.ax rfl ?_|refine WC.ay rfl ?_|with_reducible (first|refine aA ?_|refine ef ?_))
 ·have bF:k < nxt.length:=by omega
  have CE:=List.getElem?_eq_getElem (show k < (aV nxt k).1.length by omega)
  generalize G3:(aV nxt k).1[k]=bw at CE
  have q1:=JJ CE
  have kW:(aV nxt k).1.getD k true=bw:=by rw [List.getD_eq_getElem?_getD,CE];rfl
  have F4:ao H1 (at_ sb)=some (.cells ((aV nxt k).1.map .bool)):=aS
  have hlen:=oz kV
  have e1:(aV nxt (k + 1)).1=(nG nxt nxt.length (aV nxt k).1 k []).1:=by rw [fk];rfl
  have e2:(aV nxt (k + 1)).2=if (nG nxt nxt.length (aV nxt k).1 k []).2=[] then (aV nxt k).2 else (aV nxt k).2++[(nG nxt nxt.length (aV nxt k).1 k []).2]:=by rw [fk];rfl
  cases bw with
  | true=>
   rw [pJ kW] at e1 e2
   rw [if_pos rfl] at e2
   repeat' (first|((first|refine WO.n rfl ?_|refine WO.k rfl ?_);(first|refine aK ?_|refine bj ?_|refine ba ?_))|with_reducible (first|refine WO.nil ?_|refine WC.aa ?_|refine WC.exit ?_)|refine WC.ax rfl ?_|with_reducible (first|refine aA ?_|refine ef ?_|refine ew ?_))
   refine ⟨(k + 1,lv),by show nxt.length - (k + 1) < nxt.length - k;omega,.cons rfl aN,by show k + 1≤_;omega,by omega,?_,?_,?_,hlen,gx,aQ,hO⟩
   ·show bV _ sb (aV nxt (k + 1)).1
    rw [e1];exact aS
   ·show (aV nxt (k + 1)).1.length=_
    rw [e1];exact pL
   ·show LL _ _ _ lv (aV nxt (k + 1)).2
    rw [e2];exact ny
  | false=>
   have Zv:=Qp bF kW
   rw [if_neg Zv] at e2
   repeat' (first|(refine WO.k rfl ?_;(first|refine aK ?_|refine bj ?_))|with_reducible (first|refine WO.nil ?_|refine WC.aa ?_|refine WC.seq ?_|refine WC.skip ?_|refine WC.block ?_)|refine WC.ay rfl ?_|with_reducible refine aA ?_)
   refine WC.sub aN (Zr (lb:=lb) (sb:=sb) (h:=k) (lv:=lv) hn hm gx aS pL bF cG (by omega) (by omega) (fun σ H2 nx2 fv hσ o=>?_))
   refine ew (aA (WC.sub hσ ?_))
   obtain ⟨o1,o2,o3,o4,o5,o6⟩:=o
   obtain ⟨z1,z2⟩:=Ea o4
   obtain ⟨fb,fc,rfl⟩:=z1.form
   have w3:LL H2 nx nx2 lv (aV nxt k).2:=ny.qL (fun b hb bR=>o6 b bR (by omega)) o1
   have lX:au H2 lb nxt:=(o6 lb (by omega) cG).trans gx
   have dk:an H0 H2 nb:=fun b hb=>(o6 b (by omega) (by omega)).trans (aQ b hb)
   generalize (nG nxt nxt.length (aV nxt k).1 k []).2=f at *
   repeat' (first|(refine WO.n rfl ?_;refine iu ?_)|with_reducible refine WC.aa ?_)
   refine WO.n rfl ?_
   have w4:=w3.qL (H':=aI H2 nx2 [.slice fb f.length fc]) (nx':=nx2 + 1) (fun b hb bR=>by rw [ak,if_neg (by omega)]) (Nat.le_succ _)
   refine aM.AS (nx0:=nx) rfl rfl Rd.self w4 ((z1.same (an.refl.set (Nat.le_refl _))).up (Nat.le_succ _)) (fun b hb=>⟨by have:=z2 b hb;omega,by have:=z2 b hb;omega,fun e=>by have:=z2 b hb;have:=ny.blk e;omega⟩) (by omega) (by unfold small;omega) (by unfold small;omega) ?_
   intro wU H3 Mh G5
   have w5:∀b,b < nx→ao H3 (at_ b)=ao H2 (at_ b):=fun b hb=>(G5 b (by omega) (fun e=>by have:=ny.blk e;omega)).trans (by rw [ak,if_neg (by omega)])
   repeat' (first|((first|refine WO.n rfl ?_|refine WO.k rfl ?_);(first|refine aK ?_|refine ba ?_))|with_reducible (first|refine WO.nil ?_|refine WC.aa ?_|refine aA ?_|refine dY ?_))
   refine ⟨(k + 1,wU),by show nxt.length - (k + 1) < nxt.length - k;omega,.cons rfl aN,by show k + 1≤_;omega,by omega,?_,?_,?_,hlen,(w5 lb oa).trans lX,fun b hb=>(w5 b (by omega)).trans (dk b hb),by unfold Rd;rw [w5 nb (by omega),o6 nb (by omega) (by omega)];exact hO⟩
   ·show bV _ sb (aV nxt (k + 1)).1
    rw [e1];exact (w5 sb zb).trans o2
   ·show (aV nxt (k + 1)).1.length=_
    rw [e1];exact o3
   ·show LL _ _ _ wU (aV nxt (k + 1)).2
    rw [e2];exact Mh
 ·have:k=nxt.length:=by omega
  subst this
  exact aC _ _ _ lv aN ny kV aQ hO b9
theorem Zw {n:Int} {ev:Value} {r F:List (List Int)} {nb nx0:Nat} {bu:Option Addr} {rc:Nat} {lv:Value} {H0:Heap} (hr:dZ H0 nb 1 aW (.slice bu r.length rc) r) (cD:bX r) (hF:F.length≤8000)
  (hL:LL H nx0 nx lv F) (h1:nb≤nx0) (h2:nx0≤nx) (bN:an H0 H nb) (po:Rd H nb [.int .i64 n,ev]) (hlen:(r.length:Int)=n) (oI:nb < nx0)
  (aC:∀σ H' nx' lv,aT [(S7,lv)] σ→LL H' nx0 nx' lv (F++sj r r.length)→an H0 H' nb→nx≤nx'→Q (.exit 4) σ H' nx') :
  WC A (.loop Ja) [(S7,lv),(S1,.slice bu r.length rc),(S2,.pointer (some ⟨nb,0,none⟩)),(e8,.int .i64 0)] H nx Q:=by
 refine WC.loop (α:=Nat×Value) (fun st=>[(S7,st.2),(S1,.slice bu r.length rc),(S2,.pointer (some ⟨nb,0,none⟩)),(e8,.int .i64 ((st.1:Nat):Int))])
  (fun st H' nx'=>st.1≤r.length∧nx≤nx'∧LL H' nx0 nx' st.2 (F++sj r st.1)∧an H0 H' nb∧Rd H' nb [.int .i64 n,ev]) (fun st=>r.length - st.1)
  ?_ (0,lv) aN ⟨Nat.zero_le _,Nat.le_refl _,by show LL _ _ _ _ (F++sj r 0);rw [show sj r 0=[] from rfl,List.append_nil];exact hL,bN,po⟩
 rintro ⟨v,D5⟩ H1 aY ⟨hv,b9,ny,aQ,hO⟩
 simp only at hv ny ⊢
 have oV:=cD.1
 unfold Ja
 repeat' (first|((first|refine WO.n rfl ?_|refine WO.k rfl ?_);(first|refine cI ?_|refine aJ ?_|(refine dt (fun h=>?_) (fun h=>?_)<;>(try simp only [Int.ofNat_eq_natCast] at h))))|with_reducible (first|refine WO.nil ?_|refine WC.aa ?_|refine WC.seq ?_|refine WC.skip ?_|refine WC.exit ?_|refine WC.block ?_)|refine WC.ax rfl ?_|refine WC.ay rfl ?_|with_reducible (first|refine aA ?_|refine ef ?_))
 ·have qV:v < r.length:=by omega
  have jA:r.getD v []=r[v]:=by rw [List.getD_eq_getElem?_getD,List.getElem?_eq_getElem qV];rfl
  obtain ⟨rb,ro,vO,ib,ic,rfl,jo,iP,iD,hi⟩:=hr.at qV
  rw [← jA] at iD hi
  have kg:=aQ.rd jo iP
  have sH:=yv (r:=r) (k:=v)
  have zD:(F++sj r v).length≤8000 + v:=by rw [List.length_append];omega
  have hs:=AR qV
  repeat' (first|((first|refine WO.n rfl ?_|refine WO.k rfl ?_);(first|refine aK ?_|refine cH ?_|refine bj ?_|refine aZ ?_|refine iu ?_|(refine sJ (fun h=>?_) (fun h=>?_)<;>(try simp only [Int.ofNat_eq_natCast] at h))|refine ba ?_))|with_reducible (first|refine WO.nil ?_|refine WC.aa ?_|refine WC.skip ?_)|refine WC.ax rfl ?_|refine WC.ay rfl ?_|with_reducible (first|refine aA ?_|refine dY ?_))
  ·refine WO.n rfl ?_
   rw [if_pos (by omega)] at hs
   have w4:=ny.qL (H':=aI H1 aY [.slice none 0 0]) (nx':=aY + 1) (fun b hb bR=>by rw [ak,if_neg (by omega)]) (Nat.le_succ _)
   refine aM.AS (nx0:=nx0) (f:=[]) rfl rfl Rd.self w4 .nil (fun b hb=>by cases hb) (by omega) (by unfold small;omega) (by unfold small;omega) ?_
   intro wU H3 Mh G5
   have w5:∀b,b≤nb→ao H3 (at_ b)=ao H1 (at_ b):=fun b hb=>(G5 b (by omega) (fun e=>by have:=ny.blk e;omega)).trans (by rw [ak,if_neg (by omega)])
   repeat' (first|((first|refine WO.n rfl ?_|refine WO.k rfl ?_);(first|refine aK ?_|refine ba ?_))|with_reducible (first|refine WO.nil ?_|refine WC.aa ?_|refine aA ?_|refine dY ?_))
   refine ⟨(v + 1,wU),by show r.length - (v + 1) < r.length - v;omega,.cons rfl aN,by show v + 1≤_;omega,by omega,?_,fun b hb=>(w5 b (by omega)).trans (aQ b hb),?_⟩
   rotate_left
   ·unfold Rd;rw [w5 nb (Nat.le_refl _)];exact hO
   show LL _ _ _ wU (F++sj r (v + 1))
   rw [hs,← List.append_assoc];exact Mh
  ·rw [if_neg (by omega)] at hs
   refine ⟨(v + 1,D5),by show r.length - (v + 1) < r.length - v;omega,.cons rfl aN,by show v + 1≤_;omega,by omega,?_,aQ,hO⟩
   show LL _ _ _ D5 (F++sj r (v + 1))
   rw [hs];exact ny
 ·have:v=r.length:=by omega
  subst this
  exact aC _ _ _ D5 aN ny aQ b9
theorem mQ {f:FuncId} (hf:A.funcs f=some nf) (hh:∀vs H nx,A.aH f vs H nx=none) (Mi:A.funcs 36=some uC) (yy:∀vs H nx,A.aH 36 vs H nx=none) (F8:A.funcs 35=some pE) (qW:∀vs H nx,A.aH 35 vs H nx=none)
  {n:Int} {ev rv:Value} {es:List Ed} {r:List (List Int)} (g:bY n es r) (he:bP H nx 2 bH ev es) (hr:dZ H nx 1 aW rv r) (cD:bX r) (eB:es.length≤4000) :
  WF A f [.agg #[.int .i64 n,ev],rv] H nx fun v H' nx'=>∃nx0,nx≤nx0∧nx0≤nx'∧LL H' nx0 nx' v (aD es r)∧an H H' nx:=by
 obtain ⟨base,ec,rfl⟩:=he.form
 obtain ⟨bu,rc,rfl⟩:=hr.form
 refine WF.enter (hh _ _ _) hf ?_
 repeat' (first|((first|refine WO.n rfl ?_|refine WO.k rfl ?_);(first|refine aK ?_|refine jL ?_|refine aJ ?_))|with_reducible (first|refine WO.nil ?_|refine WC.aa ?_|refine WC.seq ?_|refine aA ?_))
 have bg:an H (aI H nx [.int .i64 n,.slice base es.length ec]) nx:=an.refl.set (Nat.le_refl _)
 refine WO.cn rfl ?_
 refine (F9 Mi yy F8 qW g ((he.same bg).up (Nat.le_succ _)) ((hr.same bg).up (Nat.le_succ _)) cD eB).of ?_
 rintro _ H1 aY ⟨lb,lc,l,rfl,VO,UL,UM,kB,sH,aS⟩
 have bn:an H H1 nx:=bg.trans aS (by omega)
 have By:=kB.1
 have dJ:Rd H1 nx [.int .i64 n,.slice base es.length ec]:=aS.rd (by omega) Rd.self
 repeat' (first|((first|refine WO.n rfl ?_|refine WO.k rfl ?_);(first|refine aK ?_|refine cH ?_|refine mI ?_))|with_reducible (first|refine WO.nil ?_|refine WC.aa ?_|refine WC.seq ?_|refine WC.block ?_|refine aA ?_))
 rw [← By]
 refine WC.sub aN (Zu (nb:=nx) (lb:=lb) (sb:=aY) (nxt:=l) (yx g kB) (by omega) (cy (by omega) sH) (by show ao _ _=_;rw [aw,iy,List.map_replicate]) (by omega) (by omega) (by omega) (by omega) (by omega) (bn.set (by omega)) (Rd.skip (by omega) dJ) (by omega) (by omega) (fun σ H2 nx2 lv hσ w3 hF2 bI pI fq=>?_))
 refine ew (aA (WC.sub hσ ?_))
 repeat' (first|(refine WO.k rfl ?_;refine aK ?_)|with_reducible (first|refine WO.nil ?_|refine WC.aa ?_|refine WC.seq ?_|refine WC.block ?_|refine aA ?_))
 refine WC.sub aN (Zw (nb:=nx) (nx0:=aY + 1) hr cD (by omega) w3 (by omega) (by omega) bI pI g.len (by omega) (fun σ H3 iY lv3 hσ w4 eL se=>?_))
 refine ew (aA (WC.sub hσ ?_))
 repeat' (first|(refine WO.k rfl ?_;refine aK ?_)|with_reducible (first|refine WO.nil ?_|refine WC.aa ?_|refine WC.seq ?_|refine WC.ret ?_|refine aA ?_))
 refine az (vs:=[_]) rfl ⟨aY + 1,by omega,by omega,?_,eL⟩
 unfold aD kj
 rw [jb g kB]
 exact w4
end Go.Eng

namespace Go.Eng
theorem Mj {nxt:List Int}:∀{m k:Nat} {s:List Bool} {f:List Int},(nG nxt m s k f).2.length≤f.length + m:=by
 intro m
 induction m with
 | zero=>intro k s f;exact Nat.le_refl _
 | succ m ih=>
  intro k s f
  show (if s.getD k true then (s,f) else _:List Bool×List Int).2.length≤_
  split
  ·show f.length≤_;omega
  ·refine Nat.le_trans ih ?_
   rw [List.length_append];show f.length + 1 + m≤_;omega
theorem uK {nxt:List Int}:∀{k:Nat},(aV nxt k).2.length≤k:=by
 intro k
 induction k with
 | zero=>exact Nat.le_refl _
 | succ k ih=>exact oz ih
theorem CO {nxt:List Int}:∀{k:Nat} {f:List Int},f∈(aV nxt k).2→∃h,h < k∧f=(nG nxt nxt.length (aV nxt h).1 h []).2∧f≠[]:=by
 intro k
 induction k with
 | zero=>intro f hf;simp [aV] at hf
 | succ k ih=>
  intro f hf
  rw [fk] at hf
  unfold mO at hf
  simp only at hf
  split at hf
  ·obtain ⟨h,h1,h2,h3⟩:=ih hf
   exact ⟨h,by omega,h2,h3⟩
  ·rename_i cG
   rcases List.mem_append.1 hf with hf|hf
   ·obtain ⟨h,h1,h2,h3⟩:=ih hf
    exact ⟨h,by omega,h2,h3⟩
   ·have:=List.mem_singleton.1 hf
    exact ⟨k,by omega,this,by rw [this];exact cG⟩
theorem Qq {nxt:List Int} (hn:mP nxt):∀{m k:Nat} {s:List Bool} {f:List Int},k < nxt.length→(∀x∈f,∃q:Nat,x=(q:Int)∧q < nxt.length)→∀x∈(nG nxt m s k f).2,∃q:Nat,x=(q:Int)∧q < nxt.length:=by
 intro m
 induction m with
 | zero=>intro k s f hk hf;exact hf
 | succ m ih=>
  intro k s f hk hf
  show ∀x∈(if s.getD k true then (s,f) else _:List Bool×List Int).2,_
  split
  ·exact hf
  ·obtain ⟨q,h1,h2⟩:=hn k hk
   have e:(nxt.getD k 0).toNat=q:=by rw [List.getD_eq_getElem?_getD,h1];rfl
   refine ih (by rw [e];exact h2) fun x hx=>?_
   rcases List.mem_append.1 hx with hx|hx
   ·exact hf x hx
   ·exact ⟨k,List.mem_singleton.1 hx,hk⟩
structure dI (fs:List (List Int)) (m:Nat):Prop where
 Bz:fs.length≤20000
 row:∀i,(fs.getD i []).length≤8000
 JN:∀i k,k < (fs.getD i []).length→∃q:Nat,(fs.getD i [])[k]?=some (q:Int)∧q < m
theorem uL {r:List (List Int)} {nxt:List Int} {f:List Int} (hf:f∈kj r nxt):f=[]∨∃h,h < nxt.length∧f=(nG nxt nxt.length (aV nxt h).1 h []).2∧f≠[]:=by
 rcases List.mem_append.1 hf with hf|hf
 ·exact .inr (CO hf)
 ·unfold sj at hf
  have:=(List.mem_filter.1 hf).2
  exact .inl (List.eq_nil_of_length_eq_zero (by simpa using this))
theorem AT {α:Type} {l:List (List α)} {i:Nat} (h:l.getD i []≠[]):l.getD i []∈l:=by
 rw [List.getD_eq_getElem?_getD] at h ⊢
 cases h1:l[i]? with
 | none=>rw [h1] at h;exact absurd rfl h
 | some x=>exact List.mem_of_getElem? h1
theorem JQ {n:Int} {es:List Ed} {r:List (List Int)} {l:List Int} (g:bY n es r) (h:eW es r l):dI (kj r l) (2 * es.length):=by
 obtain ⟨m0,m1,m2,_⟩:=g.may
 have hn:=g.len
 have hl:=h.1
 have hh:=yx g h
 refine ⟨?_,fun i=>?_,fun i k hk=>?_⟩
 ·unfold kj
  rw [List.length_append]
  have:=uK (nxt:=l) (k:=l.length)
  have:=yv (r:=r) (k:=r.length)
  omega
 ·by_cases e:(kj r l).getD i []=[]
  ·rw [e];exact Nat.zero_le _
  ·rcases uL (AT e) with h1|⟨h,_,h1,_⟩
   ·rw [h1];exact Nat.zero_le _
   ·rw [h1]
    have:=Mj (nxt:=l) (m:=l.length) (k:=h) (s:=(aV l h).1) (f:=[])
    simp only [List.length_nil] at this
    omega
 ·have e:(kj r l).getD i []≠[]:=by intro e;rw [e] at hk;simp at hk
  rcases uL (AT e) with h1|⟨h,h0,h1,_⟩
  ·exact absurd h1 e
  ·have:=Qq hh (m:=l.length) (s:=(aV l h).1) (f:=[]) h0 (fun x hx=>by cases hx) ((kj r l).getD i [])[k] (by rw [← h1];exact List.getElem_mem hk)
   obtain ⟨q,q1,q2⟩:=this
   exact ⟨q,by rw [List.getElem?_eq_getElem hk,q1],by omega⟩
def AU (l:List Int) (i:Nat) (f:List Int):List Int:=f.foldl (fun l h=>l.set h.toNat (i:Int)) l
def KI (m:Nat) (fs:List (List Int)) (k:Nat):List Int:=(List.range k).foldl (fun l i=>AU l i (fs.getD i [])) (List.replicate m 0)
theorem pN {m k:Nat} {fs:List (List Int)}:KI m fs (k + 1)=AU (KI m fs k) k (fs.getD k []):=by
 unfold KI
 rw [List.range_succ,List.foldl_append];rfl
theorem AV {l f:List Int} {i k:Nat} {x:Int} (h:f[k]?=some x):AU l i (f.take (k + 1))=(AU l i (f.take k)).set x.toNat (i:Int):=by
 unfold AU
 rw [List.take_add_one,h,List.foldl_append];rfl
theorem yz {i:Nat}:∀{f l:List Int},(AU l i f).length=l.length:=by
 intro f
 induction f with
 | nil=>intro l;rfl
 | cons x f ih=>
  intro l
  show (AU (l.set x.toNat (i:Int)) i f).length=_
  rw [ih,List.length_set]
theorem yA {m:Nat} {fs:List (List Int)}:∀{k:Nat},(KI m fs k).length=m:=by
 intro k
 induction k with
 | zero=>show (List.replicate m 0).length=m;rw [List.length_replicate]
 | succ k ih=>rw [pN,yz,ih]
noncomputable def eu (es:List Ed) (r:List (List Int)):List Int:=KI (2 * es.length) (aD es r) (aD es r).length
end Go.Eng

namespace Go.Eng
variable {A:aG} {H H':Heap} {nx nx':Nat} {σ:aP} {Q:cw}
set_option maxRecDepth 100000
theorem vP {f:FuncId} (hf:A.funcs f=some wQ) (hh:∀vs H nx,A.aH f vs H nx=none)
  (UN:A.funcs 72=some pD) (JR:∀vs H nx,A.aH 72 vs H nx=none) (G4:A.funcs 43=some rJ) (sg:∀vs H nx,A.aH 43 vs H nx=none)
  (UO:A.funcs 73=some uD) (JS:∀vs H nx,A.aH 73 vs H nx=none) (CN:A.funcs 101=some qQ) (uJ:∀vs H nx,A.aH 101 vs H nx=none)
  {n:Int} {ev rv:Value} {es:List Ed} {r:List (List Int)} (h0:bq n es r=0) (he:bP H nx 2 bH ev es) (hr:dZ H nx 1 aW rv r) (cD:bX r) :
  WF A f [.agg #[.int .i64 n,ev],rv] H nx fun v H' nx'=>∃fv nx0,v=oneOf [fv,.int .i64 0]∧nx≤nx0∧nx0≤nx'∧LL H' nx0 nx' fv (aD es r)∧an H H' nx:=by
 have g:=cd h0
 obtain ⟨m0,m1,m2,_⟩:=g.may
 obtain ⟨base,ec,rfl⟩:=he.form
 obtain ⟨bu,rc,rfl⟩:=hr.form
 refine WF.enter (hh _ _ _) hf ?_
 repeat' (first|((first|refine WO.n rfl ?_|refine WO.k rfl ?_);(first|refine aK ?_|refine jL ?_|refine aJ ?_))|with_reducible (first|refine WO.nil ?_|refine WC.aa ?_|refine WC.seq ?_|refine aA ?_))
 have bg:an H (aI H nx [.int .i64 n,.slice base es.length ec]) nx:=an.refl.set (Nat.le_refl _)
 refine WO.cn rfl ?_
 refine (mN UN G4 JR sg ((he.same bg).up (Nat.le_succ _)) ((hr.same bg).up (Nat.le_succ _)) cD).of ?_
 rintro _ H1 aY ⟨rfl,aS,b9⟩
 have bn:an H H1 nx:=bg.trans aS (by omega)
 have dJ:Rd H1 nx [.int .i64 n,.slice base es.length ec]:=aS.rd (by omega) Rd.self
 rw [h0]
 repeat' (first|((first|refine WO.n rfl ?_|refine WO.k rfl ?_);(first|refine aK ?_|refine aJ ?_|(refine ke (fun h=>?_) (fun h=>?_)<;>(try simp only [Int.ofNat_eq_natCast] at h))))|with_reducible (first|refine WO.nil ?_|refine WC.aa ?_|refine WC.seq ?_|refine WC.skip ?_|refine WC.ret ?_)|refine WC.ax rfl ?_|refine WC.ay rfl ?_|with_reducible (first|refine aA ?_|refine dX ?_))
 ·omega
 refine WO.cn rfl ?_
 refine (oA UO JS CN uJ g ((he.same bn).up (by omega)) ((hr.same bn).up (by omega)) cD (by omega)).of ?_
 rintro fv H2 nx2 ⟨nx0,r9,fq,hL,bI⟩
 repeat' (first|(refine WO.k rfl ?_;refine aK ?_)|with_reducible (first|refine WO.nil ?_|refine WC.ret ?_|refine aA ?_))
 exact az (vs:=[_,_]) rfl ⟨fv,nx0,rfl,by omega,fq,hL,bn.trans bI (by omega)⟩
theorem JT {m i:Nat} {fs:List (List Int)} {na nx0 nb lb:Nat} {ib:Option Addr} {ic lc:Nat} {fv:Value} {Ha H0:Heap} {l:List Int} (ok:dI fs m)
  (hi:bP H0 nb 1 aW (.slice ib (fs.getD i []).length ic) (fs.getD i [])) (By:l.length=m) (sH:i≤1048576)
  (BQ:∀q,cf (.slice ib (fs.getD i []).length ic)=some q→nx0≤q) (hl:au H lb l) (UP:na≤lb) (vn:lb < nx0) (p5:lb < nx) (bN:an Ha H na) (dW:da H0 H nx0 nb)
  (aC:∀σ H' nx',aT [(S7,.slice (some ⟨lb,0,some 1⟩) m lc),(vM,fv),(wP,.int .i64 ((fs.length:Nat):Int)),(AE,.int .i64 ((i:Nat):Int))] σ→
   au H' lb (AU l i (fs.getD i []))→an Ha H' na→da H0 H' nx0 nb→nx≤nx'→Q (.exit 2) σ H' nx') :
  WC A (.loop PM) [(S7,.slice (some ⟨lb,0,some 1⟩) m lc),(vM,fv),(wP,.int .i64 ((fs.length:Nat):Int)),(AE,.int .i64 ((i:Nat):Int)),(S8,.int .i64 ((i:Nat):Int)),(AF,.slice ib (fs.getD i []).length ic),(yd,.int .i64 (((fs.getD i []).length:Nat):Int)),(G0,.int .i64 0)] H nx Q:=by
 refine WC.loop (α:=Nat) (fun k=>[(S7,.slice (some ⟨lb,0,some 1⟩) m lc),(vM,fv),(wP,.int .i64 ((fs.length:Nat):Int)),(AE,.int .i64 ((i:Nat):Int)),(S8,.int .i64 ((i:Nat):Int)),(AF,.slice ib (fs.getD i []).length ic),(yd,.int .i64 (((fs.getD i []).length:Nat):Int)),(G0,.int .i64 ((k:Nat):Int))])
  (fun k H' nx'=>k≤(fs.getD i []).length∧nx≤nx'∧au H' lb (AU l i ((fs.getD i []).take k))∧an Ha H' na∧da H0 H' nx0 nb) (fun k=>(fs.getD i []).length - k)
  ?_ 0 aN ⟨Nat.zero_le _,Nat.le_refl _,hl,bN,dW⟩
 rintro k H1 aY ⟨hk,b9,gx,aQ,oB⟩
 have gO:=ok.row i
 have F7:ao H1 (at_ lb)=some (.cells ((AU l i ((fs.getD i []).take k)).map (.int .i64))):=gx
 have hlen:(AU l i ((fs.getD i []).take k)).length=m:=by rw [yz];exact By
 unfold PM
 repeat' (first|((first|refine WO.n rfl ?_|refine WO.k rfl ?_);(refine dt (fun h=>?_) (fun h=>?_)<;>(try simp only [Int.ofNat_eq_natCast] at h)))|with_reducible (first|refine WO.nil ?_|refine WC.aa ?_|refine WC.seq ?_|refine WC.skip ?_|refine WC.exit ?_|refine WC.block ?_)|refine WC.ax rfl ?_|refine WC.ay rfl ?_|with_reducible (first|refine aA ?_|refine ef ?_))
 ·have bF:k < (fs.getD i []).length:=by omega
  obtain ⟨bb,bo,D7,rfl,ou,_,_,qU,oy⟩:=hi.at (by intro e;rw [e] at bF;simp at bF)
  obtain ⟨q,hq,KJ⟩:=ok.JN i k bF
  have q1:=en (v:=.int .i64 (q:Int)) (oy k _ hq)
  have sf:=oB.rd (BQ bb rfl) ou qU
  have bS:=AV (l:=l) (i:=i) hq
  rw [Int.toNat_natCast] at bS
  repeat' (first|((first|refine WO.n rfl ?_|refine WO.k rfl ?_);(first|refine aK ?_|refine bj ?_|refine aZ ?_|refine ep ?_|refine ba ?_))|with_reducible (first|refine WO.nil ?_|refine WC.aa ?_|refine aA ?_|refine dY ?_))
  refine ⟨k + 1,by show (fs.getD i []).length - (k + 1) < (fs.getD i []).length - k;omega,.cons rfl aN,by omega,by omega,?_,aQ.set (by omega),oB.set (by omega)⟩
  rw [bS]
  unfold au
  rw [aw,List.map_set]
  congr 3
  first|done|rfl|omega
 ·have:k=(fs.getD i []).length:=by omega
  subst this
  rw [List.take_length] at gx
  exact aC _ _ _ aN gx aQ oB b9
theorem JU {m:Nat} {fs:List (List Int)} {na nx0 nb lb:Nat} {fb:Option Addr} {fc lc:Nat} {Ha H0:Heap} (ok:dI fs m)
  (yR:LL H0 nx0 nb (.slice fb fs.length fc) fs) (hl:au H lb (List.replicate m 0)) (UP:na≤lb) (vn:lb < nx0) (p5:lb < nx) (bN:an Ha H na) (dW:da H0 H nx0 nb)
  (aC:∀σ H' nx',aT [(S7,.slice (some ⟨lb,0,some 1⟩) m lc)] σ→au H' lb (KI m fs fs.length)→an Ha H' na→da H0 H' nx0 nb→nx≤nx'→Q (.exit 0) σ H' nx') :
  WC A (.loop PN) [(S7,.slice (some ⟨lb,0,some 1⟩) m lc),(vM,.slice fb fs.length fc),(wP,.int .i64 ((fs.length:Nat):Int)),(AE,.int .i64 0)] H nx Q:=by
 refine WC.loop (α:=Nat) (fun v=>[(S7,.slice (some ⟨lb,0,some 1⟩) m lc),(vM,.slice fb fs.length fc),(wP,.int .i64 ((fs.length:Nat):Int)),(AE,.int .i64 ((v:Nat):Int))])
  (fun v H' nx'=>v≤fs.length∧nx≤nx'∧au H' lb (KI m fs v)∧an Ha H' na∧da H0 H' nx0 nb) (fun v=>fs.length - v)
  ?_ 0 aN ⟨Nat.zero_le _,Nat.le_refl _,hl,bN,dW⟩
 rintro v H1 aY ⟨hv,b9,gx,aQ,oB⟩
 have Ml:=ok.Bz
 have gO:=ok.row v
 unfold PN
 repeat' (first|((first|refine WO.n rfl ?_|refine WO.k rfl ?_);(refine dt (fun h=>?_) (fun h=>?_)<;>(try simp only [Int.ofNat_eq_natCast] at h)))|with_reducible (first|refine WO.nil ?_|refine WC.aa ?_|refine WC.seq ?_|refine WC.skip ?_|refine WC.exit ?_|refine WC.block ?_)|refine WC.ax rfl ?_|refine WC.ay rfl ?_|with_reducible (first|refine aA ?_|refine ef ?_))
 ·have qV:v < fs.length:=by omega
  have jA:fs.getD v []=fs[v]:=by rw [List.getD_eq_getElem?_getD,List.getElem?_eq_getElem qV];rfl
  obtain ⟨rb,ro,vO,ib,ic,rfl,oJ,jo,iP,iD,hi,BQ⟩:=yR.at qV
  rw [← jA] at iD hi BQ
  have kg:=oB.rd oJ jo iP
  repeat' (first|((first|refine WO.n rfl ?_|refine WO.k rfl ?_);(first|refine aK ?_|refine cH ?_|refine bj ?_|refine aZ ?_))|with_reducible (first|refine WO.nil ?_|refine WC.aa ?_|refine WC.seq ?_|refine WC.block ?_|refine aA ?_))
  refine WC.sub aN (JT ok hi yA (by omega) BQ gx UP vn (by omega) aQ oB (fun σ H2 nx2 hσ lX dk JH fq=>?_))
  refine ew (dY (aA (WC.sub hσ ?_)))
  repeat' (first|((first|refine WO.n rfl ?_|refine WO.k rfl ?_);(first|refine aK ?_|refine ba ?_))|with_reducible (first|refine WO.nil ?_|refine WC.aa ?_))
  exact ⟨v + 1,by show fs.length - (v + 1) < fs.length - v;omega,.cons rfl aN,by omega,by omega,by rw [pN];exact lX,dk,JH⟩
 ·have:v=fs.length:=by omega
  subst this
  exact aC _ _ _ aN gx aQ oB b9
theorem CP {n:Int} {es:List Ed} {r:List (List Int)} {l:List Int} (g:bY n es r) (h:eW es r l):dI (aD es r) (2 * es.length):=by
 unfold aD
 rw [jb g h]
 exact JQ g h
theorem Mm {f:FuncId} (hf:A.funcs f=some xOf) (hh:∀vs H nx,A.aH f vs H nx=none)
  (UN:A.funcs 72=some pD) (JR:∀vs H nx,A.aH 72 vs H nx=none) (G4:A.funcs 43=some rJ) (sg:∀vs H nx,A.aH 43 vs H nx=none)
  (UO:A.funcs 73=some uD) (JS:∀vs H nx,A.aH 73 vs H nx=none) (CN:A.funcs 101=some qQ) (uJ:∀vs H nx,A.aH 101 vs H nx=none)
  {n:Int} {ev rv:Value} {es:List Ed} {r:List (List Int)} (h0:bq n es r=0) (ok:dI (aD es r) (2 * es.length)) (he:bP H nx 2 bH ev es) (hr:dZ H nx 1 aW rv r) (cD:bX r) :
  WF A f [.agg #[.int .i64 n,ev],rv] H nx fun v H' nx'=>∃b c,v=oneOf [.slice (some ⟨b,0,some 1⟩) (2 * es.length) c,.int .i64 0]∧2 * es.length≤aE c∧nx≤b∧b < nx'∧au H' b (eu es r)∧an H H' nx∧nx≤nx':=by
 have g:=cd h0
 obtain ⟨m0,m1,m2,_⟩:=g.may
 obtain ⟨base,ec,rfl⟩:=he.form
 obtain ⟨bu,rc,rfl⟩:=hr.form
 refine WF.enter (hh _ _ _) hf ?_
 repeat' (first|((first|refine WO.n rfl ?_|refine WO.k rfl ?_);(first|refine aK ?_|refine jL ?_|refine aJ ?_))|with_reducible (first|refine WO.nil ?_|refine WC.aa ?_|refine WC.seq ?_|refine aA ?_))
 have bg:an H (aI H nx [.int .i64 n,.slice base es.length ec]) nx:=an.refl.set (Nat.le_refl _)
 refine WO.cn rfl ?_
 refine (mN UN G4 JR sg ((he.same bg).up (Nat.le_succ _)) ((hr.same bg).up (Nat.le_succ _)) cD).of ?_
 rintro _ H1 aY ⟨rfl,aS,b9⟩
 have bn:an H H1 nx:=bg.trans aS (by omega)
 have dJ:Rd H1 nx [.int .i64 n,.slice base es.length ec]:=aS.rd (by omega) Rd.self
 rw [h0]
 repeat' (first|((first|refine WO.n rfl ?_|refine WO.k rfl ?_);(first|refine aK ?_|refine cI ?_|refine cH ?_|refine aJ ?_|refine mI ?_|(refine ke (fun h=>?_) (fun h=>?_)<;>(try simp only [Int.ofNat_eq_natCast] at h))|refine qN ?_))|with_reducible (first|refine WO.nil ?_|refine WC.aa ?_|refine WC.seq ?_|refine WC.skip ?_|refine WC.ret ?_)|refine WC.ax rfl ?_|refine WC.ay rfl ?_|with_reducible (first|refine aA ?_|refine dX ?_))
 ·omega
 have bt:=bn.set (H1:=H1) (b:=aY) (cs:=a7 [.int .i64 0] (2 * es.length)) (by omega)
 refine WO.ck rfl ?_
 refine (oA UO JS CN uJ g ((he.same bt).up (by omega)) ((hr.same bt).up (by omega)) cD (by omega)).of ?_
 rintro fv H2 nx2 ⟨nx0,r9,fq,hL,bI⟩
 obtain ⟨fb,fc,rfl⟩:=hL.form
 repeat' (first|(refine WO.k rfl ?_;(first|refine aK ?_|refine cH ?_))|with_reducible (first|refine WO.nil ?_|refine WC.block ?_|refine aA ?_))
 have j8:au H2 aY (List.replicate (2 * es.length) 0):=er ((bI aY (by omega)).trans aw)
 refine WC.sub aN (JU (na:=nx) (nx0:=nx0) (nb:=nx2) ok hL j8 (by omega) (by omega) (by omega) (bt.trans bI (by omega)) .refl (fun σ H3 iY hσ Qo eL Zx se=>?_))
 refine ew (aA (WC.sub hσ ?_))
 repeat' (first|(refine WO.k rfl ?_;refine aK ?_)|with_reducible (first|refine WO.nil ?_|refine WC.aa ?_|refine WC.seq ?_|refine WC.ret ?_|refine aA ?_))
 exact az (vs:=[_,_]) rfl ⟨_,_,rfl,by rw [dp];omega,by omega,by omega,Qo,eL,by omega⟩
theorem Gc {m i:Nat} {fs:List (List Int)} {na nx0 nb lb:Nat} {fb:Option Addr} {fc lc:Nat} {Ha H0:Heap} {l:List Int} (ok:dI fs m)
  (yR:LL H0 nx0 nb (.slice fb fs.length fc) fs) (By:l.length=m) (sH:i < fs.length)
  (hl:au H lb l) (UP:na≤lb) (vn:lb < nx0∨nb≤lb) (p5:lb < nx) (bN:an Ha H na) (dW:da H0 H nx0 nb)
  (aC:∀σ H' nx',aT [(S5,.slice fb fs.length fc),(S6,.slice (some ⟨lb,0,some 1⟩) m lc),(S7,.int .i64 ((i:Nat):Int))] σ→
   au H' lb (AU l i (fs.getD i []))→an Ha H' na→da H0 H' nx0 nb→nx≤nx'→Q (.exit 2) σ H' nx') :
  WC A (.loop Jq) [(S5,.slice fb fs.length fc),(S6,.slice (some ⟨lb,0,some 1⟩) m lc),(S7,.int .i64 ((i:Nat):Int)),(S8,.int .i64 0)] H nx Q:=by
 refine WC.loop (α:=Nat) (fun k=>[(S5,.slice fb fs.length fc),(S6,.slice (some ⟨lb,0,some 1⟩) m lc),(S7,.int .i64 ((i:Nat):Int)),(S8,.int .i64 ((k:Nat):Int))])
  (fun k H' nx'=>k≤(fs.getD i []).length∧nx≤nx'∧au H' lb (AU l i ((fs.getD i []).take k))∧an Ha H' na∧da H0 H' nx0 nb) (fun k=>(fs.getD i []).length - k)
  ?_ 0 aN ⟨Nat.zero_le _,Nat.le_refl _,hl,bN,dW⟩
 rintro k H1 aY ⟨hk,b9,gx,aQ,oB⟩
 have gO:=ok.row i
 have Ml:=ok.Bz
 have F7:ao H1 (at_ lb)=some (.cells ((AU l i ((fs.getD i []).take k)).map (.int .i64))):=gx
 have hlen:(AU l i ((fs.getD i []).take k)).length=m:=by rw [yz];exact By
 have jA:fs.getD i []=fs[i]:=by rw [List.getD_eq_getElem?_getD,List.getElem?_eq_getElem sH];rfl
 obtain ⟨rb,ro,vO,ib,ic,rfl,oJ,jo,iP,iD,hi,BQ⟩:=yR.at sH
 rw [← jA] at iD hi BQ
 have kg:=oB.rd oJ jo iP
 unfold Jq
 repeat' (first|((first|refine WO.n rfl ?_|refine WO.k rfl ?_);(first|refine cH ?_|refine bj ?_|refine aZ ?_|(refine dt (fun h=>?_) (fun h=>?_)<;>(try simp only [Int.ofNat_eq_natCast] at h))))|with_reducible (first|refine WO.nil ?_|refine WC.aa ?_|refine WC.seq ?_|refine WC.skip ?_|refine WC.exit ?_|refine WC.block ?_)|refine WC.ax rfl ?_|refine WC.ay rfl ?_|with_reducible (first|refine aA ?_|refine ef ?_))
 ·have bF:k < (fs.getD i []).length:=by omega
  obtain ⟨bb,bo,D7,rfl,ou,_,_,qU,oy⟩:=hi.at (by intro e;rw [e] at bF;simp at bF)
  obtain ⟨q,hq,KJ⟩:=ok.JN i k bF
  have q1:=en (v:=.int .i64 (q:Int)) (oy k _ hq)
  have sf:=oB.rd (BQ bb rfl) ou qU
  have bS:=AV (l:=l) (i:=i) hq
  rw [Int.toNat_natCast] at bS
  repeat' (first|((first|refine WO.n rfl ?_|refine WO.k rfl ?_);(first|refine aK ?_|refine bj ?_|refine aZ ?_|refine ep ?_|refine ba ?_))|with_reducible (first|refine WO.nil ?_|refine WC.aa ?_|refine aA ?_|refine dY ?_))
  refine ⟨k + 1,by show (fs.getD i []).length - (k + 1) < (fs.getD i []).length - k;omega,.cons rfl aN,by omega,by omega,?_,aQ.set (by omega),oB.set (by omega)⟩
  rw [bS]
  unfold au
  rw [aw,List.map_set]
  congr 3
  first|done|rfl|omega
 ·have:k=(fs.getD i []).length:=by omega
  subst this
  rw [List.take_length] at gx
  exact aC _ _ _ aN gx aQ oB b9
theorem Gd {m:Nat} {fs:List (List Int)} {na nx0 nb lb:Nat} {fb:Option Addr} {fc lc:Nat} {Ha H0:Heap} (ok:dI fs m)
  (yR:LL H0 nx0 nb (.slice fb fs.length fc) fs) (hl:au H lb (List.replicate m 0)) (UP:na≤lb) (vn:lb < nx0∨nb≤lb) (p5:lb < nx) (bN:an Ha H na) (dW:da H0 H nx0 nb)
  (aC:∀σ H' nx',aT [(S6,.slice (some ⟨lb,0,some 1⟩) m lc)] σ→au H' lb (KI m fs fs.length)→an Ha H' na→da H0 H' nx0 nb→nx≤nx'→Q (.exit 0) σ H' nx') :
  WC A (.loop Jr) [(S5,.slice fb fs.length fc),(S6,.slice (some ⟨lb,0,some 1⟩) m lc),(S7,.int .i64 0)] H nx Q:=by
 refine WC.loop (α:=Nat) (fun v=>[(S5,.slice fb fs.length fc),(S6,.slice (some ⟨lb,0,some 1⟩) m lc),(S7,.int .i64 ((v:Nat):Int))])
  (fun v H' nx'=>v≤fs.length∧nx≤nx'∧au H' lb (KI m fs v)∧an Ha H' na∧da H0 H' nx0 nb) (fun v=>fs.length - v)
  ?_ 0 aN ⟨Nat.zero_le _,Nat.le_refl _,hl,bN,dW⟩
 rintro v H1 aY ⟨hv,b9,gx,aQ,oB⟩
 have Ml:=ok.Bz
 have gO:=ok.row v
 unfold Jr
 repeat' (first|((first|refine WO.n rfl ?_|refine WO.k rfl ?_);(first|refine aK ?_|refine cH ?_|(refine dt (fun h=>?_) (fun h=>?_)<;>(try simp only [Int.ofNat_eq_natCast] at h))))|with_reducible (first|refine WO.nil ?_|refine WC.aa ?_|refine WC.seq ?_|refine WC.skip ?_|refine WC.exit ?_|refine WC.block ?_)|refine WC.ax rfl ?_|refine WC.ay rfl ?_|with_reducible (first|refine aA ?_|refine ef ?_))
 ·have qV:v < fs.length:=by omega
  refine WC.sub aN (Gc ok yR yA qV gx UP vn (by omega) aQ oB (fun σ H2 nx2 hσ lX dk JH fq=>?_))
  refine ew (dY (aA (WC.sub hσ ?_)))
  repeat' (first|((first|refine WO.n rfl ?_|refine WO.k rfl ?_);(first|refine aK ?_|refine ba ?_))|with_reducible (first|refine WO.nil ?_|refine WC.aa ?_))
  exact ⟨v + 1,by show fs.length - (v + 1) < fs.length - v;omega,.cons rfl aN,by omega,by omega,by rw [pN];exact lX,dk,JH⟩
 ·have:v=fs.length:=by omega
  subst this
  exact aC _ _ _ aN gx aQ oB b9
theorem JV {f:FuncId} (hf:A.funcs f=some Us) (hh:∀vs H nx,A.aH f vs H nx=none)
  (Qr:A.funcs 12=some nf) (CQ:∀vs H nx,A.aH 12 vs H nx=none)
  (Mi:A.funcs 36=some uC) (yy:∀vs H nx,A.aH 36 vs H nx=none) (F8:A.funcs 35=some pE) (qW:∀vs H nx,A.aH 35 vs H nx=none)
  {n:Int} {ev rv:Value} {es:List Ed} {r:List (List Int)} (g:bY n es r) (ok:dI (aD es r) (2 * es.length)) (he:bP H nx 2 bH ev es) (hr:dZ H nx 1 aW rv r) (cD:bX r) :
  WF A f [.agg #[.int .i64 n,ev],rv] H nx fun v H' nx'=>∃b c,v=.slice (some ⟨b,0,some 1⟩) (2 * es.length) c∧2 * es.length≤aE c∧nx≤b∧b < nx'∧au H' b (eu es r)∧an H H' nx∧nx≤nx':=by
 obtain ⟨m0,m1,m2,_⟩:=g.may
 obtain ⟨base,ec,rfl⟩:=he.form
 obtain ⟨bu,rc,rfl⟩:=hr.form
 refine WF.enter (hh _ _ _) hf ?_
 repeat' (first|((first|refine WO.n rfl ?_|refine WO.k rfl ?_);(first|refine aK ?_|refine jL ?_|refine aJ ?_))|with_reducible (first|refine WO.nil ?_|refine WC.aa ?_|refine WC.seq ?_|refine aA ?_))
 have bg:an H (aI H nx [.int .i64 n,.slice base es.length ec]) nx:=an.refl.set (Nat.le_refl _)
 refine WO.cn rfl ?_
 refine (mQ Qr CQ Mi yy F8 qW g ((he.same bg).up (by omega)) ((hr.same bg).up (by omega)) cD (by omega)).of ?_
 rintro fv H2 nx2 ⟨nx0,r9,fq,hL,bI⟩
 obtain ⟨fb,fc,rfl⟩:=hL.form
 have j8:Rd H2 nx [.int .i64 n,.slice base es.length ec]:=bI.rd (by omega) Rd.self
 repeat' (first|((first|refine WO.n rfl ?_|refine WO.k rfl ?_);(first|refine aK ?_|refine cI ?_|refine cH ?_|refine aJ ?_|refine mI ?_|refine qN ?_))|with_reducible (first|refine WO.nil ?_|refine WC.aa ?_|refine WC.seq ?_|refine WC.block ?_|refine aA ?_))
 have bt:=(bg.trans bI (by omega)).set (b:=nx2) (cs:=a7 [.int .i64 0] (2 * es.length)) (by omega)
 refine WC.sub aN (Gd (na:=nx) (nx0:=nx0) (nb:=nx2) ok hL (er aw) (by omega) (by omega) (by omega) bt (da.refl.set (.inr (Nat.le_refl _))) (fun σ H3 iY hσ Qo eL Zx se=>?_))
 refine ew (aA (WC.sub hσ ?_))
 repeat' (first|(refine WO.k rfl ?_;refine aK ?_)|with_reducible (first|refine WO.nil ?_|refine WC.aa ?_|refine WC.seq ?_|refine WC.ret ?_|refine aA ?_))
 exact az (vs:=[_]) rfl ⟨_,_,rfl,by rw [dp];omega,by omega,by omega,Qo,eL,by omega⟩
end Go.Eng

namespace Go.Eng
def cg (es:List Ed) (k v:Nat):List Int:=((List.range k).filter fun h=>ct es h=(v:Int)).map fun (h:Nat)=>(h:Int)
def fY (es:List Ed) (n k:Nat):List (List Int):=(List.range n).map (cg es k)
theorem dH {es:List Ed} {n k:Nat}:(fY es n k).length=n:=by unfold fY;simp
theorem mR {es:List Ed} {n k v:Nat} (hv:v < n):(fY es n k)[v]?=some (cg es k v):=by
 unfold fY
 rw [List.getElem?_map,List.getElem?_range hv];rfl
theorem kO {es:List Ed} {n k v:Nat} (hv:v < n):(fY es n k).getD v []=cg es k v:=by
 rw [List.getD_eq_getElem?_getD,mR hv];rfl
theorem qX {es:List Ed} {k v:Nat}:cg es (k + 1) v=if ct es k=(v:Int) then cg es k v++[(k:Int)] else cg es k v:=by
 unfold cg
 rw [List.range_succ,List.filter_append,List.map_append]
 by_cases e:ct es k=(v:Int)
 ·rw [if_pos e,List.filter_cons_of_pos (by simpa using e)];rfl
 ·rw [if_neg e,List.filter_cons_of_neg (by simpa using e)]
  show _++[]=_
  rw [List.append_nil]
theorem w6 {es:List Ed} {n k v:Nat} (hv:v < n) (he:ct es k=(v:Int)):fY es n (k + 1)=(fY es n k).set v ((fY es n k).getD v []++[(k:Int)]):=by
 apply List.ext_getElem?
 intro i
 rw [List.getElem?_set,kO hv]
 by_cases hi:i < n
 ·rw [mR hi,qX,dH]
  by_cases e:v=i
  ·subst e
   rw [if_pos rfl,if_pos hv,if_pos he]
  ·rw [if_neg e,if_neg (by rw [he];omega),mR hi]
 ·rw [List.getElem?_eq_none (by rw [dH];omega)]
  by_cases e:v=i
  ·omega
  ·rw [if_neg e,List.getElem?_eq_none (by rw [dH];omega)]
theorem fm {es:List Ed} {k v:Nat}:(cg es k v).length≤k:=by
 unfold cg
 rw [List.length_map]
 refine Nat.le_trans (List.length_filter_le _ _) ?_
 rw [List.length_range];exact Nat.le_refl _
theorem pO {es:List Ed} {k v:Nat} {x:Int}:x∈cg es k v↔∃h:Nat,x=(h:Int)∧h < k∧ct es h=(v:Int):=by
 unfold cg
 constructor
 ·intro hx
  obtain ⟨h,h1,rfl⟩:=List.mem_map.1 hx
  obtain ⟨h2,h3⟩:=List.mem_filter.1 h1
  exact ⟨h,rfl,List.mem_range.1 h2,by simpa using h3⟩
 ·rintro ⟨h,rfl,h1,h2⟩
  exact List.mem_map.2 ⟨h,List.mem_filter.2 ⟨List.mem_range.2 h1,by simpa using h2⟩,rfl⟩
def GS (H:Heap) (nx0 nx ob:Nat) (ls:List (List Int)):Prop:=
 ∃us:List Value,us.length=ls.length∧ao H (at_ ob)=some (.cells us)∧(∀(i:Nat) (u:Value) (l:List Int),us[i]?=some u→ls[i]?=some l→bM H nx0 nx 1 u l.length (l.map (.int .i64)))∧∀(i j:Nat) (u w:Value) (b:Nat),us[i]?=some u→us[j]?=some w→cf u=some b→cf w=some b→i=j
section
variable {A:aG} {H H':Heap} {nx nx':Nat} {σ:aP} {L:List Value}
theorem uM:∀n:Nat,a7 [Value.slice none 0 0] n=List.replicate n (.slice none 0 0):=fun n=>iy _ n
theorem GS.zero {nx0 ob n:Nat} (h:ao H (at_ ob)=some (.cells (a7 [.slice none 0 0] n))):GS H nx0 nx ob (List.replicate n []):=by
 refine ⟨List.replicate n (.slice none 0 0),by simp,by rw [h,uM],fun i u l hu hl=>?_,fun i j u w b hu hw hbu=>?_⟩
 ·rw [List.getElem?_replicate] at hu hl
  split at hu
  ·rename_i hi
   rw [if_pos hi] at hl
   cases hu;cases hl
   exact .nil
  ·cases hu
 ·rw [List.getElem?_replicate] at hu
  split at hu
  ·cases hu;cases hbu
  ·cases hu
theorem qY {nx0 n b:Nat} {v:Value} {cs:List Value} (h:bM H nx0 nx 1 v n cs) (hb:cf v=some b):nx0≤b∧b < nx∧ao H (at_ b)=some (.cells cs)∧v=.slice (some ⟨b,0,some 1⟩) n (2 * n):=by
 obtain ⟨_,⟨rfl,_⟩|⟨c,rfl,g1,g2,g3⟩⟩:=h
 ·cases hb
 ·cases hb;exact ⟨g1,g2,g3,rfl⟩
theorem lJ {nx0 n:Nat} {v:Value} {cs:List Value} (h:bM H nx0 nx 1 v n cs):∃b c,v=.slice b n c:=by
 obtain ⟨_,⟨rfl,rfl⟩|⟨c,rfl,g1,g2,g3⟩⟩:=h
 ·exact ⟨_,_,rfl⟩
 ·exact ⟨_,_,rfl⟩
theorem GS.frame {nx0 ob:Nat} {ls:List (List Int)} (h:GS H nx0 nx ob ls) (ho:ao H' (at_ ob)=ao H (at_ ob)) (hs:da H H' nx0 nx) (hn:nx≤nx'):GS H' nx0 nx' ob ls:=by
 obtain ⟨us,h1,h2,h3,h4⟩:=h
 exact ⟨us,h1,ho.trans h2,fun i u l hu hl=>(h3 i u l hu hl).qL hs hn,h4⟩
theorem GS.row {nx0 ob v:Nat} {ls:List (List Int)} (h:GS H nx0 nx ob ls) (hv:v < ls.length) :
  ∃us u,us.length=ls.length∧ao H (at_ ob)=some (.cells us)∧us[0 + v * 1]?=some u∧bM H nx0 nx 1 u (ls.getD v []).length ((ls.getD v []).map (.int .i64)):=by
 obtain ⟨us,h1,h2,h3,_⟩:=h
 have hu:us[v]?=some us[v]:=List.getElem?_eq_getElem (by omega)
 refine ⟨us,us[v],h1,h2,by rw [Nat.zero_add,Nat.mul_one];exact hu,h3 v _ _ hu ?_⟩
 rw [List.getD_eq_getElem?_getD,List.getElem?_eq_getElem hv];rfl
theorem GS.push {nx0 ob v:Nat} {x:Int} {ls:List (List Int)} {us:List Value} {u:Value} {H1:Heap} (h:GS H nx0 nx ob ls) (hv:v < ls.length) (yQ:ao H (at_ ob)=some (.cells us)) (hu:us[0 + v * 1]?=some u)
  (ho:ob < nx0) (h0:nx0≤nx) (k1:ao H1 (at_ nx)=some (.cells ((ls.getD v []).map (.int .i64)++[.int .i64 x]))) (k2:∀b,nx0≤b→b < nx→cf u≠some b→ao H1 (at_ b)=ao H (at_ b)) :
  GS (aI H1 ob (us.set v (.slice (some ⟨nx,0,some 1⟩) ((ls.getD v []).length + 1) (2 * ((ls.getD v []).length + 1))))) nx0 (nx + 1) ob (ls.set v (ls.getD v []++[x])):=by
 obtain ⟨us',h1,h2,h3,h4⟩:=h
 rw [yQ] at h2
 cases h2
 rw [Nat.zero_add,Nat.mul_one] at hu
 refine ⟨us.set v (.slice (some ⟨nx,0,some 1⟩) ((ls.getD v []).length + 1) (2 * ((ls.getD v []).length + 1))),by rw [List.length_set,List.length_set];exact h1,by rw [aw],fun i w l hw hl=>?_,fun i j w w' b hw Oa hb eQ=>?_⟩
 ·rw [List.getElem?_set] at hw hl
  by_cases e:v=i
  ·subst e
   rw [if_pos rfl,if_pos (by omega)] at hw
   rw [if_pos rfl,if_pos hv] at hl
   cases hw;cases hl
   refine ⟨by simp,.inr ⟨nx,by simp,h0,by omega,?_⟩⟩
   rw [ak,if_neg (by omega),k1,List.map_append];rfl
  ·rw [if_neg e] at hw hl
   have hg:=h3 i w l hw hl
   obtain ⟨pZ,Rr|⟨b,rfl,g1,g2,g3⟩⟩:=hg
   ·exact ⟨pZ,.inl Rr⟩
   ·refine ⟨pZ,.inr ⟨b,rfl,g1,by omega,?_⟩⟩
    rw [ak,if_neg (by omega),k2 b g1 g2 (fun UQ=>e (h4 v i u _ b hu hw UQ rfl))]
    exact g3
 ·have key:∀(i:Nat) (w:Value) (b:Nat),(us.set v (.slice (some ⟨nx,0,some 1⟩) ((ls.getD v []).length + 1) (2 * ((ls.getD v []).length + 1))))[i]?=some w→cf w=some b→(i=v∧b=nx)∨(i≠v∧us[i]?=some w∧b < nx):=by
   intro i w b hw hb
   rw [List.getElem?_set] at hw
   by_cases e:v=i
   ·subst e
    rw [if_pos rfl,if_pos (by omega)] at hw
    cases hw;cases hb
    exact .inl ⟨rfl,rfl⟩
   ·rw [if_neg e] at hw
    have hi:i < us.length:=(List.getElem?_eq_some_iff.1 hw).1
    exact .inr ⟨fun h=>e h.symm,hw,(qY (h3 i w _ hw (List.getElem?_eq_getElem (by omega))) hb).2.1⟩
  rcases key i w b hw hb with ⟨rfl,e1⟩|⟨n1,w1,l1⟩<;>rcases key j w' b Oa eQ with ⟨e2,e3⟩|⟨n2,w2,l2⟩
  ·exact e2.symm
  ·omega
  ·omega
  ·exact h4 i j w w' b w1 w2 hb eQ
theorem bM.cell {nx0 k:Nat} {u:Value} {l:List Int} {x:Int} (h:bM H nx0 nx 1 u l.length (l.map (.int .i64))) (hx:l[k]?=some x):∃b c,u=.slice (some ⟨b,0,some 1⟩) l.length c∧nx0≤b∧b < nx∧ao H (at_ b)=some (.cells (l.map (.int .i64)))∧(l.map (Value.int .i64))[0 + k * 1]?=some (.int .i64 x):=by
 have hk:=(List.getElem?_eq_some_iff.1 hx).1
 obtain ⟨_,⟨_,h0⟩|⟨b,rfl,g1,g2,g3⟩⟩:=h
 ·omega
 ·exact ⟨b,_,rfl,g1,g2,g3,au.cell hx⟩
end
end Go.Eng

namespace Go.Eng
variable {A:aG} {H H':Heap} {nx nx':Nat} {σ:aP} {Q:cw}
set_option maxRecDepth 100000
theorem Mn {n:Int} {es:List Ed} {base:Option Addr} {c:Nat} {H:Heap} {nx:Nat} (he:bP H nx 2 bH (.slice base es.length c) es):km (.agg #[.int .i64 n,.slice base es.length c]) (.agg #[.int .i64 n,.slice base es.length c])=true:=by
 obtain ⟨DQ,c',q1,q2,_⟩:=he
 cases q1
 have:fa (.slice base es.length c) (.slice base es.length c)=true:=by
  cases base with
  | none=>obtain ⟨p1,rfl⟩:=q2 rfl;rw [p1];rfl
  | some a=>simp [fa]
 show (fa (.int .i64 n) (.int .i64 n)&&(fa (.slice base es.length c) (.slice base es.length c)&&true))=true
 rw [this];simp [fa]
theorem kk {n:Int} {es:List Ed} (hm:kp n es) {h:Nat} (hl:h < 2 * es.length):∃v:Nat,ct es h=(v:Int)∧(v:Int) < n:=by
 obtain ⟨_,_,_,dW⟩:=hm
 have lX:h / 2 < es.length:=by omega
 obtain ⟨q1,q2,q3,q4⟩:=dW es[h / 2] (List.getElem_mem lX)
 have hg:es.getD (h / 2) (0,0)=es[h / 2]:=by rw [List.getD_eq_getElem?_getD,List.getElem?_eq_getElem lX];rfl
 unfold ct
 rw [hg]
 split
 ·exact ⟨es[h / 2].1.toNat,by omega,by omega⟩
 ·exact ⟨es[h / 2].2.toNat,by omega,by omega⟩
theorem ouL {n:Int} {m nb ob:Nat} {es:List Ed} {base:Option Addr} {ec oc:Nat} {H0:Heap} (si:A.funcs 33=some kL) (iF:∀vs H nx,A.aH 33 vs H nx=none)
  (hm:kp n es) (ee:n=(m:Int)) (he:bP H0 nb 2 bH (.slice base es.length ec) es) (vn:nb < ob) (Ge:ob < nx) (hs:an H0 H nb) (po:Rd H nb [.int .i64 n,.slice base es.length ec])
  (hg:GS H (ob + 1) nx ob (List.replicate m []))
  (aC:∀σ H' nx',aT [(S3,.slice (some ⟨ob,0,some 1⟩) m oc)] σ→GS H' (ob + 1) nx' ob (fY es m (2 * es.length))→an H0 H' nb→nx≤nx'→Q (.exit 0) σ H' nx') :
  WC A (.loop PF) [(S1,.pointer (some ⟨nb,0,none⟩)),(S3,.slice (some ⟨ob,0,some 1⟩) m oc),(S4,.int .i64 0)] H nx Q:=by
 have eB:=hm.2.2.1
 have b9:=hm.2.1
 refine WC.loop (α:=Nat) (fun h=>[(S1,.pointer (some ⟨nb,0,none⟩)),(S3,.slice (some ⟨ob,0,some 1⟩) m oc),(S4,.int .i64 ((h:Nat):Int))])
  (fun h H' nx'=>h≤2 * es.length∧nx≤nx'∧GS H' (ob + 1) nx' ob (fY es m h)∧an H0 H' nb∧Rd H' nb [.int .i64 n,.slice base es.length ec]) (fun h=>2 * es.length - h)
  ?_ 0 aN ⟨Nat.zero_le _,Nat.le_refl _,by
   have:fY es m 0=List.replicate m []:=by
    apply List.ext_getElem?
    intro i
    by_cases hi:i < m
    ·rw [mR hi,List.getElem?_replicate,if_pos hi];rfl
    ·rw [List.getElem?_eq_none (by rw [dH];omega),List.getElem?_eq_none (by simp;omega)]
   rw [this];exact hg,hs,po⟩
 rintro q H1 aY ⟨hh,jB,pM,aS,hO⟩
 unfold PF
 repeat' (first|((first|refine WO.n rfl ?_|refine WO.k rfl ?_);(first|refine cI ?_|refine cH ?_|refine aJ ?_|(refine dt (fun h=>?_) (fun h=>?_)<;>(try simp only [Int.ofNat_eq_natCast] at h))|refine qN ?_))|with_reducible (first|refine WO.nil ?_|refine WC.aa ?_|refine WC.drawn ?_|refine WC.seq ?_|refine WC.skip ?_|refine WC.exit ?_|refine WC.block ?_)|refine WC.ax rfl ?_|refine WC.ay rfl ?_|with_reducible (first|refine aA ?_|refine ef ?_))
 ·have bR:q < 2 * es.length:=by omega
  obtain ⟨v,hv,Wl⟩:=kk hm bR
  have ve:v < m:=by omega
  have hvq:=Mn (n:=n) he
  refine WO.ca rfl ?_
  refine (kN si iF ((he.same aS).up (show nb≤aY by omega)) bR (by omega)).of ?_
  rintro _ H2 nx2 ⟨rfl,bI,fq⟩
  have pI:=bI.rd (by omega) hO
  refine ⟨bk.look rfl pI rfl rfl hvq .nil,?_⟩
  have bt:an H0 H2 nb:=aS.trans bI (by omega)
  refine WO.cn rfl ?_
  refine (kN si iF ((he.same bt).up (show nb≤nx2 by omega)) bR (by omega)).of ?_
  rintro _ H3 iY ⟨rfl,eL,se⟩
  have jC:an H0 H3 nb:=bt.trans eL (by omega)
  have Zy:=eL.rd (by omega) pI
  have UR:an H1 H3 aY:=bI.trans eL (by omega)
  have Mo:GS H3 (ob + 1) iY ob (fY es m q):=pM.frame (UR ob (by omega)) (fun b _ hb=>UR b hb) (by omega)
  rw [hv]
  obtain ⟨us,u,yO,yQ,Qs,vf⟩:=Mo.row (v:=v) (by rw [dH];exact ve)
  rw [dH] at yO
  obtain ⟨ub,uc,hu⟩:=lJ vf
  have Qt:Rd H3 ob us:=.inl yQ
  have AW:((fY es m q).getD v []).length≤q:=by rw [kO ve];exact fm
  repeat' (refine WO.n rfl ?_;(first|refine bj ?_|refine aZ ?_|refine iu ?_))
  refine WO.n rfl ?_
  have Qu:bM (aI H3 iY [.int .i64 (q:Int)]) (ob + 1) (iY + 1) 1 u ((fY es m q).getD v []).length (((fY es m q).getD v []).map (.int .i64)):=vf.qL (fun b _ hb=>by rw [ak,if_neg (by omega)]) (Nat.le_succ _)
  refine aM.j1 rfl rfl Qu (cN Rd.self rfl) (by omega) (by omega) rfl (by unfold small;omega) (by unfold small;omega) ?_
  intro H4 k1 k2
  have Ky:∀b,b < iY→cf u≠some b→ao H4 (at_ b)=ao H3 (at_ b):=by
   intro b hb cG
   rw [k2 b (by omega) (fun c z k e=>cG (by
    obtain ⟨_,⟨rfl,_⟩|⟨d,rfl,_⟩⟩:=vf
    ·cases e
    ·cases e;rfl)),ak,if_neg (by omega)]
  have NQ:=(Mo.frame (H':=aI H3 iY [.int .i64 (q:Int)]) (nx':=iY + 1) (by rw [ak,if_neg (by omega)]) (fun b _ hb=>by rw [ak,if_neg (by omega)]) (Nat.le_succ _)).push (x:=(q:Int)) (H1:=H4) (by rw [dH];exact ve) (by rw [ak,if_neg (by omega)];exact yQ) Qs (by omega) (by omega) k1
   (fun b h1 h2 cG=>k2 b h2 (fun c z k e=>cG (by
    obtain ⟨_,⟨rfl,_⟩|⟨d,rfl,_⟩⟩:=vf
    ·cases e
    ·cases e;rfl)))
  have fV:∀b,b≤ob→ao H4 (at_ b)=ao H3 (at_ b):=fun b hb=>Ky b (by omega) (fun e=>by have:=(qY vf e).1;omega)
  have Zz:ao H4 (at_ ob)=some (.cells us):=(fV ob (Nat.le_refl _)).trans yQ
  have ZA:us.length=m:=yO
  repeat' (first|((first|refine WO.n rfl ?_|refine WO.k rfl ?_);(first|refine aK ?_|refine aZ ?_|refine ep ?_|refine ba ?_))|with_reducible (first|refine WO.nil ?_|refine WC.aa ?_|refine aA ?_|refine dY ?_|refine nD ?_))
  refine ⟨q + 1,by omega,.cons rfl aN,by omega,by omega,?_,fun b hb=>?_,?_⟩
  ·rw [w6 ve hv]
   have e0:0 + v * 1=v:=by omega
   first|exact NQ|(rw [e0];exact NQ)
  ·rw [ak,if_neg (by omega),fV b (by omega)];exact jC b hb
  ·refine Rd.skip (by omega) ?_
   unfold Rd
   rw [fV nb (by omega)]
   exact Zy
 ·have:q=2 * es.length:=by omega
  subst this
  exact aC _ _ _ aN pM aS jB
theorem Gf {f:FuncId} (hf:A.funcs f=some wR) (hh:∀vs H nx,A.aH f vs H nx=none) (si:A.funcs 33=some kL) (iF:∀vs H nx,A.aH 33 vs H nx=none)
  {n:Int} {m:Nat} {ev:Value} {es:List Ed} (hm:kp n es) (ee:n=(m:Int)) (he:bP H nx 2 bH ev es) :
  WF A f [.agg #[.int .i64 n,ev]] H nx fun v H' nx'=>∃ob oc,v=.slice (some ⟨ob,0,some 1⟩) m oc∧m≤aE oc∧nx≤ob∧ob < nx'∧GS H' (ob + 1) nx' ob (fY es m (2 * es.length))∧an H H' nx∧nx≤nx':=by
 obtain ⟨base,ec,rfl⟩:=he.form
 have b9:=hm.2.1
 subst ee
 refine WF.enter (hh _ _ _) hf ?_
 repeat' (first|((first|refine WO.n rfl ?_|refine WO.k rfl ?_);(first|refine aK ?_|refine cI ?_|refine jL ?_|refine aJ ?_|refine mI ?_))|with_reducible (first|refine WO.nil ?_|refine WC.aa ?_|refine WC.seq ?_|refine WC.block ?_|refine aA ?_))
 have bg:an H (aI H nx [.int .i64 (m:Int),.slice base es.length ec]) nx:=an.refl.set (Nat.le_refl _)
 refine WC.sub aN (ouL (nb:=nx) (ob:=nx + 1) si iF hm rfl he (by omega) (by omega) (bg.set (by omega)) (Rd.skip (by omega) Rd.self) (GS.zero aw) (fun σ H2 nx2 hσ hg bI fq=>?_))
 refine ew (aA (WC.sub hσ ?_))
 repeat' (first|(refine WO.k rfl ?_;refine aK ?_)|with_reducible (first|refine WO.nil ?_|refine WC.aa ?_|refine WC.seq ?_|refine WC.ret ?_|refine aA ?_))
 exact az (vs:=[_]) rfl ⟨nx + 1,_,rfl,by rw [dp];omega,by omega,by omega,hg,bI,by omega⟩
theorem owI {n:Int} {m nb ob pb e:Nat} {es:List Ed} {base:Option Addr} {ec oc:Nat} {H0:Heap}
  (hm:kp n es) (ee:n=(m:Int)) (he:e < es.length) (vn:nb < ob) (BO:ob < pb) (hpx:pb < nx) (hs:an H0 H nb) (po:Rd H nb [.int .i64 n,.slice base es.length ec])
  (jJ:Rd H pb [.int .i64 n,.slice base es.length ec,.slice (some ⟨ob,0,some 1⟩) m oc])
  (hg:GS H (pb + 1) nx ob (fY es m (2 * e)))
  (aC:∀σ H' nx',aT [(S1,.pointer (some ⟨nb,0,none⟩)),(S3,.pointer (some ⟨pb,0,none⟩)),(iI,.slice base es.length ec),(iB,.int .i64 ((es.length:Nat):Int)),(ko,.int .i64 ((e:Nat):Int))] σ→GS H' (pb + 1) nx' ob (fY es m (2 * e + 2))→an H0 H' nb→Rd H' nb [.int .i64 n,.slice base es.length ec]→Rd H' pb [.int .i64 n,.slice base es.length ec,.slice (some ⟨ob,0,some 1⟩) m oc]→nx≤nx'→Q (.exit 2) σ H' nx') :
  WC A (.loop PR) [(S1,.pointer (some ⟨nb,0,none⟩)),(S3,.pointer (some ⟨pb,0,none⟩)),(iI,.slice base es.length ec),(iB,.int .i64 ((es.length:Nat):Int)),(ko,.int .i64 ((e:Nat):Int)),(S4,.int .i64 ((e:Nat):Int)),(va,.agg ⟨bH es[e]⟩),(sL,.int .i64 0)] H nx Q:=by
 have eB:=hm.2.2.1
 have b9:=hm.2.1
 refine WC.loop (α:=Nat) (fun d=>[(S1,.pointer (some ⟨nb,0,none⟩)),(S3,.pointer (some ⟨pb,0,none⟩)),(iI,.slice base es.length ec),(iB,.int .i64 ((es.length:Nat):Int)),(ko,.int .i64 ((e:Nat):Int)),(S4,.int .i64 ((e:Nat):Int)),(va,.agg ⟨bH es[e]⟩),(sL,.int .i64 ((d:Nat):Int))])
  (fun d H' nx'=>d≤2∧nx≤nx'∧GS H' (pb + 1) nx' ob (fY es m (2 * e + d))∧an H0 H' nb∧Rd H' nb [.int .i64 n,.slice base es.length ec]∧Rd H' pb [.int .i64 n,.slice base es.length ec,.slice (some ⟨ob,0,some 1⟩) m oc]) (fun d=>2 - d)
  ?_ 0 aN ⟨Nat.zero_le _,Nat.le_refl _,hg,hs,po,jJ⟩
 rintro d H1 aY ⟨hd,jB,pM,aS,hO,yB⟩
 have hc:d < 2→(bH es[e])[d * 1]?=some (.int .i64 (ct es (2 * e + d))):=by
  intro bR
  have kW:es.getD e (0,0)=es[e]:=by rw [List.getD_eq_getElem?_getD,List.getElem?_eq_getElem he];rfl
  rcases (show d=0∨d=1 by omega) with rfl|rfl
  ·unfold ct;rw [if_pos (by omega),show (2 * e + 0) / 2=e by omega,kW];rfl
  ·unfold ct;rw [if_neg (by omega),show (2 * e + 1) / 2=e by omega,kW];rfl
 unfold PR
 repeat' (first|((first|refine WO.n rfl ?_|refine WO.k rfl ?_);(refine dt (fun h=>?_) (fun h=>?_)<;>(try simp only [Int.ofNat_eq_natCast] at h)))|with_reducible (first|refine WO.nil ?_|refine WC.aa ?_|refine WC.seq ?_|refine WC.skip ?_|refine WC.exit ?_|refine WC.block ?_)|refine WC.ax rfl ?_|refine WC.ay rfl ?_|with_reducible (first|refine aA ?_|refine ef ?_))
 ·have bR:2 * e + d < 2 * es.length:=by omega
  have rV:=hc (by omega)
  clear hc
  obtain ⟨v,hv,Wl⟩:=kk hm bR
  have ve:v < m:=by omega
  rw [hv] at rV
  obtain ⟨us,u,yO,yQ,Qs,vf⟩:=pM.row (v:=v) (by rw [dH];exact ve)
  rw [dH] at yO
  obtain ⟨ub,uc,hu⟩:=lJ vf
  have Qt:Rd H1 ob us:=.inl yQ
  have AW:((fY es m (2 * e + d)).getD v []).length≤2 * e + d:=by rw [kO ve];exact fm
  repeat' (first|((first|refine WO.n rfl ?_|refine WO.k rfl ?_);(first|refine aK ?_|refine cI ?_|refine aJ ?_|refine bj ?_|refine aZ ?_|refine iu ?_|refine TH ?_|refine ba ?_|refine qN ?_|refine lD ?_))|with_reducible (first|refine WO.nil ?_|refine WC.drawn ?_|refine aA ?_))
  refine WO.na rfl ?_
  have Qu:bM (aI H1 aY [.int .i64 ((2 * e + d:Nat):Int)]) (pb + 1) (aY + 1) 1 u ((fY es m (2 * e + d)).getD v []).length (((fY es m (2 * e + d)).getD v []).map (.int .i64)):=vf.qL (fun b _ hb=>by rw [ak,if_neg (by omega)]) (Nat.le_succ _)
  refine aM.j1 rfl rfl Qu (cN Rd.self rfl) (by omega) (by omega) rfl (by unfold small;omega) (by unfold small;omega) ?_
  intro H4 k1 k2
  have Ky:∀b,b < aY→cf u≠some b→ao H4 (at_ b)=ao H1 (at_ b):=by
   intro b hb cG
   rw [k2 b (by omega) (fun c z k e=>cG (by
    obtain ⟨_,⟨rfl,_⟩|⟨d,rfl,_⟩⟩:=vf
    ·cases e
    ·cases e;rfl)),ak,if_neg (by omega)]
  have NQ:=(pM.frame (H':=aI H1 aY [.int .i64 ((2 * e + d:Nat):Int)]) (nx':=aY + 1) (by rw [ak,if_neg (by omega)]) (fun b _ hb=>by rw [ak,if_neg (by omega)]) (Nat.le_succ _)).push (x:=((2 * e + d:Nat):Int)) (H1:=H4) (by rw [dH];exact ve) (by rw [ak,if_neg (by omega)];exact yQ) Qs (by omega) (by omega) k1
   (fun b h1 h2 cG=>k2 b h2 (fun c z k e=>cG (by
    obtain ⟨_,⟨rfl,_⟩|⟨d,rfl,_⟩⟩:=vf
    ·cases e
    ·cases e;rfl)))
  have fV:∀b,b≤pb→ao H4 (at_ b)=ao H1 (at_ b):=fun b hb=>Ky b (by omega) (fun e=>by have:=(qY vf e).1;omega)
  have Zz:ao H4 (at_ ob)=some (.cells us):=(fV ob (by omega)).trans yQ
  have US:Rd H4 pb [.int .i64 n,.slice base es.length ec,.slice (some ⟨ob,0,some 1⟩) m oc]:=by
   unfold Rd
   rw [fV pb (Nat.le_refl _)]
   exact yB
  have ZA:us.length=m:=yO
  refine ⟨bk.look rfl US rfl rfl (by simp [km,fa]) .nil,?_⟩
  repeat' (first|((first|refine WO.n rfl ?_|refine WO.k rfl ?_);(first|refine aK ?_|refine aZ ?_|refine ep ?_|refine ba ?_))|with_reducible (first|refine WO.nil ?_|refine WC.aa ?_|refine aA ?_|refine dY ?_|refine nD ?_))
  refine ⟨d + 1,by omega,.cons rfl aN,by omega,by omega,?_,fun b hb=>?_,?_,Rd.skip (by omega) US⟩
  ·rw [show 2 * e + (d + 1)=2 * e + d + 1 by omega,w6 ve hv]
   have e0:0 + v * 1=v:=by omega
   first|exact NQ|(rw [e0];exact NQ)
  ·rw [ak,if_neg (by omega),fV b (by omega)];exact aS b hb
  ·refine Rd.skip (by omega) ?_
   unfold Rd
   rw [fV nb (by omega)]
   exact hO
 ·have:d=2:=by omega
  subst this
  exact aC _ _ _ aN pM aS hO yB jB
theorem owO {n:Int} {m nb ob pb:Nat} {es:List Ed} {base:Option Addr} {ec oc:Nat} {H0:Heap}
  (hm:kp n es) (ee:n=(m:Int)) (he:bP H0 nb 2 bH (.slice base es.length ec) es) (vn:nb < ob) (BO:ob < pb) (hpx:pb < nx) (hs:an H0 H nb) (po:Rd H nb [.int .i64 n,.slice base es.length ec])
  (jJ:Rd H pb [.int .i64 n,.slice base es.length ec,.slice (some ⟨ob,0,some 1⟩) m oc])
  (hg:GS H (pb + 1) nx ob (fY es m 0))
  (aC:∀σ H' nx',aT [(S3,.pointer (some ⟨pb,0,none⟩))] σ→GS H' (pb + 1) nx' ob (fY es m (2 * es.length))→an H0 H' nb→Rd H' pb [.int .i64 n,.slice base es.length ec,.slice (some ⟨ob,0,some 1⟩) m oc]→nx≤nx'→Q (.exit 0) σ H' nx') :
  WC A (.loop PT) [(S1,.pointer (some ⟨nb,0,none⟩)),(S3,.pointer (some ⟨pb,0,none⟩)),(iI,.slice base es.length ec),(iB,.int .i64 ((es.length:Nat):Int)),(ko,.int .i64 0)] H nx Q:=by
 have eB:=hm.2.2.1
 have b9:=hm.2.1
 refine WC.loop (α:=Nat) (fun e=>[(S1,.pointer (some ⟨nb,0,none⟩)),(S3,.pointer (some ⟨pb,0,none⟩)),(iI,.slice base es.length ec),(iB,.int .i64 ((es.length:Nat):Int)),(ko,.int .i64 ((e:Nat):Int))])
  (fun e H' nx'=>e≤es.length∧nx≤nx'∧GS H' (pb + 1) nx' ob (fY es m (2 * e))∧an H0 H' nb∧Rd H' nb [.int .i64 n,.slice base es.length ec]∧Rd H' pb [.int .i64 n,.slice base es.length ec,.slice (some ⟨ob,0,some 1⟩) m oc]) (fun e=>es.length - e)
  ?_ 0 aN ⟨Nat.zero_le _,Nat.le_refl _,hg,hs,po,jJ⟩
 rintro e H1 aY ⟨hd,jB,pM,aS,hO,yB⟩
 unfold PT
 repeat' (first|((first|refine WO.n rfl ?_|refine WO.k rfl ?_);(refine dt (fun h=>?_) (fun h=>?_)<;>(try simp only [Int.ofNat_eq_natCast] at h)))|with_reducible (first|refine WO.nil ?_|refine WC.aa ?_|refine WC.seq ?_|refine WC.skip ?_|refine WC.exit ?_|refine WC.block ?_)|refine WC.ax rfl ?_|refine WC.ay rfl ?_|with_reducible (first|refine aA ?_|refine ef ?_))
 ·have bR:e < es.length:=by omega
  obtain ⟨eb,eo,G2,rfl,mK,_,_,yS,vN⟩:=he.at (by intro e';rw [e'] at bR;simp at bR)
  have q3:=vN e _ (List.getElem?_eq_getElem bR)
  have F5:=aS.rd mK yS
  repeat' (first|((first|refine WO.n rfl ?_|refine WO.k rfl ?_);(first|refine aK ?_|refine uw ?_|refine aJ ?_|refine IT ?_|refine aZ ?_|refine iQ ?_))|with_reducible (first|refine WO.nil ?_|refine WC.aa ?_|refine WC.seq ?_|refine WC.block ?_|refine aA ?_))
  refine WC.sub aN (owI (nb:=nb) (ob:=ob) (pb:=pb) (e:=e) (H0:=H0) hm ee bR vn BO (by omega) ((aS.set (by omega)).set (by omega)) (Rd.skip (by omega) (Rd.skip (by omega) hO)) (Rd.skip (by omega) (Rd.skip (by omega) yB)) (pM.frame (by rw [ak,if_neg (by omega),ak,if_neg (by omega)]) (fun b _ hb=>by rw [ak,if_neg (by omega),ak,if_neg (by omega)]) (Nat.le_succ _)) (fun σ H2 nx2 hσ sU bI pI ZB fq=>?_))
  refine ew (dY (aA (WC.sub hσ ?_)))
  repeat' (first|((first|refine WO.n rfl ?_|refine WO.k rfl ?_);(first|refine aK ?_|refine ba ?_))|with_reducible (first|refine WO.nil ?_|refine WC.aa ?_))
  exact ⟨e + 1,by omega,.cons rfl aN,by omega,by omega,sU,bI,pI,ZB⟩
 ·have:e=es.length:=by omega
  subst this
  exact aC _ _ _ aN pM aS yB jB
theorem Gg {es:List Ed} {m:Nat}:fY es m 0=List.replicate m []:=by
 apply List.ext_getElem?
 intro i
 by_cases hi:i < m
 ·rw [mR hi,List.getElem?_replicate,if_pos hi];rfl
 ·rw [List.getElem?_eq_none (by rw [dH];omega),List.getElem?_eq_none (by simp;omega)]
theorem JW {f:FuncId} (hf:A.funcs f=some LV) (hh:∀vs H nx,A.aH f vs H nx=none)
  {n:Int} {m:Nat} {ev:Value} {es:List Ed} (hm:kp n es) (ee:n=(m:Int)) (he:bP H nx 2 bH ev es) :
  WF A f [.agg #[.int .i64 n,ev]] H nx fun v H' nx'=>∃ob oc pb,v=.pointer (some ⟨pb,0,none⟩)∧m≤aE oc∧nx≤ob∧ob < pb∧pb < nx'∧Rd H' pb [.int .i64 n,ev,.slice (some ⟨ob,0,some 1⟩) m oc]∧GS H' (pb + 1) nx' ob (fY es m (2 * es.length))∧an H H' nx∧nx≤nx':=by
 obtain ⟨base,ec,rfl⟩:=he.form
 have b9:=hm.2.1
 subst ee
 refine WF.enter (hh _ _ _) hf ?_
 repeat' (first|((first|refine WO.n rfl ?_|refine WO.k rfl ?_);(first|refine aK ?_|refine cI ?_|refine cH ?_|refine jL ?_|refine FG ?_|refine aJ ?_|refine mI ?_))|with_reducible (first|refine WO.nil ?_|refine WC.aa ?_|refine WC.drawn ?_|refine WC.seq ?_|refine WC.block ?_|refine aA ?_|refine nD ?_))
 have bg:an H (aI H nx [.int .i64 (m:Int),.slice base es.length ec]) nx:=an.refl.set (Nat.le_refl _)
 refine WC.sub aN (owO (nb:=nx) (ob:=nx + 1) (pb:=nx + 1 + 1) (oc:=2 * m + 1) hm rfl he (by omega) (by omega) (by omega) ((bg.set (by omega)).set (by omega)) (Rd.skip (by omega) (Rd.skip (by omega) Rd.self)) Rd.self (by rw [Gg];exact (GS.zero (cy (by omega) aw))) (fun σ H2 nx2 hσ hg bI jJ fq=>?_))
 refine ew (aA (WC.sub hσ ?_))
 repeat' (first|(refine WO.k rfl ?_;refine aK ?_)|with_reducible (first|refine WO.nil ?_|refine WC.aa ?_|refine WC.seq ?_|refine WC.ret ?_|refine aA ?_))
 exact az (vs:=[_]) rfl ⟨nx + 1,_,nx + 1 + 1,rfl,by rw [dp];omega,by omega,by omega,by omega,jJ,hg,bI,by omega⟩
end Go.Eng
