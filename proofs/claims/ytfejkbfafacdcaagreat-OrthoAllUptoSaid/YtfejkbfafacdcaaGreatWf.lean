import Derived.Test.YtfejkbfafacdcaaGreatWe
/- Walks over the program: part 6. -/

namespace Go.Eng
variable {A:aG} {H H':Heap} {nx nx':Nat} {σ:aP} {L:List Value} {Q:cw}
set_option maxRecDepth 100000
theorem j4 {n:Int} {es:List Ed} {r:List (List Int)} (h:bK n es r=0):bq n es r=0:=by
 unfold bK at h
 split at h
 ·rename_i hp;exact absurd h hp
 ·rename_i hp
  have jG:dV n es r=0:=Classical.not_not.1 hp
  unfold dV at jG
  split at jG
  ·assumption
  ·exact jG
open Classical in
noncomputable def du (n:Int) (es:List Ed) (r:List (List Int)) (o:Int):Int:=if bK n es r≠0 then bK n es r else if o < 0∨((aD es r).length:Int)≤o then 2 else 0
theorem C8 (E:E26 A) {n o:Int} {ev rv:Value} {es:List Ed} {r:List (List Int)} (he:bP H nx 2 bH ev es) (hr:dZ H nx 1 aW rv r) (cD:bX r) :
  WF A 28 [.agg #[.int .i64 n,ev],rv,.int .i64 o] H nx fun v H' nx'=>v=.int .i64 (du n es r o)∧an H H' nx∧nx≤nx':=by
 obtain ⟨base,ec,rfl⟩:=he.form
 obtain ⟨bu,rc,rfl⟩:=hr.form
 refine WF.enter (E.h rfl _ _ _) E.f28 ?_
 repeat' (first|((first|refine WO.n rfl ?_|refine WO.k rfl ?_);(first|refine aK ?_|refine jL ?_|refine aJ ?_))|with_reducible (first|refine WO.nil ?_|refine WC.aa ?_|refine WC.seq ?_|refine aA ?_))
 have bg:an H (aI H nx [.int .i64 n,.slice base es.length ec]) nx:=an.refl.set (Nat.le_refl _)
 refine WO.cn rfl ?_
 refine (rP E ((he.same bg).up (Nat.le_succ _)) ((hr.same bg).up (Nat.le_succ _)) cD).of ?_
 rintro _ H1 aY ⟨rfl,aS,b9⟩
 have bn:an H H1 nx:=bg.trans aS (by omega)
 have dJ:Rd H1 nx [.int .i64 n,.slice base es.length ec]:=aS.rd (by omega) Rd.self
 clear bg aS
 by_cases h0:bK n es r=0
 ·have oJ:=j4 h0
  have ha:du n es r o=if o < 0∨((aD es r).length:Int)≤o then 2 else 0:=by unfold du;rw [if_neg (by omega)]
  have wO:=(ed oJ).Bz
  rw [h0]
  repeat' (first|((first|refine WO.n rfl ?_|refine WO.k rfl ?_);(first|refine aK ?_|refine aJ ?_|(refine ke (fun h=>?_) (fun h=>?_)<;>(try simp only [Int.ofNat_eq_natCast] at h))))|with_reducible (first|refine WO.nil ?_|refine WC.aa ?_|refine WC.seq ?_|refine WC.skip ?_|refine WC.ret ?_)|refine WC.ax rfl ?_|refine WC.ay rfl ?_|with_reducible (first|refine aA ?_|refine dX ?_))
  ·omega
  refine WO.cn rfl ?_
  refine (E.uS oJ ((he.same bn).up (by omega)) ((hr.same bn).up (by omega)) cD).of ?_
  rintro _ H2 nx2 ⟨fv,nx0,rfl,r9,fq,hL,bI⟩
  obtain ⟨fb,fc,rfl⟩:=hL.form
  have bt:an H H2 nx:=bn.trans bI (by omega)
  repeat' (first|((first|refine WO.n rfl ?_|refine WO.k rfl ?_);(first|refine aK ?_|refine AA ?_|refine cH ?_|refine fX ?_|(refine dt (fun h=>?_) (fun h=>?_)<;>(try simp only [Int.ofNat_eq_natCast] at h))|(refine IU (fun h=>?_) (fun h=>?_)<;>(try simp only [Int.ofNat_eq_natCast] at h))))|refine WO.cB rfl ?_|refine WO.jH rfl ?_|with_reducible (first|refine WO.nil ?_|refine WC.aa ?_|refine WC.seq ?_|refine WC.skip ?_|refine WC.ret ?_)|refine WC.ax rfl ?_|refine WC.ay rfl ?_|with_reducible (first|refine aA ?_|refine dX ?_))
  all_goals have h1:=h
  ·exact az (vs:=[_]) rfl ⟨by rw [ha,if_pos (.inl (by omega))];rfl,bt,by omega⟩
  ·exact az (vs:=[_]) rfl ⟨by rw [ha,if_pos (.inr (by omega))];rfl,bt,by omega⟩
  ·exact az (vs:=[_]) rfl ⟨by rw [ha,if_neg (by omega)];rfl,bt,by omega⟩
 ·have ha:du n es r o=bK n es r:=by unfold du;rw [if_pos h0]
  repeat' (first|((first|refine WO.n rfl ?_|refine WO.k rfl ?_);(first|refine aK ?_|refine aJ ?_|(refine ke (fun h=>?_) (fun h=>?_)<;>(try simp only [Int.ofNat_eq_natCast] at h))))|with_reducible (first|refine WO.nil ?_|refine WC.aa ?_|refine WC.seq ?_|refine WC.skip ?_|refine WC.ret ?_)|refine WC.ax rfl ?_|refine WC.ay rfl ?_|with_reducible (first|refine aA ?_|refine dX ?_))
  all_goals first
   | (exfalso;omega)
   | exact az (vs:=[_]) rfl ⟨by rw [ha];rfl,bn,by omega⟩
theorem mX (E:E26 A) {n o:Int} {m:Nat} {ev rv:Value} {es:List Ed} {r:List (List Int)} (ee:du n es r o=0→n=(m:Int)) (he:bP H nx 2 bH ev es) (hr:dZ H nx 1 aW rv r) (cD:bX r) :
  WF A 9 [.agg #[.int .i64 n,ev],rv,.int .i64 o] H nx fun v H' nx'=>∃tv,v=oneOf [tv,.int .i64 (du n es r o)]∧(du n es r o≠0→tv=.agg #[.int .i64 0,.slice none 0 0,.slice none 0 0])∧(du n es r o=0→∃lo,nx≤lo∧lo≤nx'∧Bd H' lo nx' tv ((m + (aD es r).length:Nat):Int) (lL es (eu es r) m) (gQ es (aD es r) m o))∧an H H' nx∧nx≤nx':=by
 obtain ⟨base,ec,rfl⟩:=he.form
 obtain ⟨bu,rc,rfl⟩:=hr.form
 refine WF.enter (E.h rfl _ _ _) E.f9 ?_
 repeat' (first|((first|refine WO.n rfl ?_|refine WO.k rfl ?_);(first|refine aK ?_|refine jL ?_|refine uw ?_|refine aJ ?_))|with_reducible (first|refine WO.nil ?_|refine WC.aa ?_|refine WC.seq ?_|refine aA ?_))
 have bg:an H (aI (aI H nx [.int .i64 n,.slice base es.length ec]) (nx + 1) [.int .i64 0,.slice none 0 0,.slice none 0 0]) nx:=(an.refl.set (Nat.le_refl _)).set (by omega)
 refine WO.cn rfl ?_
 refine (C8 E (o:=o) ((he.same bg).up (by omega)) ((hr.same bg).up (by omega)) cD).of ?_
 rintro _ H1 aY ⟨rfl,aS,b9⟩
 have bn:an H H1 nx:=bg.trans aS (by omega)
 have dJ:Rd H1 nx [.int .i64 n,.slice base es.length ec]:=aS.rd (by omega) (Rd.skip (by omega) Rd.self)
 have iU:ao H1 (at_ (nx + 1))=some (.cells [.int .i64 0,.slice none 0 0,.slice none 0 0]):=(aS _ (by omega)).trans aw
 clear bg aS
 by_cases h0:du n es r o=0
 ·have VV:bK n es r=0:=by
   unfold du at h0
   split at h0
   ·exact h0
   ·rename_i h;exact Classical.not_not.1 h
  have oJ:=j4 VV
  have hm:=ee h0
  rw [h0]
  repeat' (first|((first|refine WO.n rfl ?_|refine WO.k rfl ?_);(first|refine aK ?_|refine FG ?_|refine aJ ?_|refine iQ ?_|(refine ke (fun h=>?_) (fun h=>?_)<;>(try simp only [Int.ofNat_eq_natCast] at h))))|with_reducible (first|refine WO.nil ?_|refine WC.aa ?_|refine WC.seq ?_|refine WC.skip ?_|refine WC.ret ?_)|refine WC.ax rfl ?_|refine WC.ay rfl ?_|with_reducible (first|refine aA ?_|refine dX ?_))
  ·omega
  refine WO.cn rfl ?_
  refine (C7 E (o:=o) oJ hm ((he.same bn).up (by omega)) ((hr.same bn).up (by omega)) cD).of ?_
  rintro _ H2 nx2 ⟨lo,vp,⟨av,nv,rfl,ga,gn,Kk⟩,bI,fq⟩
  have bt:an H H2 nx:=bn.trans bI (by omega)
  have qi:ao H2 (at_ (nx + 1))=some (.cells [.int .i64 0,.slice none 0 0,.slice none 0 0]):=(bI _ (by omega)).trans iU
  obtain ⟨ab,ac,rfl⟩:=cu ga
  obtain ⟨nb,nc,rfl⟩:=cu gn
  repeat' (first|((first|refine WO.n rfl ?_|refine WO.k rfl ?_);(first|refine aK ?_|refine iQ ?_))|with_reducible (first|refine WO.nil ?_|refine WC.ret ?_|refine aA ?_))
  refine nk rfl aw rfl rfl ⟨_,rfl,fun h=>absurd rfl h,fun _=>⟨lo,by omega,by omega,_,_,rfl,?_,?_,Kk⟩,bt.set (by omega),by omega⟩
  ·exact ga.qL (fun b hb hl=>by rw [ak,if_neg (by omega)]) (Nat.le_refl _)
  ·exact gn.qL (fun b hb hl=>by rw [ak,if_neg (by omega)]) (Nat.le_refl _)
 ·repeat' (first|((first|refine WO.n rfl ?_|refine WO.k rfl ?_);(first|refine aK ?_|refine FG ?_|refine aJ ?_|refine iQ ?_|(refine ke (fun h=>?_) (fun h=>?_)<;>(try simp only [Int.ofNat_eq_natCast] at h))))|with_reducible (first|refine WO.nil ?_|refine WC.aa ?_|refine WC.seq ?_|refine WC.skip ?_|refine WC.ret ?_)|refine WC.ax rfl ?_|refine WC.ay rfl ?_|with_reducible (first|refine aA ?_|refine dX ?_))
  all_goals first
   | (exfalso;omega)
   | exact nk rfl aw rfl rfl ⟨_,rfl,fun _=>rfl,fun h=>absurd h h0,bn.set (by omega),by omega⟩
open Classical in
theorem vS (E:E26 A) {n o:Int} {m:Nat} {ev rv av bv:Value} {es:List Ed} {r:List (List Int)} {ang:List Int} {bs:List (List Int)} (ee:bK n es r=0→n=(m:Int)) (he:bP H nx 2 bH ev es) (hr:dZ H nx 1 aW rv r) (cD:bX r)
  (ha:bP H nx 1 aW av ang) (Ek:ang.length≤1048576) (hb:dZ H nx 1 aW bv bs) (hl:bs.length≤1048576) (ht:∀k,k≤bs.length→total bs k≤1048576) (Ba:∀k,(bs.getD k []).length≤1048576) :
  WF A 8 [.agg #[.int .i64 n,ev],rv,.agg #[.int .i64 o,av,bv]] H nx fun v H' nx'=>v=oneOf [.bool (decide (bK n es r=0∧mU es (aD es r) m (fun v=>r.getD v []) o ang bs)),.int .i64 (bK n es r)]∧an H H' nx∧nx≤nx':=by
 obtain ⟨base,ec,rfl⟩:=he.form
 obtain ⟨bu,rc,rfl⟩:=hr.form
 obtain ⟨ab,ac,rfl⟩:=ha.form
 obtain ⟨bb,bc,rfl⟩:=hb.form
 refine WF.enter (E.h rfl _ _ _) E.f8 ?_
 repeat' (first|((first|refine WO.n rfl ?_|refine WO.k rfl ?_);(first|refine aK ?_|refine jL ?_|refine aJ ?_))|with_reducible (first|refine WO.nil ?_|refine WC.aa ?_|refine WC.seq ?_|refine aA ?_))
 have bg:an H (aI (aI H nx [.int .i64 n,.slice base es.length ec]) (nx + 1) [.int .i64 o,.slice ab ang.length ac,.slice bb bs.length bc]) nx:=(an.refl.set (Nat.le_refl _)).set (by omega)
 refine WO.cn rfl ?_
 refine (rP E ((he.same bg).up (by omega)) ((hr.same bg).up (by omega)) cD).of ?_
 rintro _ H1 aY ⟨rfl,aS,b9⟩
 have bn:an H H1 nx:=bg.trans aS (by omega)
 have pM:Rd H1 nx [.int .i64 n,.slice base es.length ec]:=aS.rd (by omega) (Rd.skip (by omega) Rd.self)
 have Bt:Rd H1 (nx + 1) [.int .i64 o,.slice ab ang.length ac,.slice bb bs.length bc]:=aS.rd (by omega) Rd.self
 clear bg aS
 by_cases h0:bK n es r=0
 ·have oJ:=j4 h0
  have hm:=ee h0
  rw [h0]
  repeat' (first|((first|refine WO.n rfl ?_|refine WO.k rfl ?_);(first|refine aK ?_|refine aJ ?_|(refine ke (fun h=>?_) (fun h=>?_)<;>(try simp only [Int.ofNat_eq_natCast] at h))))|with_reducible (first|refine WO.nil ?_|refine WC.aa ?_|refine WC.seq ?_|refine WC.skip ?_|refine WC.ret ?_)|refine WC.ax rfl ?_|refine WC.ay rfl ?_|with_reducible (first|refine aA ?_|refine dX ?_))
  ·omega
  refine WO.cn rfl ?_
  refine (Gr E (o:=o) oJ hm ((he.same bn).up (by omega)) ((hr.same bn).up (by omega)) cD ((ha.same bn).up (by omega)) Ek ((hb.same bn).up (by omega)) hl ht Ba).of ?_
  rintro _ H2 nx2 ⟨rfl,bI,fq⟩
  repeat' (first|(refine WO.k rfl ?_;refine aK ?_)|with_reducible (first|refine WO.nil ?_|refine WC.ret ?_|refine aA ?_))
  refine az (vs:=[_,_]) rfl ⟨?_,bn.trans bI (by omega),by omega⟩
  by_cases hz:mU es (aD es r) m (fun v=>r.getD v []) o ang bs
  ·rw [decide_eq_true hz,decide_eq_true (show (0:Int)=0∧_ from ⟨rfl,hz⟩)];rfl
  ·rw [decide_eq_false hz,decide_eq_false (show ¬((0:Int)=0∧_) from fun h=>hz h.2)];rfl
 ·rw [decide_eq_false (fun h=>h0 h.1)]
  repeat' (first|((first|refine WO.n rfl ?_|refine WO.k rfl ?_);(first|refine aK ?_|refine aJ ?_|(refine ke (fun h=>?_) (fun h=>?_)<;>(try simp only [Int.ofNat_eq_natCast] at h))))|with_reducible (first|refine WO.nil ?_|refine WC.aa ?_|refine WC.seq ?_|refine WC.skip ?_|refine WC.ret ?_)|refine WC.ax rfl ?_|refine WC.ay rfl ?_|with_reducible (first|refine aA ?_|refine dX ?_))
  all_goals first
   | (exfalso;omega)
   | exact az (vs:=[_,_]) rfl ⟨rfl,bn,by omega⟩
end Go.Eng

namespace Go.Eng
variable {A:aG} {H H':Heap} {nx nx':Nat} {σ:aP} {L:List Value} {Q:cw}
set_option maxRecDepth 100000
theorem kT (l:List Int):l.flatMap aW=l.map (.int .i64):=wZ l
theorem xd {nx0:Nat} {v:Value} {l:List Int} (h:bM H nx0 nx 1 v (0 + l.length) ([]++l.flatMap aW)):bP H nx 1 aW v l:=by
 rw [Nat.zero_add,List.nil_append] at h
 exact bM.sle (enc:=aW) h (fun _=>rfl)
theorem Vq {nb sb cb ls:Nat} {v2 o av:Value} {bb:Option Addr} {bc:Nat} {bs:List (List Int)} {o3 a3:Value} {H0:Heap} (hb:dZ H0 nb 1 aW (.slice bb bs.length bc) bs) (hl:bs.length≤1048576) (Ba:∀k,(bs.getD k []).length≤1048576)
  (bg:an H0 H nb) (ym:sb < nb) (hp:Rd H0 sb [o,av,.slice bb bs.length bc]) (zq:nb≤cb) (nu:cb < ls) (hle:ls≤nx) (hc:ao H (at_ cb)=some (.cells [o3,a3,.slice none 0 0]))
  (aC:∀σ H' nx' lv,aT [(S2,v2),(S3,.pointer (some ⟨cb,0,none⟩))] σ→ao H' (at_ cb)=some (.cells [o3,a3,lv])→LL H' ls nx' lv bs→(∀b,b < ls→b≠cb→ao H' (at_ b)=ao H (at_ b))→nx≤nx'→Q (.exit 0) σ H' nx') :
  WC A (.loop Ct) [(S1,.pointer (some ⟨sb,0,none⟩)),(S2,v2),(S3,.pointer (some ⟨cb,0,none⟩)),(S4,.int .i64 0)] H nx Q:=by
 refine WC.loop (α:=Nat) (fun k=>[(S1,.pointer (some ⟨sb,0,none⟩)),(S2,v2),(S3,.pointer (some ⟨cb,0,none⟩)),(S4,.int .i64 ((k:Nat):Int))])
  (fun k H' nx'=>k≤bs.length∧nx≤nx'∧(∀b,b < ls→b≠cb→ao H' (at_ b)=ao H (at_ b))∧∃lv,ao H' (at_ cb)=some (.cells [o3,a3,lv])∧LL H' ls nx' lv (bs.take k)) (fun k=>bs.length - k)
  ?_ 0 aN ⟨Nat.zero_le _,Nat.le_refl _,fun _ _ _=>rfl,_,hc,.nil⟩
 rintro k H1 aY ⟨hk,b9,aS,lv,iU,ny⟩
 have bN:an H0 H1 nb:=fun b hb=>(aS b (by omega) (by omega)).trans (bg b hb)
 have RU:=bN.rd ym hp
 have hcR:Rd H1 cb _:=.inl iU
 obtain ⟨lb,lc,rfl⟩:=ny.form
 unfold Ct
 repeat' (first|((first|refine WO.n rfl ?_|refine WO.k rfl ?_);(first|refine cI ?_|refine cH ?_|refine aJ ?_|(refine dt (fun h=>?_) (fun h=>?_)<;>(try simp only [Int.ofNat_eq_natCast] at h))))|with_reducible (first|refine WO.nil ?_|refine WC.aa ?_|refine WC.drawn ?_|refine WC.seq ?_|refine WC.skip ?_|refine WC.exit ?_|refine WC.block ?_)|refine WC.ax rfl ?_|refine WC.ay rfl ?_|with_reducible (first|refine aA ?_|refine ef ?_))
 ·have bF:k < bs.length:=by omega
  have jA:bs.getD k []=bs[k]:=by rw [List.getD_eq_getElem?_getD,List.getElem?_eq_getElem bF];rfl
  have RR:=Ba k
  obtain ⟨rb,ro,vO,ib,ic,rfl,jo,iP,iD,hi⟩:=hb.at bF
  rw [← jA] at iD hi
  have kg:=bN.rd jo iP
  have Mg:(bs.take k).length=k:=by rw [List.length_take];omega
  repeat' (refine WO.n rfl ?_;(first|refine bj ?_|refine aZ ?_))
  refine WO.na rfl ?_
  refine aM.IL (nx0:=aY) rfl rfl .nil ((hi.same bN).src (fun _=>rfl)) (by omega) (by
   rw [kT]
   have:∀l:List Int,bZ (l.map (Value.int .i64))=true:=by
    intro l
    induction l with
    | nil=>rfl
    | cons x l ih=>exact ih
   exact this _) (by rw [kT,List.length_map];omega) (Nat.le_refl _) (by unfold small;omega) (by unfold small;omega) ?_
  intro v1 H2 nx2 fq sU bI _
  have hu:=xd sU
  have aao:Rd H2 cb _:=bI.rd (by omega) hcR
  have qi:ao H2 (at_ cb)=some (.cells [o3,a3,.slice lb (bs.take k).length lc]):=(bI cb (by omega)).trans iU
  refine ⟨bk.look rfl aao rfl rfl fx .nil,?_⟩
  obtain ⟨ub,uc,rfl⟩:=hu.form
  repeat' (refine WO.n rfl ?_;refine iu ?_)
  refine WO.n rfl ?_
  have w3:LL (aI H2 nx2 [.slice ub (bs.getD k []).length uc]) ls (nx2 + 1) (.slice lb (bs.take k).length lc) (bs.take k):=ny.qL (fun b h1 h2=>by rw [ak,if_neg (by omega)];exact bI b h2) (by omega)
  refine aM.AS (u:=.slice ub (bs.getD k []).length uc) (f:=bs.getD k []) rfl rfl Rd.self w3 ((hu.same (an.refl.set (Nat.le_refl _))).up (by omega)) (fun b hb=>?_) (by omega) (by rw [Mg];unfold small;omega) (by rw [Mg];unfold small;omega) ?_
  ·have h1:=cz sU hb
   refine ⟨by omega,by omega,fun e=>?_⟩
   have:=ny.blk e
   omega
  intro v3 H3 w4 eL
  have Vr:∀b,b < ls→ao H3 (at_ b)=ao H1 (at_ b):=fun b hb=>by
   rw [eL b (by omega) (fun e=>by have:=ny.blk e;omega),ak,if_neg (by omega)]
   exact bI b (by omega)
  have w5:ao H3 (at_ cb)=some (.cells [o3,a3,.slice lb (bs.take k).length lc]):=(Vr cb (by omega)).trans iU
  have F1:bs.take k++[bs.getD k []]=bs.take (k + 1):=by rw [List.take_add_one,List.getElem?_eq_getElem bF,jA];rfl
  rw [F1] at w4
  obtain ⟨vb,vc,rfl⟩:=w4.form
  repeat' (first|((first|refine WO.n rfl ?_|refine WO.k rfl ?_);(first|refine aK ?_|refine cI ?_|refine ep ?_|refine ba ?_))|with_reducible (first|refine WO.nil ?_|refine WC.aa ?_|refine aA ?_|refine dY ?_|refine nD ?_))
  refine ⟨k + 1,by omega,.cons rfl aN,by omega,by omega,fun b hb cG=>?_,_,aw,w4.qL (fun b h1 h2=>by rw [ak,if_neg (by omega)]) (by omega)⟩
  rw [ak,if_neg cG,Vr b hb]
  exact aS b hb cG
 ·have:k=bs.length:=by omega
  subst this
  rw [List.take_length] at ny iU
  exact aC _ _ _ _ aN iU ny aS b9
theorem Gy (E:E26 A) {o:Int} {av bv:Value} {ang:List Int} {bs:List (List Int)} (ha:bP H nx 1 aW av ang) (Ek:ang.length≤1048576) (hb:dZ H nx 1 aW bv bs) (hl:bs.length≤1048576) (Ba:∀k,(bs.getD k []).length≤1048576) :
  WF A 7 [.agg #[.int .i64 o,av,bv]] H nx fun v H' nx'=>∃NU NV,v=.agg #[.int .i64 o,NU,NV]∧bP H' nx' 1 aW NU ang∧dZ H' nx' 1 aW NV bs∧an H H' nx∧nx≤nx':=by
 obtain ⟨ab,ac,rfl⟩:=ha.form
 obtain ⟨bb,bc,rfl⟩:=hb.form
 refine WF.enter (E.h rfl _ _ _) E.f7 ?_
 have bg:an H (aI (aI H nx [.int .i64 o,.slice ab ang.length ac,.slice bb bs.length bc]) (nx + 1) [.int .i64 0,.slice none 0 0,.slice none 0 0]) nx:=(an.refl.set (Nat.le_refl _)).set (by omega)
 repeat' (first|((first|refine WO.n rfl ?_|refine WO.k rfl ?_);(first|refine cI ?_|refine jL ?_|refine uw ?_|refine aJ ?_))|with_reducible (first|refine WO.nil ?_|refine WC.aa ?_|refine WC.drawn ?_|refine WC.seq ?_|refine aA ?_))
 refine WO.na rfl ?_
 refine aM.IL (nx0:=nx + 1 + 1) rfl rfl .nil ((ha.same bg).src (fun _=>rfl)) (by omega) (by
   rw [kT]
   have:∀l:List Int,bZ (l.map (Value.int .i64))=true:=by
    intro l
    induction l with
    | nil=>rfl
    | cons x l ih=>exact ih
   exact this _) (by rw [kT,List.length_map];omega) (Nat.le_refl _) (by unfold small;omega) (by unfold small;omega) ?_
 intro v1 H2 nx2 fq sU bI _
 have hu:=xd sU
 have bt:an H H2 nx:=bg.trans bI (by omega)
 have FI:Rd H2 nx [.int .i64 o,.slice ab ang.length ac,.slice bb bs.length bc]:=bI.rd (by omega) (Rd.skip (by omega) Rd.self)
 have wk:ao H2 (at_ (nx + 1))=some (.cells [.int .i64 0,.slice none 0 0,.slice none 0 0]):=(bI _ (by omega)).trans aw
 refine ⟨bk.look rfl FI rfl rfl (by simp [km,fa]) .nil,?_⟩
 obtain ⟨ub,uc,rfl⟩:=hu.form
 repeat' (first|((first|refine WO.n rfl ?_|refine WO.k rfl ?_);(first|refine aK ?_|refine uw ?_|refine FG ?_|refine iQ ?_))|with_reducible (first|refine WO.nil ?_|refine WC.aa ?_|refine WC.seq ?_|refine WC.block ?_|refine aA ?_|refine nD ?_))
 refine WC.sub aN (Vq (H0:=H2) (nb:=nx2) (sb:=nx) (cb:=nx2) (ls:=nx2 + 1) (o:=.int .i64 o) (av:=.slice ab ang.length ac) (o3:=.int .i64 o) (a3:=.slice ub ang.length uc) ((hb.same bt).up (by omega)) hl Ba ((an.refl.set (Nat.le_refl _)).set (Nat.le_refl _)) (by omega) FI (Nat.le_refl _) (by omega) (Nat.le_refl _) aw (fun σ H3 iY lv hσ w5 w4 eL se=>?_))
 refine ew (aA (WC.sub hσ ?_))
 clear hσ
 have abm:Rd H3 nx2 _:=.inl w5
 have fV:∀b,b < nx2→ao H3 (at_ b)=ao H2 (at_ b):=fun b hb=>by rw [eL b (by omega) (by omega),ak,if_neg (by omega),ak,if_neg (by omega)]
 have VN:ao H3 (at_ (nx + 1))=some (.cells [.int .i64 0,.slice none 0 0,.slice none 0 0]):=(fV _ (by omega)).trans wk
 obtain ⟨vb,vc,rfl⟩:=w4.form
 repeat' (first|(refine WO.n rfl ?_;(first|refine aJ ?_|refine iQ ?_))|with_reducible (first|refine WO.nil ?_|refine WC.aa ?_|refine WC.seq ?_|refine WC.ret ?_|refine aA ?_))
 refine kP rfl aw rfl ⟨_,_,rfl,?_,?_,fun b hb=>?_,by omega⟩
 ·refine hu.blk (fun b hb bR=>?_) (by omega)
  have h1:=cz sU hb
  rw [ak,if_neg (by omega)]
  exact fV b bR
 ·exact (w4.qL (fun b h1 h2=>by rw [ak,if_neg (by omega)]) (Nat.le_refl _)).UI
 ·rw [ak,if_neg (by omega),fV b (by omega)]
  exact bt b hb
end Go.Eng

namespace Go.Eng
section
variable {P:Program}
theorem AH {t:TypeId} {f0 f1 f2 f3:Field} {a0 a1 a2 a3 b0 b1 b2 b3:Int} {k k3:IntKind} (h:P.underlying t=some (.struct #[f0,f1,f2,f3])) (hs:P.stoodInHeld t=false) (n0:f0.name≠ "_") (n1:f1.name≠ "_") (n2:f2.name≠ "_") (n3:f3.name≠ "_")
  (o0:f0.offset=0) (o1:f1.offset=1) (o2:f2.offset=2) (o3:f3.offset=3) (t0:P.underlying f0.type=some (.int k)) (t1:P.underlying f1.type=some (.int k)) (t2:P.underlying f2.type=some (.int k)) (t3:P.underlying f3.type=some (.int k3))
  (g0:quiet P (isAgg f0.type)=some false) (g1:quiet P (isAgg f1.type)=some false) (g2:quiet P (isAgg f2.type)=some false) (g3:quiet P (isAgg f3.type)=some false) (d:Nat) :
  quiet P (Op.equalIn (d + 1 + 1) t (.agg #[.int .i64 a0,.int .i64 a1,.int .i64 a2,.int .i64 a3]) (.agg #[.int .i64 b0,.int .i64 b1,.int .i64 b2,.int .i64 b3]))=some (a0 == b0&&(a1 == b1&&(a2 == b2&&a3 == b3))):=by
 unfold Op.equalIn
 rw [cC h]
 have hp:quiet P program=some P:=rfl
 have e0:=fun a b:Int=>gp (P:=P) (a:=a) (b:=b) t0 d
 have e1:=fun a b:Int=>gp (P:=P) (a:=a) (b:=b) t1 d
 have e2:=fun a b:Int=>gp (P:=P) (a:=a) (b:=b) t2 d
 have e3:=fun a b:Int=>gp (P:=P) (a:=a) (b:=b) t3 d
 have p0:∀x y z w:Int,quiet P (part f0.type #[.int .i64 x,.int .i64 y,.int .i64 z,.int .i64 w] f0.offset)=some (.int .i64 x):=fun x y z w=>dE g0 (by rw [o0];rfl)
 have p1:∀x y z w:Int,quiet P (part f1.type #[.int .i64 x,.int .i64 y,.int .i64 z,.int .i64 w] f1.offset)=some (.int .i64 y):=fun x y z w=>dE g1 (by rw [o1];rfl)
 have p2:∀x y z w:Int,quiet P (part f2.type #[.int .i64 x,.int .i64 y,.int .i64 z,.int .i64 w] f2.offset)=some (.int .i64 z):=fun x y z w=>dE g2 (by rw [o2];rfl)
 have p3:∀x y z w:Int,quiet P (part f3.type #[.int .i64 x,.int .i64 y,.int .i64 z,.int .i64 w] f3.offset)=some (.int .i64 w):=fun x y z w=>dE g3 (by rw [o3];rfl)
 by_cases h0:a0=b0<;>by_cases h1:a1=b1<;>by_cases h2:a2=b2<;>by_cases h3:a3=b3<;>
  simp [di,hp,hs,n0,n1,n2,n3,e0,e1,e2,e3,p0,p1,p2,p3,fU,h0,h1,h2,h3]
theorem Gz {t:TypeId} {a0 a1 a2 a3 b0 b1 b2 b3:Int} (hq:P.eqGuardType P.depth t=false) (h:∀d,quiet P (Op.equalIn (d + 1 + 1) t (.agg #[.int .i64 a0,.int .i64 a1,.int .i64 a2,.int .i64 a3]) (.agg #[.int .i64 b0,.int .i64 b1,.int .i64 b2,.int .i64 b3]))=some (a0 == b0&&(a1 == b1&&(a2 == b2&&a3 == b3)))) :
  kr P .neq t (.agg #[.int .i64 a0,.int .i64 a1,.int .i64 a2,.int .i64 a3]) (.agg #[.int .i64 b0,.int .i64 b1,.int .i64 b2,.int .i64 b3])=some (.bool (!(a0 == b0&&(a1 == b1&&(a2 == b2&&a3 == b3))))):=by
 have h1:quiet P (Op.equal t (.agg #[.int .i64 a0,.int .i64 a1,.int .i64 a2,.int .i64 a3]) (.agg #[.int .i64 b0,.int .i64 b1,.int .i64 b2,.int .i64 b3]))=some (a0 == b0&&(a1 == b1&&(a2 == b2&&a3 == b3))):=h 9998
 have h2:∀s:Sem Bool,∀r,quiet P s=some r→quiet P (do pure (Value.bool (!(← s))):Sem Value)=some (.bool (!r)):=by
  intro s r
  induction s with
  | pure x=>intro h;cases h;rfl
  | program k ih=>intro h;exact ih P h
  | _=>intro h;cases h
 unfold kr
 have h3:quiet P (do eqGuard .neq t (.const (.agg #[.int .i64 a0,.int .i64 a1,.int .i64 a2,.int .i64 a3])) (.const (.agg #[.int .i64 b0,.int .i64 b1,.int .i64 b2,.int .i64 b3])) (.agg #[.int .i64 a0,.int .i64 a1,.int .i64 a2,.int .i64 a3]) (.agg #[.int .i64 b0,.int .i64 b1,.int .i64 b2,.int .i64 b3]);binOp .neq t (.agg #[.int .i64 a0,.int .i64 a1,.int .i64 a2,.int .i64 a3]) (.agg #[.int .i64 b0,.int .i64 b1,.int .i64 b2,.int .i64 b3]):Sem Value)=some (.bool (!(a0 == b0&&(a1 == b1&&(a2 == b2&&a3 == b3))))):=by
  rw [di]
  have hg:quiet P (eqGuard .neq t (.const (.agg #[.int .i64 a0,.int .i64 a1,.int .i64 a2,.int .i64 a3])) (.const (.agg #[.int .i64 b0,.int .i64 b1,.int .i64 b2,.int .i64 b3])) (.agg #[.int .i64 a0,.int .i64 a1,.int .i64 a2,.int .i64 a3]) (.agg #[.int .i64 b0,.int .i64 b1,.int .i64 b2,.int .i64 b3]))=some ():=by
   show quiet P (if (!(P.eqGuardType P.depth t))=true then _ else _)=_
   rw [hq]
   rfl
  rw [hg]
  exact h2 _ _ h1
 rw [h3]
 rfl
end
section
variable {A:aG} {H H':Heap} {nx nx':Nat} {σ:aP} {L:List Value} {Q:cw}
theorem Act.aap {t:TypeId} {x y:Od} {a0 a1 a2 a3 b0 b1 b2 b3:Int} (hq:A.P.eqGuardType A.P.depth t=false) (h:∀a0 a1 a2 a3 b0 b1 b2 b3:Int,∀d,quiet A.P (Op.equalIn (d + 1 + 1) t (.agg #[.int .i64 a0,.int .i64 a1,.int .i64 a2,.int .i64 a3]) (.agg #[.int .i64 b0,.int .i64 b1,.int .i64 b2,.int .i64 b3]))=some (a0 == b0&&(a1 == b1&&(a2 == b2&&a3 == b3))))
  (hx:ev σ L x=some (.agg ⟨[.int .i64 a0,.int .i64 a1,.int .i64 a2,.int .i64 a3]⟩)) (hy:ev σ L y=some (.agg ⟨[.int .i64 b0,.int .i64 b1,.int .i64 b2,.int .i64 b3]⟩)):Act A (.bin .neq t x y) σ L H nx (.bool (decide ((a0,a1,a2,a3)≠(b0,b1,b2,b3)))) H nx:=by
 refine .eE hx hy fun k=>?_
 unfold Eng.eE
 show bd (kr A.P .neq t (.agg #[.int .i64 a0,.int .i64 a1,.int .i64 a2,.int .i64 a3]) (.agg #[.int .i64 b0,.int .i64 b1,.int .i64 b2,.int .i64 b3])) k=_
 rw [Gz hq (h a0 a1 a2 a3 b0 b1 b2 b3)]
 have:(!(a0 == b0&&(a1 == b1&&(a2 == b2&&a3 == b3))))=decide ((a0,a1,a2,a3)≠(b0,b1,b2,b3)):=by
  by_cases h0:a0=b0<;>by_cases h1:a1=b1<;>by_cases h2:a2=b2<;>by_cases h3:a3=b3<;>simp [h0,h1,h2,h3]
 rw [this]
 rfl
end
end Go.Eng

namespace Go.Eng
variable {A:aG} {H H':Heap} {nx nx':Nat} {σ:aP} {L:List Value} {Q:cw}
set_option maxRecDepth 100000
structure RE (A:aG):Prop extends E26 A where
 b4:A.P.underlying 4=some .bool
 q4:A.P.eqGuardType A.P.depth 75=false
 n4:∀a0 a1 a2 a3 b0 b1 b2 b3:Int,∀d,quiet A.P (Op.equalIn (d + 1 + 1) 75 (.agg #[.int .i64 a0,.int .i64 a1,.int .i64 a2,.int .i64 a3]) (.agg #[.int .i64 b0,.int .i64 b1,.int .i64 b2,.int .i64 b3]))=some (a0 == b0&&(a1 == b1&&(a2 == b2&&a3 == b3)))
theorem oE (E:E26 A) {av bv:Value} {a b:List Int} (ha:bP H nx 1 aW av a) (hb:bP H nx 1 aW bv b) (Wk:a.length≤1048576) :
  WF A 30 [av,bv] H nx fun v H' nx'=>H'=H∧nx'=nx∧v=.bool (decide (a=b)):=by
 obtain ⟨base,c,rfl⟩:=ha.form
 obtain ⟨AL,bc,rfl⟩:=hb.form
 refine WF.enter (E.h rfl _ _ _) E.f30 ?_
 repeat' (first|((first|refine WO.n rfl ?_|refine WO.k rfl ?_);(first|refine aK ?_|refine cH ?_|(refine ke (fun h=>?_) (fun h=>?_)<;>(try simp only [Int.ofNat_eq_natCast] at h))))|with_reducible (first|refine WO.nil ?_|refine WC.aa ?_|refine WC.seq ?_|refine WC.skip ?_|refine WC.ret ?_|refine WC.block ?_)|refine WC.ax rfl ?_|refine WC.ay rfl ?_|with_reducible (first|refine aA ?_|refine dX ?_))
 ·exact az (vs:=[_]) rfl ⟨rfl,rfl,by rw [decide_eq_false (fun e=>by rw [e] at h;exact h rfl)];rfl⟩
 ·have xn:a.length=b.length:=by omega
  refine WC.loop (α:=Nat) (fun k=>[([],.slice base a.length c),(S1,.slice AL b.length bc),(S5,.int .i64 k)]) (fun k H' nx'=>H'=H∧nx'=nx∧k≤a.length∧∀i:Nat,i < k→a[i]?=b[i]?) (fun k=>a.length - k)
   ?_ 0 aN ⟨rfl,rfl,Nat.zero_le _,fun i h=>by omega⟩
  rintro k _ _ ⟨rfl,rfl,hk,dW⟩
  repeat' (first|((first|refine WO.n rfl ?_|refine WO.k rfl ?_);(first|refine aK ?_|refine cH ?_|(refine dt (fun h=>?_) (fun h=>?_)<;>(try simp only [Int.ofNat_eq_natCast] at h))))|with_reducible (first|refine WO.nil ?_|refine WC.aa ?_|refine WC.drawn ?_|refine WC.seq ?_|refine WC.skip ?_|refine WC.ret ?_|refine WC.exit ?_|refine WC.block ?_)|refine WC.ax rfl ?_|refine WC.ay rfl ?_|with_reducible (first|refine aA ?_|refine ef ?_|refine ew ?_))
  ·have Ig:k < a.length:=by omega
   have vJ:k < b.length:=by omega
   obtain ⟨b1,o1,zw,rfl,_,_,_,oV,Qj⟩:=ha.at (by intro e;rw [e] at Ig;simp at Ig)
   obtain ⟨b2,o2,jf,rfl,_,_,_,wk,FH⟩:=hb.at (by intro e;rw [e] at vJ;simp at vJ)
   have hx:=en (v:=.int .i64 a[k]) (Qj k a[k] (by simp [Ig]))
   have hy:=en (v:=.int .i64 b[k]) (FH k b[k] (by simp [vJ]))
   repeat' (first|((first|refine WO.n rfl ?_|refine WO.k rfl ?_);(first|refine aK ?_|refine bj ?_|refine aZ ?_|(refine ke (fun h=>?_) (fun h=>?_)<;>(try simp only [Int.ofNat_eq_natCast] at h))|refine ba ?_))|with_reducible (first|refine WO.nil ?_|refine WC.aa ?_|refine WC.seq ?_|refine WC.skip ?_|refine WC.ret ?_)|refine WC.ax rfl ?_|refine WC.ay rfl ?_|with_reducible (first|refine aA ?_|refine dX ?_|refine dY ?_|refine iA ?_|refine nD ?_))
   ·exact az (vs:=[_]) rfl ⟨rfl,rfl,by rw [decide_eq_false (fun e=>h (by simp only [e]))];rfl⟩
   ·refine ⟨k + 1,by omega,.cons rfl aN,rfl,rfl,by omega,fun i hi=>?_⟩
    rcases (show i < k∨i=k by omega) with h5|rfl
    ·exact dW i h5
    ·rw [List.getElem?_eq_getElem Ig,List.getElem?_eq_getElem vJ,Classical.not_not.1 h]
  ·refine az (vs:=[_]) rfl ⟨rfl,rfl,?_⟩
   rw [decide_eq_true (List.ext_getElem? fun i=>?_)]
   ·rfl
   ·rcases Nat.lt_or_ge i k with h5|h5
    ·exact dW i h5
    ·rw [List.getElem?_eq_none (by omega),List.getElem?_eq_none (by omega)]
theorem C9 (E:E26 A) {av bv:Value} {a:List (List Int)} (ha:dZ H nx 1 aW av a) (hb:dZ H nx 1 aW bv a) (hm:a.length≤1048576) (hr:∀k,(a.getD k []).length≤1048576) :
  WF A 31 [av,bv] H nx fun v H' nx'=>H'=H∧nx'=nx∧v=.bool true:=by
 obtain ⟨base,c,rfl⟩:=ha.form
 obtain ⟨AL,bc,rfl⟩:=hb.form
 refine WF.enter (E.h rfl _ _ _) E.f31 ?_
 repeat' (first|((first|refine WO.n rfl ?_|refine WO.k rfl ?_);(first|refine aK ?_|refine cH ?_|(refine ke (fun h=>?_) (fun h=>?_)<;>(try simp only [Int.ofNat_eq_natCast] at h))))|with_reducible (first|refine WO.nil ?_|refine WC.aa ?_|refine WC.seq ?_|refine WC.skip ?_|refine WC.ret ?_|refine WC.block ?_)|refine WC.ax rfl ?_|refine WC.ay rfl ?_|with_reducible (first|refine aA ?_|refine dX ?_))
 all_goals try (first|(exfalso;omega)|exact absurd trivial (by assumption))
 refine WC.loop (α:=Nat) (fun k=>[([],.slice base a.length c),(S1,.slice AL a.length bc),(S5,.int .i64 k)]) (fun k H' nx'=>H'=H∧nx'=nx∧k≤a.length) (fun k=>a.length - k)
   ?_ 0 aN ⟨rfl,rfl,Nat.zero_le _⟩
 rintro k _ _ ⟨rfl,rfl,hk⟩
 repeat' (first|((first|refine WO.n rfl ?_|refine WO.k rfl ?_);(first|refine aK ?_|refine cH ?_|(refine dt (fun h=>?_) (fun h=>?_)<;>(try simp only [Int.ofNat_eq_natCast] at h))))|with_reducible (first|refine WO.nil ?_|refine WC.aa ?_|refine WC.drawn ?_|refine WC.seq ?_|refine WC.skip ?_|refine WC.ret ?_|refine WC.exit ?_|refine WC.block ?_)|refine WC.ax rfl ?_|refine WC.ay rfl ?_|with_reducible (first|refine aA ?_|refine ef ?_|refine ew ?_))
 ·have bF:k < a.length:=by omega
  have RR:=hr k
  have jA:a.getD k []=a[k]:=by rw [List.getD_eq_getElem?_getD,List.getElem?_eq_getElem bF];rfl
  obtain ⟨b1,o1,zw,ib1,ic1,rfl,_,oV,iU,RO⟩:=ha.at bF
  obtain ⟨b2,o2,jf,ib2,ic2,rfl,_,wk,qi,Qm⟩:=hb.at bF
  rw [← jA] at iU RO qi Qm
  repeat' (refine WO.n rfl ?_;(first|refine bj ?_|refine aZ ?_))
  refine WO.cn rfl ?_
  refine (oE E RO Qm RR).of ?_
  rintro _ _ _ ⟨rfl,rfl,rfl⟩
  rw [decide_eq_true rfl]
  repeat' (first|((first|refine WO.n rfl ?_|refine WO.k rfl ?_);(first|refine aK ?_|refine rH ?_|refine ba ?_))|with_reducible (first|refine WO.nil ?_|refine WC.aa ?_|refine WC.skip ?_)|refine WC.ay rfl ?_|with_reducible (first|refine aA ?_|refine dY ?_|refine nD ?_))
  exact ⟨k + 1,by omega,.cons rfl aN,rfl,rfl,by omega⟩
 ·exact az (vs:=[_]) rfl ⟨rfl,rfl,rfl⟩
theorem GA (E:E26 A) {o:Int} {av bv NU NV:Value} {a:List Int} {b:List (List Int)} (ha:bP H nx 1 aW av a) (yJ:bP H nx 1 aW NU a) (hm:a.length≤1048576) (hb:dZ H nx 1 aW bv b) (eQ:dZ H nx 1 aW NV b) (hl:b.length≤1048576) (hr:∀k,(b.getD k []).length≤1048576) :
  WF A 10 [.agg #[.int .i64 o,av,bv],.agg #[.int .i64 o,NU,NV]] H nx fun v H' nx'=>v=.bool true∧an H H' nx∧nx≤nx':=by
 obtain ⟨ab,ac,rfl⟩:=ha.form
 obtain ⟨QW,wJ,rfl⟩:=yJ.form
 obtain ⟨bb,bc,rfl⟩:=hb.form
 obtain ⟨QX,QY,rfl⟩:=eQ.form
 refine WF.enter (E.h rfl _ _ _) E.f10 ?_
 have bg:an H (aI (aI H nx [.int .i64 o,.slice ab a.length ac,.slice bb b.length bc]) (nx + 1) [.int .i64 o,.slice QW a.length wJ,.slice QX b.length QY]) nx:=(an.refl.set (Nat.le_refl _)).set (by omega)
 repeat' (first|((first|refine WO.n rfl ?_|refine WO.k rfl ?_);(first|refine aK ?_|refine cI ?_|refine jL ?_|refine fX ?_|refine aJ ?_|(refine sJ (fun h=>?_) (fun h=>?_)<;>(try simp only [Int.ofNat_eq_natCast] at h))))|refine WO.cB rfl ?_|refine WO.jH rfl ?_|with_reducible (first|refine WO.nil ?_|refine WC.aa ?_|refine WC.seq ?_|refine WC.ret ?_|refine aA ?_))
 all_goals try (first|(exfalso;omega)|exact absurd trivial (by assumption))
 refine WO.cn rfl ?_
 refine (oE E ((ha.same bg).up (by omega)) ((yJ.same bg).up (by omega)) hm).of ?_
 rintro _ _ _ ⟨rfl,rfl,rfl⟩
 rw [decide_eq_true rfl]
 repeat' (first|(refine WO.n rfl ?_;(first|refine aK ?_|refine cI ?_|refine fX ?_|refine aJ ?_))|refine WO.cB rfl ?_)
 refine WO.cn rfl ?_
 refine (C9 E ((hb.same bg).up (by omega)) ((eQ.same bg).up (by omega)) hl hr).of ?_
 rintro _ _ _ ⟨rfl,rfl,rfl⟩
 repeat' (first|((first|refine WO.n rfl ?_|refine WO.k rfl ?_);(first|refine aK ?_|refine fX ?_))|with_reducible (first|refine WO.nil ?_|refine WC.ret ?_|refine aA ?_))
 exact az (vs:=[_]) rfl ⟨rfl,bg,by omega⟩
theorem nQ (E:RE A) {N:Int} {av bv NU NV:Value} {axs:List BA} {ns:List Int} (ha:bP H nx 4 vR av axs) (yJ:bP H nx 4 vR NU axs) (hm:axs.length≤1048576) (hb:bP H nx 1 aW bv ns) (eQ:bP H nx 1 aW NV ns) (hl:ns.length≤1048576) :
  WF A 14 [.agg #[.int .i64 N,av,bv],.agg #[.int .i64 N,NU,NV]] H nx fun v H' nx'=>v=.bool true∧an H H' nx∧nx≤nx':=by
 obtain ⟨ab,ac,rfl⟩:=ha.form
 obtain ⟨QW,wJ,rfl⟩:=yJ.form
 obtain ⟨bb,bc,rfl⟩:=hb.form
 obtain ⟨QX,QY,rfl⟩:=eQ.form
 refine WF.enter (E.h rfl _ _ _) E.f14 ?_
 have bg:an H (aI (aI H nx [.int .i64 N,.slice ab axs.length ac,.slice bb ns.length bc]) (nx + 1) [.int .i64 N,.slice QW axs.length wJ,.slice QX ns.length QY]) nx:=(an.refl.set (Nat.le_refl _)).set (by omega)
 have hA:Rd (aI (aI H nx [.int .i64 N,.slice ab axs.length ac,.slice bb ns.length bc]) (nx + 1) [.int .i64 N,.slice QW axs.length wJ,.slice QX ns.length QY]) nx [.int .i64 N,.slice ab axs.length ac,.slice bb ns.length bc]:=Rd.skip (by omega) Rd.self
 have hB:Rd (aI (aI H nx [.int .i64 N,.slice ab axs.length ac,.slice bb ns.length bc]) (nx + 1) [.int .i64 N,.slice QW axs.length wJ,.slice QX ns.length QY]) (nx + 1) [.int .i64 N,.slice QW axs.length wJ,.slice QX ns.length QY]:=Rd.self
 repeat' (first|((first|refine WO.n rfl ?_|refine WO.k rfl ?_);(first|refine aK ?_|refine cI ?_|refine cH ?_|refine jL ?_|refine fX ?_|refine aJ ?_|(refine ke (fun h=>?_) (fun h=>?_)<;>(try simp only [Int.ofNat_eq_natCast] at h))))|refine WO.cB rfl ?_|refine WO.jH rfl ?_|with_reducible (first|refine WO.nil ?_|refine WC.aa ?_|refine WC.seq ?_|refine WC.ret ?_)|refine WC.ax rfl ?_|with_reducible (first|refine aA ?_|refine dX ?_))
 all_goals try (first|(exfalso;omega)|exact absurd trivial (by assumption))
 refine WO.cn rfl ?_
 refine (oE E.toE26 ((hb.same bg).up (by omega)) ((eQ.same bg).up (by omega)) hl).of ?_
 rintro _ _ _ ⟨rfl,rfl,rfl⟩
 rw [decide_eq_true rfl]
 repeat' (first|((first|refine WO.n rfl ?_|refine WO.k rfl ?_);(first|refine aK ?_|refine rH ?_|refine fX ?_))|refine WO.cB rfl ?_|with_reducible (first|refine WO.nil ?_|refine WC.aa ?_|refine WC.seq ?_|refine WC.skip ?_|refine WC.block ?_)|refine WC.ay rfl ?_|with_reducible refine aA ?_)
 refine WC.loop (α:=Nat) (fun k=>[(S2,.pointer (some ⟨nx,0,none⟩)),(S3,.pointer (some ⟨nx + 1,0,none⟩)),(S5,.int .i64 k)]) (fun k H' nx'=>an H H' nx∧nx≤nx'∧k≤axs.length∧Rd H' nx [.int .i64 N,.slice ab axs.length ac,.slice bb ns.length bc]∧Rd H' (nx + 1) [.int .i64 N,.slice QW axs.length wJ,.slice QX ns.length QY]) (fun k=>axs.length - k)
   ?_ 0 aN ⟨bg,by omega,Nat.zero_le _,hA,hB⟩
 clear hA hB bg
 rintro k H1 aY ⟨bg,b9,hk,hA,hB⟩
 repeat' (first|((first|refine WO.n rfl ?_|refine WO.k rfl ?_);(first|refine aK ?_|refine cI ?_|refine cH ?_|refine aJ ?_|(refine dt (fun h=>?_) (fun h=>?_)<;>(try simp only [Int.ofNat_eq_natCast] at h))))|with_reducible (first|refine WO.nil ?_|refine WC.aa ?_|refine WC.drawn ?_|refine WC.seq ?_|refine WC.skip ?_|refine WC.ret ?_|refine WC.exit ?_|refine WC.block ?_)|refine WC.ax rfl ?_|refine WC.ay rfl ?_|with_reducible (first|refine aA ?_|refine ef ?_|refine ew ?_))
 ·have bF:k < axs.length:=by omega
  have iS:=List.getElem?_eq_getElem bF
  obtain ⟨b1,o1,zw,rfl,dJ,_,_,oV,iU⟩:=ha.at (by intro e;rw [e] at bF;simp at bF)
  obtain ⟨b2,o2,jf,rfl,j8,_,_,wk,qi⟩:=yJ.at (by intro e;rw [e] at bF;simp at bF)
  have abn:=bg.rd dJ oV
  have abo:=bg.rd j8 wk
  have Vi:=iU k _ iS
  have u5:=qi k _ iS
  generalize axs[k]=x at Vi u5
  obtain ⟨x0,x1,x2,x3⟩:=x
  have abp:take? 4 (zw.drop (o1 + k * 4))=some [.int .i64 x0,.int .i64 x1,.int .i64 x2,.int .i64 x3]:=Vi
  have abq:take? 4 (jf.drop (o2 + k * 4))=some [.int .i64 x0,.int .i64 x1,.int .i64 x2,.int .i64 x3]:=u5
  repeat' ((first|refine WO.n rfl ?_|refine WO.k rfl ?_);(first|refine cI ?_|refine aJ ?_|refine IT ?_|refine aZ ?_))
  refine WO.k rfl ?_
  refine aM.of (Act.aap E.q4 E.n4 rfl rfl) ?_
  rw [decide_eq_false (fun h=>h rfl)]
  repeat' (first|((first|refine WO.n rfl ?_|refine WO.k rfl ?_);(first|refine aK ?_|refine ba ?_))|with_reducible (first|refine WO.nil ?_|refine WC.aa ?_|refine WC.skip ?_)|refine WC.ay rfl ?_|with_reducible (first|refine aA ?_|refine dY ?_|refine nD ?_))
  exact ⟨k + 1,by omega,.cons rfl aN,bg,b9,by omega,hA,hB⟩
 ·exact az (vs:=[_]) rfl ⟨rfl,bg,by omega⟩
end Go.Eng

namespace Go.Eng
variable {A:aG} {H H':Heap} {nx nx':Nat} {σ:aP} {L:List Value} {Q:cw}
set_option maxRecDepth 100000
theorem E26.Vs (E:E26 A) {n:Int} {ev:Value} {es:List (Int×Int)} (he:bP H nx 2 bH ev es) :
  WF A 22 [.agg #[.int .i64 n,ev]] H nx fun v H' nx'=>v=.bool (decide (kp n es))∧an H H' nx∧nx≤nx':=AJ E.f22 (E.h rfl) he
def QZ (n:Int) (es:List Ed):Prop:=es.length≤300∧(n≤300∨¬kp n es)
def RW (n:Int) (es:List Ed) (r:List (List Int)):Prop:=QZ n es∧n≤200∧r.length + total r r.length≤1000
def GB (n:Int) (es:List Ed) (r:List (List Int)):Prop:=RW n es r∧(¬kp n es∨n≤30∧es.length≤60)
open Classical in
theorem Bi (E:E26 A) {n:Int} {ev:Value} {es:List Ed} (he:bP H nx 2 bH ev es) :
  WF A 48 [.agg #[.int .i64 n,ev]] H nx fun v H' nx'=>v=.bool (decide (QZ n es))∧an H H' nx∧nx≤nx':=by
 obtain ⟨base,ec,rfl⟩:=he.form
 refine WF.enter (E.h rfl _ _ _) E.f48 ?_
 have bg:an H (aI H nx [.int .i64 n,.slice base es.length ec]) nx:=an.refl.set (Nat.le_refl _)
 repeat' (first|((first|refine WO.n rfl ?_|refine WO.k rfl ?_);(first|refine aK ?_|refine cI ?_|refine cH ?_|refine jL ?_|refine fX ?_|refine aJ ?_|(refine TI (fun h=>?_) (fun h=>?_)<;>(try simp only [Int.ofNat_eq_natCast] at h))))|refine WO.cB rfl ?_|refine WO.jH rfl ?_|refine WO.Lx rfl ?_|with_reducible (first|refine WO.nil ?_|refine WC.aa ?_|refine WC.seq ?_|refine WC.ret ?_|refine aA ?_))
 ·have h1:=h
  have h2:n≤300:=by omega
  exact az (vs:=[_]) rfl ⟨by rw [decide_eq_true (p:=QZ n es) ⟨by omega,.inl h2⟩];rfl,bg,by omega⟩
 ·have h1:=h
  have h2:¬n≤300:=by omega
  refine WO.cn rfl ?_
  refine (E.Vs ((he.same bg).up (by omega))).of ?_
  rintro _ H1 aY ⟨rfl,aS,b9⟩
  have bn:an H H1 nx:=bg.trans aS (by omega)
  by_cases hm:kp n es
  ·rw [decide_eq_true hm]
   repeat' (first|((first|refine WO.n rfl ?_|refine WO.k rfl ?_);(first|refine aK ?_|refine rH ?_|refine fX ?_))|refine WO.cB rfl ?_|with_reducible (first|refine WO.nil ?_|refine WC.ret ?_|refine aA ?_))
   exact az (vs:=[_]) rfl ⟨by rw [decide_eq_false (p:=QZ n es) (fun h=>by rcases h.2 with h|h;exact h2 h;exact h hm)];rfl,bn,by omega⟩
  ·rw [decide_eq_false hm]
   repeat' (first|((first|refine WO.n rfl ?_|refine WO.k rfl ?_);(first|refine aK ?_|refine rH ?_|refine fX ?_))|refine WO.cB rfl ?_|with_reducible (first|refine WO.nil ?_|refine WC.ret ?_|refine aA ?_))
   exact az (vs:=[_]) rfl ⟨by rw [decide_eq_true (p:=QZ n es) ⟨by omega,.inr hm⟩];rfl,bn,by omega⟩
 ·have h1:=h
  exact az (vs:=[_]) rfl ⟨by rw [decide_eq_false (p:=QZ n es) (fun h=>by have:=h.1;omega)];rfl,bg,by omega⟩
theorem Bj {r:List (List Int)} (cD:bX r):∀{k:Nat},k≤r.length→total r k≤1048576 * k:=by
 intro k
 induction k with
 | zero=>intro _;exact Nat.le_refl _
 | succ k ih=>
  intro hk
  rw [hX (by omega)]
  have:=ih (by omega)
  have:=cD.row k
  omega
open Classical in
theorem Bk (E:E26 A) {n:Int} {ev rv:Value} {es:List Ed} {r:List (List Int)} (he:bP H nx 2 bH ev es) (hr:dZ H nx 1 aW rv r) (cD:bX r) :
  WF A 21 [.agg #[.int .i64 n,ev],rv] H nx fun v H' nx'=>v=.bool (decide (RW n es r))∧an H H' nx∧nx≤nx':=by
 obtain ⟨base,ec,rfl⟩:=he.form
 obtain ⟨bu,rc,rfl⟩:=hr.form
 have oV:=cD.1
 refine WF.enter (E.h rfl _ _ _) E.f21 ?_
 have bg:an H (aI H nx [.int .i64 n,.slice base es.length ec]) nx:=an.refl.set (Nat.le_refl _)
 have wN:Rd (aI H nx [.int .i64 n,.slice base es.length ec]) nx [.int .i64 n,.slice base es.length ec]:=Rd.self
 repeat' (first|((first|refine WO.n rfl ?_|refine WO.k rfl ?_);(first|refine aK ?_|refine cH ?_|refine jL ?_))|with_reducible (first|refine WO.nil ?_|refine WC.aa ?_|refine WC.seq ?_|refine WC.block ?_|refine aA ?_))
 refine WC.loop (α:=Nat) (fun k=>[(S1,.slice bu r.length rc),(S2,.pointer (some ⟨nx,0,none⟩)),(S5,.int .i64 ((r.length + total r k:Nat):Int)),(S6,.int .i64 ((k:Nat):Int))])
  (fun k H' nx'=>k≤r.length∧an H H' nx∧Rd H' nx [.int .i64 n,.slice base es.length ec]∧nx + 1≤nx') (fun k=>r.length - k)
  ?_ 0 aN ⟨Nat.zero_le _,bg,wN,Nat.le_refl _⟩
 clear bg wN
 rintro k H1 aY ⟨hk,bg,wN,b9⟩
 have F1:=Bj cD hk
 repeat' (first|((first|refine WO.n rfl ?_|refine WO.k rfl ?_);(first|refine cH ?_|refine aJ ?_|(refine dt (fun h=>?_) (fun h=>?_)<;>(try simp only [Int.ofNat_eq_natCast] at h))))|with_reducible (first|refine WO.nil ?_|refine WC.aa ?_|refine WC.seq ?_|refine WC.skip ?_|refine WC.exit ?_|refine WC.block ?_)|refine WC.ax rfl ?_|refine WC.ay rfl ?_|with_reducible (first|refine aA ?_|refine ef ?_|refine ew ?_))
 ·have bF:k < r.length:=by omega
  have gO:=cD.row k
  have jA:r.getD k []=r[k]:=by rw [List.getD_eq_getElem?_getD,List.getElem?_eq_getElem bF];rfl
  obtain ⟨rb,ro,vO,ib,ic,rfl,jo,iP,iD,hi⟩:=hr.at bF
  rw [← jA] at iD
  have kg:=bg.rd jo iP
  repeat' (first|((first|refine WO.n rfl ?_|refine WO.k rfl ?_);(first|refine aK ?_|refine cH ?_|refine bj ?_|refine aZ ?_|refine ba ?_))|with_reducible (first|refine WO.nil ?_|refine WC.aa ?_|refine aA ?_|refine dY ?_))
  refine ⟨k + 1,by omega,.cons rfl (.cons rfl (.cons ?_ (.cons rfl (.nil _)))),by omega,bg,wN,b9⟩
  show some _=some _
  rw [hX bF,← Nat.add_assoc]
 ·have:k=r.length:=by omega
  subst this
  repeat' (fail)
  refine WO.cn rfl ?_
  refine (Bi E ((he.same bg).up (by omega))).of ?_
  rintro _ H2 nx2 ⟨rfl,bI,fq⟩
  have bt:an H H2 nx:=bg.trans bI (by omega)
  have j8:Rd H2 nx [.int .i64 n,.slice base es.length ec]:=bI.rd (by omega) wN
  by_cases h3:QZ n es
  ·rw [decide_eq_true h3]
   repeat' (first|((first|refine WO.n rfl ?_|refine WO.k rfl ?_);(first|refine aK ?_|refine cI ?_|refine fX ?_|refine aJ ?_|(refine TI (fun h=>?_) (fun h=>?_)<;>(try simp only [Int.ofNat_eq_natCast] at h))))|refine WO.cB rfl ?_|refine WO.jH rfl ?_|with_reducible (first|refine WO.nil ?_|refine WC.ret ?_|refine aA ?_))
   all_goals
    have h1:=h
    first
     | exact az (vs:=[_]) rfl ⟨by rw [decide_eq_true (p:=RW n es r) ⟨h3,by omega,by omega⟩];rfl,bt,by omega⟩
     | exact az (vs:=[_]) rfl ⟨by rw [decide_eq_false (p:=RW n es r) (fun h=>by have:=h.2.1;have:=h.2.2;omega)];rfl,bt,by omega⟩
  ·rw [decide_eq_false h3]
   repeat' (first|((first|refine WO.n rfl ?_|refine WO.k rfl ?_);(first|refine aK ?_|refine fX ?_))|refine WO.jH rfl ?_|with_reducible (first|refine WO.nil ?_|refine WC.ret ?_|refine aA ?_))
   exact az (vs:=[_]) rfl ⟨by rw [decide_eq_false (p:=RW n es r) (fun h=>h3 h.1)];rfl,bt,by omega⟩
open Classical in
theorem yH (E:E26 A) {n:Int} {ev rv:Value} {es:List Ed} {r:List (List Int)} (he:bP H nx 2 bH ev es) (hr:dZ H nx 1 aW rv r) (cD:bX r) :
  WF A 5 [.agg #[.int .i64 n,ev],rv] H nx fun v H' nx'=>v=.bool (decide (GB n es r))∧an H H' nx∧nx≤nx':=by
 obtain ⟨base,ec,rfl⟩:=he.form
 obtain ⟨bu,rc,rfl⟩:=hr.form
 refine WF.enter (E.h rfl _ _ _) E.f5 ?_
 have bg:an H (aI H nx [.int .i64 n,.slice base es.length ec]) nx:=an.refl.set (Nat.le_refl _)
 repeat' (first|((first|refine WO.n rfl ?_|refine WO.k rfl ?_);(first|refine aK ?_|refine jL ?_|refine aJ ?_))|with_reducible (first|refine WO.nil ?_|refine WC.aa ?_|refine WC.seq ?_|refine aA ?_))
 refine WO.cn rfl ?_
 refine (Bk E ((he.same bg).up (by omega)) ((hr.same bg).up (by omega)) cD).of ?_
 rintro _ H1 aY ⟨rfl,aS,b9⟩
 have bn:an H H1 nx:=bg.trans aS (by omega)
 have dJ:Rd H1 nx [.int .i64 n,.slice base es.length ec]:=aS.rd (by omega) Rd.self
 clear bg aS
 by_cases h9:RW n es r
 ·rw [decide_eq_true h9]
  repeat' (first|(refine WO.n rfl ?_;(first|refine aK ?_|refine aJ ?_))|refine WO.cB rfl ?_)
  refine WO.cn rfl ?_
  refine (E.Vs ((he.same bn).up (by omega))).of ?_
  rintro _ H2 nx2 ⟨rfl,bI,fq⟩
  have bt:an H H2 nx:=bn.trans bI (by omega)
  have j8:Rd H2 nx [.int .i64 n,.slice base es.length ec]:=bI.rd (by omega) dJ
  by_cases hm:kp n es
  ·rw [decide_eq_true hm]
   repeat' (first|((first|refine WO.n rfl ?_|refine WO.k rfl ?_);(first|refine aK ?_|refine cI ?_|refine cH ?_|refine rH ?_|refine fX ?_|refine aJ ?_|(refine TI (fun h=>?_) (fun h=>?_)<;>(try simp only [Int.ofNat_eq_natCast] at h))))|refine WO.cB rfl ?_|refine WO.jH rfl ?_|with_reducible (first|refine WO.nil ?_|refine WC.ret ?_|refine aA ?_))
   all_goals
    have h1:=h
    first
     | exact az (vs:=[_]) rfl ⟨by rw [decide_eq_true (p:=GB n es r) ⟨h9,.inr ⟨by omega,by omega⟩⟩];rfl,bt,by omega⟩
     | exact az (vs:=[_]) rfl ⟨by rw [decide_eq_false (p:=GB n es r) (fun h=>by rcases h.2 with h|h;exact h hm;have:=h.1;have:=h.2;omega)];rfl,bt,by omega⟩
  ·rw [decide_eq_false hm]
   repeat' (first|((first|refine WO.n rfl ?_|refine WO.k rfl ?_);(first|refine aK ?_|refine rH ?_|refine fX ?_))|refine WO.cB rfl ?_|refine WO.jH rfl ?_|refine WO.Lx rfl ?_|with_reducible (first|refine WO.nil ?_|refine WC.ret ?_|refine aA ?_))
   exact az (vs:=[_]) rfl ⟨by rw [decide_eq_true (p:=GB n es r) ⟨h9,.inl hm⟩];rfl,bt,by omega⟩
 ·rw [decide_eq_false h9]
  repeat' (first|((first|refine WO.n rfl ?_|refine WO.k rfl ?_);(first|refine aK ?_|refine fX ?_))|refine WO.jH rfl ?_|refine WO.Lx rfl ?_|with_reducible (first|refine WO.nil ?_|refine WC.ret ?_|refine aA ?_))
  exact az (vs:=[_]) rfl ⟨by rw [decide_eq_false (p:=GB n es r) (fun h=>h9 h.1)];rfl,bn,by omega⟩
end Go.Eng

namespace Go.Eng
section
variable {P:Program}
theorem GC {t:TypeId} {a b:Bool} (h:P.underlying t=some .bool):kr P .neq t (.bool a) (.bool b)=some (.bool (!(a == b))):=by
 have h1:quiet P (Op.equal t (.bool a) (.bool b))=some (a == b):=uj h 9999
 have h2:∀s:Sem Bool,∀r,quiet P s=some r→quiet P (do pure (Value.bool (!(← s))):Sem Value)=some (.bool (!r)):=by
  intro s r
  induction s with
  | pure x=>intro h;cases h;rfl
  | program k ih=>intro h;exact ih P h
  | _=>intro h;cases h
 unfold kr
 have h3:quiet P (do eqGuard .neq t (.const (.bool a)) (.const (.bool b)) (.bool a) (.bool b);binOp .neq t (.bool a) (.bool b):Sem Value)=some (.bool (!(a == b))):=h2 _ _ h1
 rw [h3]
 rfl
end
variable {A:aG} {H H':Heap} {nx nx':Nat} {σ:aP} {L:List Value} {Q:cw}
theorem Act.aaq {t:TypeId} {x y:Od} {a b:Bool} (hu:A.P.underlying t=some .bool) (hx:ev σ L x=some (.bool a)) (hy:ev σ L y=some (.bool b)):Act A (.bin .neq t x y) σ L H nx (.bool (!(a == b))) H nx:=by
 refine .eE hx hy fun k=>?_
 unfold Eng.eE
 show bd (kr A.P .neq t (.bool a) (.bool b)) k=_
 rw [GC hu]
 rfl
theorem bk.Vt {L:List Value} {x:Od} {g:Option Nat} {w d b o:Nat} {cs:List Value} {v:Value} {ag:List bL} (hx:ev σ L x=some (.pointer (some ⟨b,o,none⟩))) (hr:Rd H b cs) (hv:partOf cs o g=some v) (hw:L[w]?=some (.bool true)) (hd:L[d]?=some v) (hq:km v v=true) (E4:bk A σ L H ag):bk A σ L H (⟨some (w,true),.ah x g,d⟩::ag):=by
 refine ⟨fun T hT X=>?_⟩
 have h1:wanted L (some (w,true))=true:=by
  show vY true (BE L w)=true
  rw [oQ,hw];rfl
 show cond (wanted L (some (w,true))) (dv (.ah x g) A.P T L H fun v=>s7 L d fun u=>cond (km u v) (fS A.P T L H ag X) none) _=X
 rw [h1]
 exact (bk.look (ag:=ag) hx hr hv hd hq E4).reads T hT X
theorem Da {n:Int} {es:List Ed} {r:List (List Int)} (h0:bq n es r=0):(aD es r).length≤2 * es.length + r.length:=by
 have g:=cd h0
 obtain ⟨l,hl⟩:=sW g
 have he:=jb g hl
 unfold aD kj
 rw [he,List.length_append]
 have:=uK (nxt:=l) (k:=l.length)
 have:=yv (r:=r) (k:=r.length)
 have:=hl.1
 omega
theorem E26.keep (E:E26 A) {nx0 pb B:Nat} {lv Ma:Value} {us ls:List Value} (st:UB H nx0 nx pb lv us B) (UC:bP H nx 1 Ay Ma ls) (GN:∀u∈ls,CF u) (hlen:ls.length≤100) (hB:B + 6100 * ls.length≤1048576) (jJ:cf Ma≠some pb) (Zb:∀b,cf lv=some b→cf Ma≠some b) (yO:us.length≤100000) :
  WF A 13 [.pointer (some ⟨pb,0,none⟩),Ma] H nx fun _ H' nx'=>nx≤nx'∧∃wU,UB H' nx0 nx' pb wU (us++kept ls) (B + 6100 * ls.length)∧(∀b,cf wU=some b→cf lv=some b∨nx≤b)∧∀b,b < nx→b≠pb→cf lv≠some b→ao H' (at_ b)=ao H (at_ b):=
 F0 E.f13 E.f37 (E.h rfl) (E.h rfl) st UC GN hlen hB jJ Zb yO
theorem bM.Q0 {lo:Nat} {v:Value} {axs:List BA} (h:bM H lo nx 4 v axs.length (axs.flatMap vR)):bP H nx 4 vR v axs:=bM.sle h (fun _=>rfl)
theorem bM.Q1 {lo:Nat} {v:Value} {ns:List Int} (h:bM H lo nx 1 v ns.length (ns.map (.int .i64))):bP H nx 1 aW v ns:=by
 rw [← kT] at h
 exact bM.sle h (fun _=>rfl)
theorem GD {es:List Ed} {fs:List (List Int)} {m:Nat} {o:Int}:(gQ es fs m o).length=m + fs.length:=by unfold gQ;rw [List.length_append,cT,cT]
theorem Kq {es:List Ed} {l:List Int} {m:Nat}:(lL es l m).length=4 * es.length:=by unfold lL;rw [List.length_append,cT,cT];omega
theorem uX {a b c x y z:Value} (h:Value.agg #[a,b,c]=Value.agg #[x,y,z]):a=x∧b=y∧c=z:=by simpa using h
theorem Kr {N:Int} {b1 b2:Option Addr} {l1 l2 c1 c2:Nat}:km (.agg #[.int .i64 N,.slice b1 l1 c1,.slice b2 l2 c2]) (.agg #[.int .i64 N,.slice b1 l1 c1,.slice b2 l2 c2])=true:=by
 show (fa (.int .i64 N) (.int .i64 N)&&(fa (.slice b1 l1 c1) (.slice b1 l1 c1)&&(fa (.slice b2 l2 c2) (.slice b2 l2 c2)&&true)))=true
 rw [oo,oo]
 simp [fa]
open Classical in
theorem MG {n o:Int} {m:Nat} {es:List Ed} {r:List (List Int)} {ang:List Int} {bs:List (List Int)} (h0:bK n es r=0) (ee:n=(m:Int)) :
  decide (bK n es r=0∧mU es (aD es r) m (fun v=>r.getD v []) o ang bs)=decide (mU es (aD es r) m (cg es (2 * es.length)) o ang bs):=by
 have hi:=Gw (o:=o) (ang:=ang) (bs:=bs) (cd (j4 h0)) ee
 by_cases h:mU es (aD es r) m (cg es (2 * es.length)) o ang bs
 ·rw [decide_eq_true h,decide_eq_true ⟨h0,hi.2 h⟩]
 ·rw [decide_eq_false h,decide_eq_false (fun h2=>h (hi.1 h2.2))]
theorem xe {lo n:Nat} {v:Value} {cs:List Value} (h:bM H lo nx 1 v n cs) (hn:0 < n):∃b,v=.slice (some ⟨b,0,some 1⟩) n (2 * n)∧lo≤b∧b < nx∧ao H (at_ b)=some (.cells cs):=by
 obtain ⟨_,⟨_,h0⟩|⟨b,h1,h2,h3,h4⟩⟩:=h
 ·omega
 ·exact ⟨b,h1,h2,h3,h4⟩
end Go.Eng

namespace Go.Eng
variable {A:aG} {H H':Heap} {nx nx':Nat} {σ:aP} {L:List Value} {Q:cw}
set_option maxRecDepth 100000
open Classical in
theorem Vu (E:RE A) {n o e:Int} {m gb sb cb:Nat} {d:Bool} {rv v3 v15 v16 v17:Value} {base ab bb Q2 Q3:Option Addr} {ec ac bc Q4 Q5:Nat} {es:List Ed} {r bs:List (List Int)} {ang:List Int}
  (oJ:e=0→bq n es r=0) (ee:e=0→n=(m:Int)) (YV:e=0→d=decide (mU es (aD es r) m (cg es (2 * es.length)) o ang bs)) (TO:e≠0→d=false)
  (he:bP H nx 2 bH (.slice base es.length ec) es) (hr:dZ H nx 1 aW rv r) (cD:bX r) (ha:bP H nx 1 aW (.slice ab ang.length ac) ang) (Ek:ang.length≤1048576) (hb:dZ H nx 1 aW (.slice bb bs.length bc) bs) (hl:bs.length≤1048576) (ht:∀k,k≤bs.length→total bs k≤1048576) (Ba:∀k,(bs.getD k []).length≤1048576)
  (FJ:bP H nx 1 aW (.slice Q2 ang.length Q4) ang) (j8:dZ H nx 1 aW (.slice Q3 bs.length Q5) bs)
  (rQ:gb < nx) (hg:Rd H gb [.int .i64 n,.slice base es.length ec]) (ym:sb < nx) (hs:Rd H sb [.int .i64 o,.slice ab ang.length ac,.slice bb bs.length bc]) (zq:cb < nx) (hc:Rd H cb [.int .i64 o,.slice Q2 ang.length Q4,.slice Q3 bs.length Q5])
  (mB:∀σ H' nx',aT [(S1,rv),(S3,v3),(S4,.pointer (some ⟨gb,0,none⟩)),(e8,.int .i64 e),(iI,v15),(iB,v16),(ko,v17)] σ→an H H' nx→nx≤nx'→Q .normal σ H' nx') :
  WC A O2 [(S1,rv),(S3,v3),(S4,.pointer (some ⟨gb,0,none⟩)),(S6,.pointer (some ⟨sb,0,none⟩)),(e8,.int .i64 e),(jM,.pointer (some ⟨cb,0,none⟩)),(lF,.bool d),(kX,.int .i64 e),(iI,v15),(iB,v16),(ko,v17)] H nx Q:=by
 unfold O2
 refine WC.seq ?_
 refine WC.aa ?_
 refine WO.n rfl ?_
 refine aM.of (Act.Tz rfl rfl) ?_
 rw [decide_eq_false (fun h=>h rfl)]
 repeat' (first|(refine WO.n rfl ?_;(first|refine aK ?_|refine aJ ?_))|refine WO.cB rfl ?_)
 refine WO.cn rfl ?_
 refine (GA E.toE26 (o:=o) FJ ha Ek j8 hb hl Ba).of ?_
 rintro _ H1 aY ⟨rfl,aS,b9⟩
 have pM:=aS.rd rQ hg
 have F4:=aS.rd ym hs
 by_cases h0:e=0
 ·have hd:=YV h0
  have hn:=ee h0
  have MH:=oJ h0
  repeat' (first|((first|refine WO.n rfl ?_|refine WO.k rfl ?_);(first|refine aK ?_|refine rH ?_|refine fX ?_|refine aJ ?_|(refine sJ (fun h=>?_) (fun h=>?_)<;>(try simp only [Int.ofNat_eq_natCast] at h))|(refine ke (fun h=>?_) (fun h=>?_)<;>(try simp only [Int.ofNat_eq_natCast] at h))))|refine WO.cB rfl ?_|refine WO.jH rfl ?_|with_reducible (first|refine WO.nil ?_|refine WC.skip ?_)|refine WC.ay rfl ?_|with_reducible refine aA ?_)
  all_goals try (exfalso;omega)
  refine WO.cn rfl ?_
  refine (Bc E.toE26 (o:=o) MH hn ((he.same aS).up b9) ((hr.same aS).up b9) cD ((ha.same aS).up b9) Ek ((hb.same aS).up b9) hl ht Ba).of ?_
  rintro _ H2 nx2 ⟨rfl,bI,fq⟩
  have bt:an H H2 nx:=aS.trans bI b9
  rw [← hd]
  refine WO.cB rfl ?_
  refine WO.n rfl ?_
  refine aM.of (Act.aaq E.b4 rfl rfl) ?_
  rw [show (!(d == d))=false by simp]
  repeat' (first|((first|refine WO.n rfl ?_|refine WO.k rfl ?_);(first|refine aK ?_|refine fX ?_|(refine ke (fun h=>?_) (fun h=>?_)<;>(try simp only [Int.ofNat_eq_natCast] at h))))|refine WO.cB rfl ?_|refine WO.jH rfl ?_|with_reducible (first|refine WO.nil ?_|refine WC.skip ?_)|refine WC.ay rfl ?_|with_reducible refine aA ?_)
  all_goals first
   | (exfalso;omega)
   | exact mB _ _ _ aN bt (by omega)
 ·have hd:=TO h0
  subst hd
  repeat' (first|((first|refine WO.n rfl ?_|refine WO.k rfl ?_);(first|refine aK ?_|refine rH ?_|refine fX ?_|refine aJ ?_|(refine sJ (fun h=>?_) (fun h=>?_)<;>(try simp only [Int.ofNat_eq_natCast] at h))|(refine ke (fun h=>?_) (fun h=>?_)<;>(try simp only [Int.ofNat_eq_natCast] at h))))|refine WO.cB rfl ?_|refine WO.jH rfl ?_|with_reducible (first|refine WO.nil ?_|refine WC.skip ?_)|refine WC.ay rfl ?_)
  all_goals first
   | (exfalso;omega)
   | exact mB _ _ _ aN aS (by omega)
end Go.Eng

namespace Go.Eng
variable {A:aG} {H H':Heap} {nx nx':Nat} {σ:aP} {L:List Value} {Q:cw}
set_option maxRecDepth 100000
theorem Vv (E:RE A) {n e a outer:Int} {gb:Nat} {rv v15 v16 v17:Value} {base:Option Addr} {ec:Nat} {es:List Ed} {r:List (List Int)}
  (oJ:e=0→bq n es r=0) (k1:e≠0→a=e) (k2:e=0→(outer < 0∨((aD es r).length:Int)≤outer)→a=2) (k3:e=0→¬(outer < 0∨((aD es r).length:Int)≤outer)→a=0)
  (he:bP H nx 2 bH (.slice base es.length ec) es) (hr:dZ H nx 1 aW rv r) (cD:bX r) (rQ:gb < nx) (hg:Rd H gb [.int .i64 n,.slice base es.length ec])
  (mB:∀σ H' nx',aT [(S1,rv),(S3,.int .i64 outer),(S4,.pointer (some ⟨gb,0,none⟩)),(e8,.int .i64 a),(iI,v15),(iB,v16),(ko,v17)] σ→an H H' nx→nx≤nx'→Q .normal σ H' nx') :
  WC A O3 [(S1,rv),(S3,.int .i64 outer),(S4,.pointer (some ⟨gb,0,none⟩)),(e8,.int .i64 e),(iI,v15),(iB,v16),(ko,v17)] H nx Q:=by
 unfold O3
 by_cases h0:e=0
 ·have MH:=oJ h0
  have wO:=(ed MH).Bz
  have NO:=k2 h0
  have k3':=k3 h0
  have g:=cd MH
  obtain ⟨m0,m1,m2,_⟩:=g.may
  repeat' (first|((first|refine WO.n rfl ?_|refine WO.k rfl ?_);(first|refine aK ?_|refine fX ?_|refine aJ ?_|(refine dt (fun h=>?_) (fun h=>?_)<;>(try simp only [Int.ofNat_eq_natCast] at h))|(refine sJ (fun h=>?_) (fun h=>?_)<;>(try simp only [Int.ofNat_eq_natCast] at h))))|refine WO.cB rfl ?_|refine WO.jH rfl ?_|refine WO.Lx rfl ?_|with_reducible (first|refine WO.nil ?_|refine WC.aa ?_|refine WC.seq ?_|refine WC.skip ?_)|refine WC.ax rfl ?_|refine WC.ay rfl ?_)
  all_goals try (exfalso;omega)
  ·have h1:=h
   obtain rfl:=NO (.inl (by omega))
   exact mB _ _ _ aN .refl (Nat.le_refl _)
  ·refine WO.cn rfl ?_
   refine (E.CY g he hr cD (by omega)).of ?_
   rintro fv H1 aY ⟨nx0,r9,b9,hL,aS⟩
   obtain ⟨fb,fc,rfl⟩:=hL.form
   repeat' (first|((first|refine WO.n rfl ?_|refine WO.k rfl ?_);(first|refine aK ?_|refine cH ?_|refine fX ?_|(refine IU (fun h=>?_) (fun h=>?_)<;>(try simp only [Int.ofNat_eq_natCast] at h))))|refine WO.cB rfl ?_|with_reducible (first|refine WO.nil ?_|refine WC.aa ?_|refine WC.skip ?_)|refine WC.ax rfl ?_|refine WC.ay rfl ?_)
   all_goals have h1:=h
   ·obtain rfl:=NO (.inr (by omega))
    exact mB _ _ _ aN aS (by omega)
   ·obtain rfl:=k3' (by omega)
    subst h0
    exact mB _ _ _ aN aS (by omega)
 ·obtain rfl:=k1 h0
  repeat' (first|((first|refine WO.n rfl ?_|refine WO.k rfl ?_);(first|refine aK ?_|refine fX ?_|refine aJ ?_|(refine dt (fun h=>?_) (fun h=>?_)<;>(try simp only [Int.ofNat_eq_natCast] at h))|(refine sJ (fun h=>?_) (fun h=>?_)<;>(try simp only [Int.ofNat_eq_natCast] at h))))|refine WO.cB rfl ?_|refine WO.jH rfl ?_|refine WO.Lx rfl ?_|with_reducible (first|refine WO.nil ?_|refine WC.aa ?_|refine WC.seq ?_|refine WC.skip ?_)|refine WC.ax rfl ?_|refine WC.ay rfl ?_)
  all_goals first
   | (exfalso;omega)
   | exact mB _ _ _ aN .refl (Nat.le_refl _)
theorem Vw {a N:Int} {tb l1 l2 c1 c2:Nat} {rv v3 v4 v17:Value} {b1 b2:Option Addr} (hz:a≠0→N=0∧l1=0∧l2=0) (ht:Rd H tb [.int .i64 N,.slice b1 l1 c1,.slice b2 l2 c2])
  (cO:∀σ,aT [(S8,.bool true)] σ→Q .ret σ H nx)
  (mB:∀σ,a=0→aT [(S1,rv),(S3,v3),(S4,v4),(iI,.pointer (some ⟨tb,0,none⟩)),(iB,.int .i64 a),(ko,v17)] σ→Q .normal σ H nx) :
  WC A O4 [(S1,rv),(S3,v3),(S4,v4),(e8,.int .i64 a),(iI,.pointer (some ⟨tb,0,none⟩)),(iB,.int .i64 a),(ko,v17)] H nx Q:=by
 unfold O4
 by_cases h0:a=0
 ·repeat' (first|((first|refine WO.n rfl ?_|refine WO.k rfl ?_);(first|refine aK ?_|refine cI ?_|refine cH ?_|refine fX ?_|refine aJ ?_|(refine sJ (fun h=>?_) (fun h=>?_)<;>(try simp only [Int.ofNat_eq_natCast] at h))|(refine ke (fun h=>?_) (fun h=>?_)<;>(try simp only [Int.ofNat_eq_natCast] at h))|refine qO ?_))|refine WO.cB rfl ?_|refine WO.jH rfl ?_|with_reducible (first|refine WO.nil ?_|refine WC.aa ?_|refine WC.seq ?_|refine WC.skip ?_|refine WC.ret ?_)|refine WC.ax rfl ?_|refine WC.ay rfl ?_|with_reducible refine aA ?_)
  all_goals first
   | (exfalso;omega)
   | exact mB _ h0 aN
 ·obtain ⟨rfl,rfl,rfl⟩:=hz h0
  repeat' (first|((first|refine WO.n rfl ?_|refine WO.k rfl ?_);(first|refine aK ?_|refine cI ?_|refine cH ?_|refine fX ?_|refine aJ ?_|(refine sJ (fun h=>?_) (fun h=>?_)<;>(try simp only [Int.ofNat_eq_natCast] at h))|(refine ke (fun h=>?_) (fun h=>?_)<;>(try simp only [Int.ofNat_eq_natCast] at h))|refine qO ?_))|refine WO.cB rfl ?_|refine WO.jH rfl ?_|with_reducible (first|refine WO.nil ?_|refine WC.aa ?_|refine WC.seq ?_|refine WC.skip ?_|refine WC.ret ?_)|refine WC.ax rfl ?_|refine WC.ay rfl ?_|with_reducible refine aA ?_)
  all_goals first
   | (exfalso;omega)
   | exact absurd trivial (by assumption)
   | exact cO _ aN
end Go.Eng

namespace Go.Eng
variable {A:aG} {H H':Heap} {nx nx':Nat} {σ:aP} {L:List Value} {Q:cw}
set_option maxRecDepth 100000
theorem Vx (E:RE A) {n tN uN outer:Int} {m gb tb ub lo1 aY lo2 nx2 Q6 Q7 RX RY Vy Vz VA VB:Nat} {rv:Value} {base RZ R1 VC VD:Option Addr} {ec:Nat} {es:List Ed} {r:List (List Int)} {H1 H2:Heap}
  (oJ:bq n es r=0) (ee:n=(m:Int)) (JK:2≤m) (Qk:m≤30) (eB:es.length≤60)
  (he:bP H nx 2 bH (.slice base es.length ec) es) (hr:dZ H nx 1 aW rv r) (cD:bX r) (rQ:gb < nx) (hg:Rd H gb [.int .i64 n,.slice base es.length ec])
  (Bb:tb < nx) (ht:Rd H tb [.int .i64 tN,.slice RZ Q6 RX,.slice R1 Q7 RY]) (UQ:ub < nx) (hu:Rd H ub [.int .i64 uN,.slice VC Vy VA,.slice VD Vz VB])
  (hT:Bd H1 lo1 aY (.agg #[.int .i64 tN,.slice RZ Q6 RX,.slice R1 Q7 RY]) ((m + (aD es r).length:Nat):Int) (lL es (eu es r) m) (gQ es (aD es r) m outer)) (hsT:an H1 H aY) (hnT:aY≤nx)
  (hU:Bd H2 lo2 nx2 (.agg #[.int .i64 uN,.slice VC Vy VA,.slice VD Vz VB]) ((m + (aD es r).length:Nat):Int) (lL es (eu es r) m) (gQ es (aD es r) m outer)) (hsU:an H2 H nx2) (hnU:nx2≤nx) (vp:aY≤lo2)
  (cO:∀σ H' nx',aT [(S8,.bool true)] σ→Q .ret σ H' nx') :
  WC A O6 [(S1,rv),(S3,.int .i64 outer),(S4,.pointer (some ⟨gb,0,none⟩)),(iI,.pointer (some ⟨tb,0,none⟩)),(iB,.int .i64 0),(ko,.pointer (some ⟨ub,0,none⟩))] H nx Q:=by
 have zD:=Da oJ
 have g:=cd oJ
 have Qi:=g.len
 have kB:(gQ es (aD es r) m outer).length=m + (aD es r).length:=GD
 have pY:(lL es (eu es r) m).length=4 * es.length:=Kq
 have Wv:(gQ es (aD es r) m outer).length≤4000:=by omega
 have r9:0 < (gQ es (aD es r) m outer).length:=by omega
 obtain ⟨tav,tnv,etq,tga,tgn,abr⟩:=hT
 obtain ⟨uav,unv,euq,uga,ugn,abt⟩:=hU
 obtain ⟨e1,rfl,rfl⟩:=uX etq
 obtain ⟨e2,rfl,rfl⟩:=uX euq
 cases e1
 cases e2
 clear etq euq
 have VE:=(tga.same hsT hnT).Q0
 have aar:=(uga.same hsU hnU).Q0
 have VF:=(tgn.same hsT hnT).Q1
 have aas:=(ugn.same hsU hnU).Q1
 obtain ⟨d1,q1,d1a,d1b,d1c⟩:=xe tgn r9
 obtain ⟨d2,q2,d2a,d2b,d2c⟩:=xe ugn r9
 cases q1
 cases q2
 have aat:=(hsT d1 d1b).trans d1c
 have aau:=(hsU d2 d2b).trans d2c
 generalize UK:gQ es (aD es r) m outer=ns at *
 generalize has:lL es (eu es r) m=axs at *
 unfold O6
 repeat' (first|((first|refine WO.n rfl ?_|refine WO.k rfl ?_);(first|refine aK ?_|refine cI ?_|refine jL ?_|refine FG ?_|refine aJ ?_|refine iu ?_))|with_reducible (first|refine WO.nil ?_|refine WC.aa ?_|refine WC.seq ?_|refine aA ?_))
 have M7:ao (aI (aI H nx [.slice none 0 0,.int .i64 0]) (nx + 1) [.slice (some ⟨d1,0,some 1⟩) ns.length (2 * ns.length),.slice (some ⟨d2,0,some 1⟩) ns.length (2 * ns.length)]) (at_ nx)=some (.cells [.slice none 0 0,.int .i64 0]):=by
  rw [ak,if_neg (by omega)];exact aw
 have GN:∀d:Nat,CF (.slice (some ⟨d,0,some 1⟩) ns.length (2 * ns.length)):=fun d=>.inr ⟨d,0,_,_,rfl,r9,Wv,by rw [dD];exact Nat.le_refl _,by rw [dD];omega⟩
 refine WO.cn rfl ?_
 refine (E.toE26.keep (nx0:=nx + 1) (pb:=nx) (B:=0) (lv:=.slice none 0 0) (us:=[]) (ls:=[.slice (some ⟨d1,0,some 1⟩) ns.length (2 * ns.length),.slice (some ⟨d2,0,some 1⟩) ns.length (2 * ns.length)])
  ⟨.int .i64 0,0,0,M7,.nil,gq (n:=0),Nat.le_refl _,by omega,by omega⟩ (bP.pre (enc:=Ay) (xs:=[.slice (some ⟨d1,0,some 1⟩) ns.length (2 * ns.length),.slice (some ⟨d2,0,some 1⟩) ns.length (2 * ns.length)]) (rest:=[]) Rd.self (by omega) (by show 2≤aE (2 * 2 + 1);decide) (fun _=>rfl))
  (fun u hu=>?_) (by show 2≤100;omega) (by show 0 + 6100 * 2≤1048576;omega) (fun e=>by have:=Option.some.inj e;omega) (fun b e=>by cases e) (Nat.zero_le _)).of ?_
 ·rcases List.mem_cons.1 hu with rfl|hu
  ·exact GN d1
  ·rw [List.mem_singleton.1 hu];exact GN d2
 rintro _ H3 iY ⟨se,lv,⟨sv,a,s,jJ,Zh,_,_,_,_⟩,yo,Qg⟩
 have hkp:([]:List Value)++kept [.slice (some ⟨d1,0,some 1⟩) ns.length (2 * ns.length),.slice (some ⟨d2,0,some 1⟩) ns.length (2 * ns.length)]=[.slice (some ⟨d1,0,some 1⟩) ns.length (2 * ns.length),.slice (some ⟨d2,0,some 1⟩) ns.length (2 * ns.length)]:=rfl
 rw [hkp] at Zh
 have eL:an H H3 nx:=fun b hb=>by
  rw [Qg b (by omega) (by omega) (fun e=>by cases e),ak,if_neg (by omega),ak,if_neg (by omega)]
 have Mo:=eL.rd rQ hg
 have ht3:=eL.rd Bb ht
 have hu3:=eL.rd UQ hu
 clear Qg M7
 repeat' (first|(refine WO.n rfl ?_;(first|refine aK ?_|refine aJ ?_|(refine sJ (fun h=>?_) (fun h=>?_)<;>(try simp only [Int.ofNat_eq_natCast] at h))))|refine WO.cB rfl ?_|refine WO.jH rfl ?_|with_reducible (first|refine WO.nil ?_|refine WC.drawn ?_|refine WC.seq ?_|refine aA ?_))
 all_goals try (first|(exfalso;omega)|exact absurd trivial (by assumption)|exact absurd rfl (by assumption))
 refine WO.ca rfl ?_
 refine (yG E.toE26 (o:=outer) (m:=m) oJ ee ((he.same eL).up (by omega)) ((hr.same eL).up (by omega)) cD).of ?_
 rintro _ H4 J6 ⟨lo3,abu,⟨rav,rnv,rfl,rga,rgn,abv⟩,rL,G1⟩
 rw [UK] at rgn
 rw [has] at rga
 have sm:an H H4 nx:=eL.trans rL (by omega)
 have ht4:=sm.rd Bb ht
 have hu4:=sm.rd UQ hu
 refine ⟨bk.Vt rfl ht4 rfl rfl rfl Kr .nil,?_⟩
 refine WO.cB rfl ?_
 refine WO.cn rfl ?_
 refine (nQ E (axs:=axs) (ns:=ns) ((VE.same sm).up (by omega)) rga.Q0 (by omega) ((VF.same sm).up (by omega)) rgn.Q1 (by omega)).of ?_
 rintro _ H5 A6 ⟨rfl,yT,Vj⟩
 have q6:an H H5 nx:=sm.trans yT (by omega)
 have ht5:=q6.rd Bb ht
 have hu5:=q6.rd UQ hu
 repeat' (first|(refine WO.n rfl ?_;(first|refine aK ?_|refine fX ?_|refine aJ ?_))|refine WO.cB rfl ?_)
 refine WO.cn rfl ?_
 refine (nQ E (axs:=axs) (ns:=ns) ((aar.same q6).up (by omega)) ((VE.same q6).up (by omega)) (by omega) ((aas.same q6).up (by omega)) ((VF.same q6).up (by omega)) (by omega)).of ?_
 rintro _ H6 Gm ⟨rfl,KK,VZ⟩
 have Q8:an H3 H6 iY:=(rL.trans yT (by omega)).trans KK (by omega)
 repeat' (first|(refine WO.n rfl ?_;(first|refine aK ?_|refine fX ?_))|refine WO.cB rfl ?_)
 refine WO.cn rfl ?_
 refine WF.mF (E.ha _ _ _ ⟨nx,lv,sv,nx + 1,[.slice (some ⟨d1,0,some 1⟩) ns.length (2 * ns.length),.slice (some ⟨d2,0,some 1⟩) ns.length (2 * ns.length)],rfl,(Q8 nx (by omega)).trans jJ,Zh.same Q8 (by omega),by omega,by omega,by show 2≤100000;omega,fun i u hi=>?_,fun i j u w hi hj hb=>?_⟩) ?_
 ·have key:∀d,d < nx→ao H (at_ d)=some (.cells (ns.map (.int .i64)))→∃d' o n c cs,Value.slice (some ⟨d,0,some 1⟩) ns.length (2 * ns.length)=.slice (some ⟨d',o,some 1⟩) n c∧ao H6 (at_ d')=some (.cells cs)∧cs.length=o + n∧n≤4000∧d' < Gm∧d'≠nx∧cf lv≠some d':=fun d hd hc=>by
   refine ⟨d,0,_,_,_,rfl,(Q8 d (by omega)).trans ((eL d hd).trans hc),by simp,Wv,by omega,by omega,fun e=>?_⟩
   rcases yo d e with h|h
   ·cases h
   ·omega
  match i,hi with
  | 0,hi=>cases hi;exact key d1 (by omega) aat
  | 1,hi=>cases hi;exact key d2 (by omega) aau
  | i + 2,hi=>simp at hi
 ·match i,j,hi,hj with
  | 0,0,_,_=>rfl
  | 1,1,_,_=>rfl
  | 0,1,hi,hj=>cases hi;cases hj;have:=Option.some.inj hb;omega
  | 1,0,hi,hj=>cases hi;cases hj;have:=Option.some.inj hb;omega
  | i + 2,_,hi,_=>simp at hi
  | 0,j + 2,_,hj=>simp at hj
  | 1,j + 2,_,hj=>simp at hj
 ·repeat' (first|((first|refine WO.n rfl ?_|refine WO.k rfl ?_);(first|refine aK ?_|refine fX ?_))|with_reducible (first|refine WO.nil ?_|refine WC.ret ?_|refine aA ?_|refine nD ?_))
  exact cO _ _ _ aN
end Go.Eng

namespace Go.Eng
variable {A:aG} {H H':Heap} {nx nx':Nat} {σ:aP} {L:List Value} {Q:cw}
set_option maxRecDepth 100000
theorem aav {nb sb:Nat} {v1 v3 v4 o av:Value} {a0:Nat} {bb:Option Addr} {bc:Nat} {bs:List (List Int)} {H0:Heap} (hb:dZ H0 nb 1 aW (.slice bb bs.length bc) bs) (cD:bX bs) (VV:a0≤1048576 + 1048576) (bg:an H0 H nb) (hp:Rd H sb [o,av,.slice bb bs.length bc])
  (aC:∀σ,aT [(S1,v1),(S3,v3),(S4,v4),(S6,.pointer (some ⟨sb,0,none⟩)),(S9,.int .i64 ((a0 + total bs bs.length:Nat):Int))] σ→Q (.exit 0) σ H nx) :
  WC A (.loop I3) [(S1,v1),(S3,v3),(S4,v4),(S6,.pointer (some ⟨sb,0,none⟩)),(S9,.int .i64 (a0:Int)),(gu,.int .i64 0)] H nx Q:=by
 have dJ:=cD.1
 refine WC.loop (α:=Nat) (fun k=>[(S1,v1),(S3,v3),(S4,v4),(S6,.pointer (some ⟨sb,0,none⟩)),(S9,.int .i64 ((a0 + total bs k:Nat):Int)),(gu,.int .i64 ((k:Nat):Int))])
  (fun k H' nx'=>k≤bs.length∧H'=H∧nx'=nx) (fun k=>bs.length - k)
  ?_ 0 aN ⟨Nat.zero_le _,rfl,rfl⟩
 rintro k H1 aY ⟨hk,rfl,rfl⟩
 have F1:=Bj cD hk
 have RR:=cD.row k
 unfold I3
 repeat' (first|((first|refine WO.n rfl ?_|refine WO.k rfl ?_);(first|refine cI ?_|refine cH ?_|refine aJ ?_|(refine dt (fun h=>?_) (fun h=>?_)<;>(try simp only [Int.ofNat_eq_natCast] at h))))|with_reducible (first|refine WO.nil ?_|refine WC.aa ?_|refine WC.seq ?_|refine WC.skip ?_|refine WC.exit ?_|refine WC.block ?_)|refine WC.ax rfl ?_|refine WC.ay rfl ?_|with_reducible (first|refine aA ?_|refine ef ?_))
 ·have bF:k < bs.length:=by omega
  have jA:bs.getD k []=bs[k]:=by rw [List.getD_eq_getElem?_getD,List.getElem?_eq_getElem bF];rfl
  obtain ⟨rb,ro,vO,ib,ic,rfl,jo,iP,iD,hi⟩:=hb.at bF
  rw [← jA] at iD
  have kg:=bg.rd jo iP
  repeat' (first|((first|refine WO.n rfl ?_|refine WO.k rfl ?_);(first|refine aK ?_|refine cH ?_|refine bj ?_|refine aZ ?_|refine ba ?_))|with_reducible (first|refine WO.nil ?_|refine WC.aa ?_|refine aA ?_|refine dY ?_))
  refine ⟨k + 1,by omega,.cons rfl (.cons rfl (.cons rfl (.cons rfl (.cons ?_ (.cons rfl (.nil _)))))),by omega,rfl,rfl⟩
  show some _=some _
  rw [hX bF,← Nat.add_assoc]
 ·have:k=bs.length:=by omega
  subst this
  exact aC _ aN
set_option maxHeartbeats 4000000 in
open Classical in
theorem JF (E:RE A) {n o outer:Int} {ev rv av bv:Value} {es:List Ed} {r bs:List (List Int)} {ang:List Int} (he:bP H nx 2 bH ev es) (eB:es.length≤1048576) (hr:dZ H nx 1 aW rv r) (cD:bX r)
  (ha:bP H nx 1 aW av ang) (Ek:ang.length≤1048576) (hb:dZ H nx 1 aW bv bs) (zb:bX bs) :
  WF A 3 [.agg #[.int .i64 n,ev],rv,.agg #[.int .i64 o,av,bv],.int .i64 outer] H nx fun v _ _=>v=.bool true:=by
 obtain ⟨base,ec,rfl⟩:=he.form
 obtain ⟨bu,rc,rfl⟩:=hr.form
 obtain ⟨ab,ac,rfl⟩:=ha.form
 obtain ⟨bb,bc,rfl⟩:=hb.form
 have oa:=zb.1
 refine WF.enter (E.h rfl _ _ _) E.f3 ?_
 have bg:an H (aI (aI H nx [.int .i64 n,.slice base es.length ec]) (nx + 1) [.int .i64 o,.slice ab ang.length ac,.slice bb bs.length bc]) nx:=(an.refl.set (Nat.le_refl _)).set (by omega)
 have GJ:Rd (aI (aI H nx [.int .i64 n,.slice base es.length ec]) (nx + 1) [.int .i64 o,.slice ab ang.length ac,.slice bb bs.length bc]) nx [.int .i64 n,.slice base es.length ec]:=Rd.skip (by omega) Rd.self
 have Ak:Rd (aI (aI H nx [.int .i64 n,.slice base es.length ec]) (nx + 1) [.int .i64 o,.slice ab ang.length ac,.slice bb bs.length bc]) (nx + 1) [.int .i64 o,.slice ab ang.length ac,.slice bb bs.length bc]:=Rd.self
 repeat' (first|(refine WO.k rfl ?_;(first|refine aK ?_|refine jL ?_))|with_reducible (first|refine WO.nil ?_|refine WC.aa ?_|refine WC.seq ?_|refine aA ?_))
 refine WO.cn rfl ?_
 refine WF.mF (E.hb _ _) ?_
 repeat' (first|((first|refine WO.n rfl ?_|refine WO.k rfl ?_);(first|refine aK ?_|refine cI ?_|refine cH ?_|refine rH ?_|refine aJ ?_|refine ba ?_))|with_reducible (first|refine WO.nil ?_|refine WC.aa ?_|refine WC.seq ?_|refine WC.skip ?_|refine WC.block ?_)|refine WC.ay rfl ?_|with_reducible refine aA ?_)
 refine WC.sub aN (aav (H0:=H) (nb:=nx) (sb:=nx + 1) (a0:=ang.length + bs.length) (v1:=.slice bu r.length rc) (v3:=.int .i64 outer) (v4:=.pointer (some ⟨nx,0,none⟩)) hb zb (by omega) bg Ak (fun σ hσ=>?_))
 refine ew (aA (WC.sub hσ ?_))
 clear hσ
 repeat' (first|(refine WO.n rfl ?_;refine aJ ?_)|with_reducible (first|refine WC.aa ?_|refine WC.seq ?_))
 refine WO.cn rfl ?_
 refine (yH E.toE26 ((he.same bg).up (by omega)) ((hr.same bg).up (by omega)) cD).of ?_
 rintro _ H1 aY ⟨rfl,aS,b9⟩
 have bn:an H H1 nx:=bg.trans aS (by omega)
 have pM:Rd H1 nx [.int .i64 n,.slice base es.length ec]:=aS.rd (by omega) GJ
 have Bt:Rd H1 (nx + 1) [.int .i64 o,.slice ab ang.length ac,.slice bb bs.length bc]:=aS.rd (by omega) Ak
 clear bg GJ Ak aS
 by_cases hL:GB n es r
 case neg=>
  rw [decide_eq_false hL]
  repeat' (first|((first|refine WO.n rfl ?_|refine WO.k rfl ?_);(first|refine aK ?_|refine rH ?_|refine fX ?_))|refine WO.jH rfl ?_|with_reducible (first|refine WO.nil ?_|refine WC.aa ?_|refine WC.seq ?_|refine WC.ret ?_)|refine WC.ax rfl ?_|with_reducible (first|refine aA ?_|refine dX ?_))
  exact az (vs:=[_]) rfl rfl
 rw [decide_eq_true hL]
 repeat' (first|((first|refine WO.n rfl ?_|refine WO.k rfl ?_);(first|refine aK ?_|refine rH ?_|refine fX ?_|refine aJ ?_|(refine Bu (fun h=>?_) (fun h=>?_)<;>(try simp only [Int.ofNat_eq_natCast] at h))))|refine WO.cB rfl ?_|with_reducible (first|refine WO.nil ?_|refine WC.aa ?_|refine WC.seq ?_|refine WC.skip ?_|refine WC.ret ?_)|refine WC.ax rfl ?_|refine WC.ay rfl ?_|with_reducible (first|refine aA ?_|refine dX ?_))
 ·exact az (vs:=[_]) rfl rfl
 have lk:ang.length + bs.length + total bs bs.length≤20000:=by omega
 refine WO.cn rfl ?_
 refine (E.QK ((he.same bn).up (by omega)) ((hr.same bn).up (by omega)) cD).of ?_
 rintro _ H2 nx2 ⟨rfl,bI,fq⟩
 have bt:an H H2 nx:=bn.trans bI (by omega)
 have sU:Rd H2 nx [.int .i64 n,.slice base es.length ec]:=bI.rd (by omega) pM
 have FI:Rd H2 (nx + 1) [.int .i64 o,.slice ab ang.length ac,.slice bb bs.length bc]:=bI.rd (by omega) Bt
 clear bn pM Bt bI
 repeat' (first|((first|refine WO.n rfl ?_|refine WO.k rfl ?_);(first|refine aK ?_|refine aJ ?_))|with_reducible (first|refine WO.nil ?_|refine WC.aa ?_|refine WC.seq ?_|refine aA ?_))
 refine WO.cn rfl ?_
 refine (Gy E.toE26 (o:=o) ((ha.same bt).up (by omega)) Ek ((hb.same bt).up (by omega)) oa zb.row).of ?_
 rintro _ H3 iY ⟨av2,bv2,rfl,Wx,yo,eL,se⟩
 obtain ⟨Q2,Q4,rfl⟩:=Wx.form
 obtain ⟨Q3,Q5,rfl⟩:=yo.form
 have jC:an H H3 nx:=bt.trans eL (by omega)
 have Mo:Rd H3 nx [.int .i64 n,.slice base es.length ec]:=eL.rd (by omega) sU
 have RG:Rd H3 (nx + 1) [.int .i64 o,.slice ab ang.length ac,.slice bb bs.length bc]:=eL.rd (by omega) FI
 clear bt sU FI eL
 repeat' (first|((first|refine WO.n rfl ?_|refine WO.k rfl ?_);(first|refine uw ?_|refine aJ ?_|refine iQ ?_))|with_reducible (first|refine WO.nil ?_|refine WC.aa ?_|refine WC.seq ?_|refine aA ?_))
 have sm:an H3 (aI (aI H3 iY [.int .i64 0,.slice none 0 0,.slice none 0 0]) iY [.int .i64 o,.slice Q2 ang.length Q4,.slice Q3 bs.length Q5]) iY:=(an.refl.set (Nat.le_refl _)).set (Nat.le_refl _)
 have ee:bK n es r=0→n=((n.toNat:Nat):Int):=fun h=>by
  have:=(cd (j4 h)).may.1
  omega
 have Ks:∀{q:Int},du n es r q=0→bK n es r=0:=fun {q} h=>by
  by_cases h1:bK n es r=0
  ·exact h1
  ·unfold du at h
   rw [if_pos h1] at h
   exact h
 have gO:=zb.row
 have Mg:∀k,k≤bs.length→total bs k≤1048576:=fun k hk=>by
  have VG:∀j,k≤j→j≤bs.length→total bs k≤total bs j:=by
   intro j
   induction j with
   | zero=>
     intro h1 _;have:k=0:=by omega
     subst this;exact Nat.le_refl _
   | succ j ih=>
    intro h1 h2
    rcases (show k≤j∨k=j + 1 by omega) with h3|rfl
    ·rw [hX (by omega)]
     have:=ih h3 (by omega)
     omega
    ·exact Nat.le_refl _
  have:=VG bs.length hk (Nat.le_refl _)
  omega
 refine WO.cn rfl ?_
 refine (vS E.toE26 (o:=o) (m:=n.toNat) ee ((he.same (jC.trans sm (by omega))).up (by omega)) ((hr.same (jC.trans sm (by omega))).up (by omega)) cD ((Wx.same sm).up (by omega)) Ek ((yo.same sm).up (by omega)) oa Mg gO).of ?_
 rintro _ H4 J6 ⟨rfl,rL,G1⟩
 have q6:an H3 H4 iY:=sm.trans rL (by omega)
 have vQ:an H H4 nx:=jC.trans q6 (by omega)
 have NQ:Rd H4 nx [.int .i64 n,.slice base es.length ec]:=q6.rd (by omega) Mo
 have Wu:Rd H4 (nx + 1) [.int .i64 o,.slice ab ang.length ac,.slice bb bs.length bc]:=q6.rd (by omega) RG
 have rN:Rd H4 iY [.int .i64 o,.slice Q2 ang.length Q4,.slice Q3 bs.length Q5]:=rL.rd (by omega) Rd.self
 have ha4:=(Wx.same q6).up (nx':=J6) (by omega)
 have G5:=(yo.same q6).up (nx':=J6) (by omega)
 clear sm rL Mo RG jC Wx yo q6
 repeat' (first|((first|refine WO.n rfl ?_|refine WO.k rfl ?_);(first|refine aK ?_|refine AA ?_|refine aJ ?_))|with_reducible (first|refine WO.nil ?_|refine WC.aa ?_|refine WC.seq ?_|refine aA ?_))
 refine WO.cn rfl ?_
 refine (mX E.toE26 (o:=outer) (m:=n.toNat) (fun h=>ee (Ks h)) ((he.same vQ).up (by omega)) ((hr.same vQ).up (by omega)) cD).of ?_
 rintro _ H5 A6 ⟨tv,rfl,htn,F1,yT,Vj⟩
 obtain ⟨tN,RZ,Q6,RX,R1,Q7,RY,rfl⟩:∃N b1 l1 c1 b2 l2 c2,tv=.agg #[.int .i64 N,.slice b1 l1 c1,.slice b2 l2 c2]:=by
  by_cases h:du n es r outer=0
  ·obtain ⟨lo,_,_,av,nv,rfl,g1,g2,_⟩:=F1 h
   obtain ⟨x,y,rfl⟩:=cu g1
   obtain ⟨z,w,rfl⟩:=cu g2
   exact ⟨_,_,_,_,_,_,_,rfl⟩
  ·exact ⟨_,_,_,_,_,_,_,htn h⟩
 have MI:an H H5 nx:=vQ.trans yT (by omega)
 have hg5:Rd H5 nx [.int .i64 n,.slice base es.length ec]:=yT.rd (by omega) NQ
 have hp5:Rd H5 (nx + 1) [.int .i64 o,.slice ab ang.length ac,.slice bb bs.length bc]:=yT.rd (by omega) Wu
 have hc5:Rd H5 iY [.int .i64 o,.slice Q2 ang.length Q4,.slice Q3 bs.length Q5]:=yT.rd (by omega) rN
 have ha5:=(ha4.same yT).up (nx':=A6) (by omega)
 have hb5:=(G5.same yT).up (nx':=A6) (by omega)
 clear vQ NQ Wu rN ha4 G5 yT
 repeat' (first|((first|refine WO.n rfl ?_|refine WO.k rfl ?_);(first|refine aK ?_|refine AA ?_|refine uw ?_|refine aJ ?_|refine iQ ?_))|with_reducible (first|refine WO.nil ?_|refine WC.aa ?_|refine WC.seq ?_|refine aA ?_))
 have MJ:an H5 (aI (aI H5 A6 [.int .i64 0,.slice none 0 0,.slice none 0 0]) A6 [.int .i64 tN,.slice RZ Q6 RX,.slice R1 Q7 RY]) A6:=(an.refl.set (Nat.le_refl _)).set (Nat.le_refl _)
 refine WO.cn rfl ?_
 refine (mX E.toE26 (o:=outer) (m:=n.toNat) (fun h=>ee (Ks h)) ((he.same (MI.trans MJ (by omega))).up (by omega)) ((hr.same (MI.trans MJ (by omega))).up (by omega)) cD).of ?_
 rintro _ H6 Gm ⟨uv,rfl,Kh,huk,KK,VZ⟩
 obtain ⟨uN,VC,Vy,VA,VD,Vz,VB,rfl⟩:∃N b1 l1 c1 b2 l2 c2,uv=.agg #[.int .i64 N,.slice b1 l1 c1,.slice b2 l2 c2]:=by
  by_cases h:du n es r outer=0
  ·obtain ⟨lo,_,_,av,nv,rfl,g1,g2,_⟩:=huk h
   obtain ⟨x,y,rfl⟩:=cu g1
   obtain ⟨z,w,rfl⟩:=cu g2
   exact ⟨_,_,_,_,_,_,_,rfl⟩
  ·exact ⟨_,_,_,_,_,_,_,Kh h⟩
 have Db:an H5 H6 A6:=MJ.trans KK (by omega)
 have VH:an H H6 nx:=MI.trans Db (by omega)
 have hg6:Rd H6 nx [.int .i64 n,.slice base es.length ec]:=Db.rd (by omega) hg5
 have hp6:Rd H6 (nx + 1) [.int .i64 o,.slice ab ang.length ac,.slice bb bs.length bc]:=Db.rd (by omega) hp5
 have V2:Rd H6 iY [.int .i64 o,.slice Q2 ang.length Q4,.slice Q3 bs.length Q5]:=Db.rd (by omega) hc5
 have ht6:Rd H6 A6 [.int .i64 tN,.slice RZ Q6 RX,.slice R1 Q7 RY]:=KK.rd (by omega) Rd.self
 have ha6:=(ha5.same Db).up (nx':=Gm) (by omega)
 have hb6:=(hb5.same Db).up (nx':=Gm) (by omega)
 clear MI hg5 hp5 hc5 ha5 hb5 MJ KK
 iterate 6 ((first|((first|refine WO.n rfl ?_|refine WO.k rfl ?_);(first|refine AA ?_|refine uw ?_|refine iQ ?_))|with_reducible (first|refine WO.nil ?_|refine aA ?_)))
 have Bl:an H6 (aI (aI H6 Gm [.int .i64 0,.slice none 0 0,.slice none 0 0]) Gm [.int .i64 uN,.slice VC Vy VA,.slice VD Vz VB]) Gm:=(an.refl.set (Nat.le_refl _)).set (Nat.le_refl _)
 have hz:du n es r outer≠0→tN=0∧Q6=0∧Q7=0:=fun h=>by
  have e:=htn h
  obtain ⟨e1,e2,e3⟩:=uX e
  cases e1;cases e2;cases e3
  exact ⟨rfl,rfl,rfl⟩
 have k1:bK n es r≠0→du n es r outer=bK n es r:=fun h=>by unfold du;rw [if_pos h]
 have k2:bK n es r=0→(outer < 0∨((aD es r).length:Int)≤outer)→du n es r outer=2:=fun h h2=>by unfold du;rw [if_neg (fun h3=>h3 h),if_pos h2]
 have k3:bK n es r=0→¬(outer < 0∨((aD es r).length:Int)≤outer)→du n es r outer=0:=fun h h2=>by unfold du;rw [if_neg (fun h3=>h3 h),if_neg h2]
 have Bm:=VH.trans Bl (by omega)
 refine WC.seq (WC.sub aN
  (Vu E (n:=n) (o:=o) (e:=bK n es r) (m:=n.toNat) (gb:=nx) (sb:=nx + 1) (cb:=iY) (d:=decide (bK n es r=0∧mU es (aD es r) n.toNat (fun v=>r.getD v []) o ang bs)) (v3:=.int .i64 outer) (v15:=.pointer (some ⟨A6,0,none⟩)) (v16:=.int .i64 (du n es r outer)) (v17:=.pointer (some ⟨Gm,0,none⟩))
   (fun h=>j4 h) ee (fun h=>MG h (ee h)) (fun h=>decide_eq_false (fun h2=>h h2.1))
   ((he.same Bm).up (by omega)) ((hr.same Bm).up (by omega)) cD ((ha.same Bm).up (by omega)) Ek ((hb.same Bm).up (by omega)) oa Mg gO ((ha6.same Bl).up (by omega)) ((hb6.same Bl).up (by omega))
   (by omega) (Bl.rd (by omega) hg6) (by omega) (Bl.rd (by omega) hp6) (by omega) (Bl.rd (by omega) V2) (fun σ H7 nx7 hσ RV hn7=>?_)))
 have Kt:an H6 H7 Gm:=Bl.trans RV (by omega)
 have Q9:an H H7 nx:=VH.trans Kt (by omega)
 have hg7:Rd H7 nx [.int .i64 n,.slice base es.length ec]:=Kt.rd (by omega) hg6
 have ht7:Rd H7 A6 [.int .i64 tN,.slice RZ Q6 RX,.slice R1 Q7 RY]:=Kt.rd (by omega) ht6
 have hu7:Rd H7 Gm [.int .i64 uN,.slice VC Vy VA,.slice VD Vz VB]:=RV.rd (by omega) Rd.self
 have VI:an H5 H7 A6:=Db.trans Kt (by omega)
 clear hg6 hp6 V2 ht6 ha6 hb6 Bm RV Bl
 refine aA (WC.sub hσ ?_)
 clear hσ
 refine WC.seq (Vv E (a:=du n es r outer) (fun h=>j4 h) k1 k2 k3 ((he.same Q9).up (by omega)) ((hr.same Q9).up (by omega)) cD (by omega) hg7 (fun σ H8 nx8 hσ Ra hn8=>?_))
 have VJ:an H H8 nx:=Q9.trans Ra (by omega)
 refine aA (WC.sub hσ ?_)
 clear hσ
 refine WC.seq (Vw hz (Ra.rd (by omega) ht7) (fun σ hσ=>?_) (fun σ MA hσ=>?_))
 ·exact dX (cZ hσ (vs:=[_]) rfl rfl)
 have h0:=Ks MA
 have hn:=ee h0
 have oJ:=j4 h0
 have C2:=(cd oJ).may
 have h26:n≤30∧es.length≤60:=by
  rcases hL.2 with h|h
  ·exact absurd C2 h
  ·exact h
 have h2n:¬n < 2:=fun h=>by
  have hp:dV n es r=0:=by
   apply Classical.byContradiction
   intro hp
   unfold bK at h0
   rw [if_pos hp] at h0
   exact hp h0
  have:bK n es r=9:=by
   unfold bK
   rw [if_neg (by omega),if_pos h]
  omega
 obtain ⟨lo1,abw,aaD,hT⟩:=F1 MA
 obtain ⟨lo2,abx,aaE,hU⟩:=huk MA
 rw [MA] at hσ
 refine aA (WC.sub hσ ?_)
 refine Vx E oJ hn (by omega) (by omega) h26.2 ((he.same VJ).up (by omega)) ((hr.same VJ).up (by omega)) cD (by omega) (Ra.rd (by omega) hg7) (by omega) (Ra.rd (by omega) ht7) (by omega) (Ra.rd (by omega) hu7) hT (VI.trans Ra (by omega)) (by omega) hU (Kt.trans Ra (by omega)) (by omega) (by omega) (fun σ H9 nx9 hσ9=>?_)
 exact cZ hσ9 (vs:=[_]) rfl rfl
end Go.Eng
