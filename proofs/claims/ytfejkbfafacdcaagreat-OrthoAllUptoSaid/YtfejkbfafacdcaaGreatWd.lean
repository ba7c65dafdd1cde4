import Derived.Test.YtfejkbfafacdcaaGreatWc
/- Walks over the program: part 4. -/

namespace Go.Eng
variable {A:aG} {H H':Heap} {nx nx':Nat} {σ:aP} {L:List Value} {Q:cw}
set_option maxRecDepth 100000
theorem Z4 {b c:Nat} {xs:List Int} {x0:Int} (hl:au H b xs) (hx:xs.length≤1048576) (h0:xs[0]?=some x0)
  (aC:∀σ M,(∀x∈xs,x≤M)→M∈xs→aT [(S3,.int .i64 M)] σ→Q (.exit 0) σ H nx) :
  WC A (.loop Jx) [([],.slice (some ⟨b,0,some 1⟩) xs.length c),(S3,.int .i64 x0),(S4,.int .i64 ((1:Nat):Int))] H nx Q:=by
 have xw:=(List.getElem?_eq_some_iff.1 h0).1
 refine WC.loop (α:=Nat×Int) (fun k=>[([],.slice (some ⟨b,0,some 1⟩) xs.length c),(S3,.int .i64 k.2),(S4,.int .i64 ((k.1:Nat):Int))])
  (fun k H' nx'=>k.1≤xs.length∧H'=H∧nx'=nx∧(∀i x,i < k.1→xs[i]?=some x→x≤k.2)∧k.2∈xs) (fun k=>xs.length - k.1)
  ?_ (1,x0) aN ⟨xw,rfl,rfl,fun i x hi h=>by
   have:i=0:=by have:i < 1:=hi;omega
   subst this;rw [h0] at h;cases h;exact Int.le_refl _,List.mem_of_getElem? h0⟩
 rintro ⟨k,M⟩ H1 aY ⟨hk,rfl,rfl,hle,dW⟩
 simp only at hk hle dW ⊢
 have Ws:Rd H1 b _:=.inl hl
 unfold Jx
 repeat' (first|((first|refine WO.n rfl ?_|refine WO.k rfl ?_);(first|refine cH ?_|refine aZ ?_|(refine dt (fun h=>?_) (fun h=>?_)<;>(try simp only [Int.ofNat_eq_natCast] at h))))|with_reducible (first|refine WO.nil ?_|refine WC.aa ?_|refine WC.seq ?_|refine WC.skip ?_|refine WC.exit ?_|refine WC.block ?_)|refine WC.ax rfl ?_|refine WC.ay rfl ?_|with_reducible (first|refine aA ?_|refine ef ?_))
 ·have bF:k < xs.length:=by omega
  have iS:=List.getElem?_eq_getElem bF
  have tX:=au.cell iS
  repeat' (first|((first|refine WO.n rfl ?_|refine WO.k rfl ?_);(first|refine aK ?_|refine bj ?_|refine ba ?_|refine TK ?_))|with_reducible (first|refine WO.nil ?_|refine WC.aa ?_|refine aA ?_|refine dY ?_))
  refine ⟨(k + 1,max M xs[k]),by show xs.length - (k + 1) < xs.length - k;omega,.cons rfl aN,by show k + 1≤_;omega,rfl,rfl,fun i x hi hx=>?_,?_⟩
  ·show x≤max M xs[k]
   rcases (show i < k∨i=k by have:i < k + 1:=hi;omega) with h1|rfl
   ·have:=hle i x h1 hx;omega
   ·rw [iS] at hx;cases hx;omega
  ·show max M xs[k]∈xs
   rcases (show max M xs[k]=M∨max M xs[k]=xs[k] by omega) with e|e
   ·rw [e];exact dW
   ·rw [e];exact List.getElem_mem bF
 ·have:k=xs.length:=by omega
  subst this
  refine aC _ M (fun x hx=>?_) dW aN
  obtain ⟨i,hi,rfl⟩:=List.getElem_of_mem hx
  exact hle i _ hi (List.getElem?_eq_getElem hi)
theorem J8 {f:FuncId} (hf:A.funcs f=some P3) (hh:∀vs H nx,A.aH f vs H nx=none) {b c:Nat} {xs:List Int} (hl:au H b xs) (hx:xs.length≤1048576) (cG:0 < xs.length) :
  WF A f [.slice (some ⟨b,0,some 1⟩) xs.length c] H nx fun v H' nx'=>∃M:Int,v=.int .i64 M∧(∀x∈xs,x≤M)∧M∈xs∧H'=H∧nx'=nx:=by
 have GJ:=List.getElem?_eq_getElem cG
 have tX:=au.cell GJ
 have Ws:Rd H b _:=.inl hl
 refine WF.enter (hh _ _ _) hf ?_
 repeat' (first|((first|refine WO.n rfl ?_|refine WO.k rfl ?_);(first|refine aK ?_|refine cH ?_|refine bj ?_|refine aZ ?_|(refine dt (fun h=>?_) (fun h=>?_)<;>(try simp only [Int.ofNat_eq_natCast] at h))))|with_reducible (first|refine WO.nil ?_|refine WC.aa ?_|refine WC.seq ?_|refine WC.skip ?_|refine WC.block ?_)|refine WC.ax rfl ?_|refine WC.ay rfl ?_|with_reducible refine aA ?_)
 ·omega
 refine WC.sub aN (Z4 hl hx GJ (fun σ M h1 h2 hσ=>?_))
 refine ew (aA (WC.sub hσ ?_))
 repeat' (first|(refine WO.k rfl ?_;refine aK ?_)|with_reducible (first|refine WO.nil ?_|refine WC.aa ?_|refine WC.seq ?_|refine WC.ret ?_|refine aA ?_))
 exact az (vs:=[_]) rfl ⟨M,rfl,h1,h2,rfl,rfl⟩
theorem Z5 {b c:Nat} {xs:List Int} {x0:Int} (hl:au H b xs) (hx:xs.length≤1048576) (h0:xs[0]?=some x0)
  (aC:∀σ M,(∀x∈xs,M≤x)→M∈xs→aT [(S3,.int .i64 M)] σ→Q (.exit 0) σ H nx) :
  WC A (.loop Jw) [([],.slice (some ⟨b,0,some 1⟩) xs.length c),(S3,.int .i64 x0),(S4,.int .i64 ((1:Nat):Int))] H nx Q:=by
 have xw:=(List.getElem?_eq_some_iff.1 h0).1
 refine WC.loop (α:=Nat×Int) (fun k=>[([],.slice (some ⟨b,0,some 1⟩) xs.length c),(S3,.int .i64 k.2),(S4,.int .i64 ((k.1:Nat):Int))])
  (fun k H' nx'=>k.1≤xs.length∧H'=H∧nx'=nx∧(∀i x,i < k.1→xs[i]?=some x→k.2≤x)∧k.2∈xs) (fun k=>xs.length - k.1)
  ?_ (1,x0) aN ⟨xw,rfl,rfl,fun i x hi h=>by
   have:i=0:=by have:i < 1:=hi;omega
   subst this;rw [h0] at h;cases h;exact Int.le_refl _,List.mem_of_getElem? h0⟩
 rintro ⟨k,M⟩ H1 aY ⟨hk,rfl,rfl,hle,dW⟩
 simp only at hk hle dW ⊢
 have Ws:Rd H1 b _:=.inl hl
 unfold Jw
 repeat' (first|((first|refine WO.n rfl ?_|refine WO.k rfl ?_);(first|refine cH ?_|refine aZ ?_|(refine dt (fun h=>?_) (fun h=>?_)<;>(try simp only [Int.ofNat_eq_natCast] at h))))|with_reducible (first|refine WO.nil ?_|refine WC.aa ?_|refine WC.seq ?_|refine WC.skip ?_|refine WC.exit ?_|refine WC.block ?_)|refine WC.ax rfl ?_|refine WC.ay rfl ?_|with_reducible (first|refine aA ?_|refine ef ?_))
 ·have bF:k < xs.length:=by omega
  have iS:=List.getElem?_eq_getElem bF
  have tX:=au.cell iS
  repeat' (first|((first|refine WO.n rfl ?_|refine WO.k rfl ?_);(first|refine aK ?_|refine bj ?_|refine ba ?_|refine OX ?_))|with_reducible (first|refine WO.nil ?_|refine WC.aa ?_|refine aA ?_|refine dY ?_))
  refine ⟨(k + 1,min M xs[k]),by show xs.length - (k + 1) < xs.length - k;omega,.cons rfl aN,by show k + 1≤_;omega,rfl,rfl,fun i x hi hx=>?_,?_⟩
  ·show min M xs[k]≤x
   rcases (show i < k∨i=k by have:i < k + 1:=hi;omega) with h1|rfl
   ·have:=hle i x h1 hx;omega
   ·rw [iS] at hx;cases hx;omega
  ·show min M xs[k]∈xs
   rcases (show min M xs[k]=M∨min M xs[k]=xs[k] by omega) with e|e
   ·rw [e];exact dW
   ·rw [e];exact List.getElem_mem bF
 ·have:k=xs.length:=by omega
  subst this
  refine aC _ M (fun x hx=>?_) dW aN
  obtain ⟨i,hi,rfl⟩:=List.getElem_of_mem hx
  exact hle i _ hi (List.getElem?_eq_getElem hi)
theorem J9 {f:FuncId} (hf:A.funcs f=some P4) (hh:∀vs H nx,A.aH f vs H nx=none) {b c:Nat} {xs:List Int} (hl:au H b xs) (hx:xs.length≤1048576) (cG:0 < xs.length) :
  WF A f [.slice (some ⟨b,0,some 1⟩) xs.length c] H nx fun v H' nx'=>∃M:Int,v=.int .i64 M∧(∀x∈xs,M≤x)∧M∈xs∧H'=H∧nx'=nx:=by
 have GJ:=List.getElem?_eq_getElem cG
 have tX:=au.cell GJ
 have Ws:Rd H b _:=.inl hl
 refine WF.enter (hh _ _ _) hf ?_
 repeat' (first|((first|refine WO.n rfl ?_|refine WO.k rfl ?_);(first|refine aK ?_|refine cH ?_|refine bj ?_|refine aZ ?_|(refine dt (fun h=>?_) (fun h=>?_)<;>(try simp only [Int.ofNat_eq_natCast] at h))))|with_reducible (first|refine WO.nil ?_|refine WC.aa ?_|refine WC.seq ?_|refine WC.skip ?_|refine WC.block ?_)|refine WC.ax rfl ?_|refine WC.ay rfl ?_|with_reducible refine aA ?_)
 ·omega
 refine WC.sub aN (Z5 hl hx GJ (fun σ M h1 h2 hσ=>?_))
 refine ew (aA (WC.sub hσ ?_))
 repeat' (first|(refine WO.k rfl ?_;refine aK ?_)|with_reducible (first|refine WO.nil ?_|refine WC.aa ?_|refine WC.seq ?_|refine WC.ret ?_|refine aA ?_))
 exact az (vs:=[_]) rfl ⟨M,rfl,h1,h2,rfl,rfl⟩
end Go.Eng

namespace Go.Eng
theorem Ej {n:Int} {es:List Ed} {r:List (List Int)} (g:bY n es r) (i:Nat):∃x:Int,i < 2 * es.length→∃v k,v < r.length∧k < dG r v∧gU r v k=((bT i:Nat):Int)∧x=gU r v ((k + 1) % dG r v):=by
 by_cases hi:i < 2 * es.length
 ·obtain ⟨v,k,hv,hk,e⟩:=g.all (bT i) (de hi)
  exact ⟨_,fun _=>⟨v,k,hv,hk,e,rfl⟩⟩
 ·exact ⟨0,fun h=>absurd h hi⟩
theorem sW {n:Int} {es:List Ed} {r:List (List Int)} (g:bY n es r):∃l,eW es r l:=by
 refine ⟨(List.range (2 * es.length)).map fun i=>Classical.choose (Ej g i),by simp,fun v k hv hk=>?_⟩
 obtain ⟨g1,g2,_⟩:=g.ok v k hv hk
 have hi:bT (gU r v k).toNat < 2 * es.length:=de (by omega)
 rw [List.getElem?_map,List.getElem?_range hi]
 obtain ⟨v',k',jS,gC,e,hx⟩:=Classical.choose_spec (Ej g (bT (gU r v k).toNat)) hi
 rw [fA] at e
 obtain ⟨rfl,rfl⟩:=g.inj v' k' v k jS gC hv hk (by omega)
 exact congrArg some hx
theorem ed {n:Int} {es:List Ed} {r:List (List Int)} (h:bq n es r=0):dI (aD es r) (2 * es.length):=by
 have g:=cd h
 obtain ⟨l,hl⟩:=sW g
 exact CP g hl
end Go.Eng

namespace Go.Eng
variable {A:aG} {H H':Heap} {nx nx':Nat} {σ:aP} {L:List Value} {Q:cw}
set_option maxRecDepth 100000
theorem CW {f:FuncId} (hf:A.funcs f=some yk) (hh:∀vs H nx,A.aH f vs H nx=none) {a b:Int} :
  WF A f [.agg #[.int .i64 a,.int .i64 b]] H nx fun v H' nx'=>v=.agg #[.int .i64 (min a b),.int .i64 (max a b)]∧an H H' nx∧nx≤nx':=by
 refine WF.enter (hh _ _ _) hf ?_
 repeat' (first|((first|refine WO.n rfl ?_|refine WO.k rfl ?_);(first|refine jL ?_|refine uw ?_|refine FG ?_|refine aJ ?_|refine ux ?_|refine iQ ?_|refine OX ?_|refine TK ?_))|with_reducible (first|refine WO.nil ?_|refine WC.aa ?_|refine WC.seq ?_|refine WC.ret ?_|refine aA ?_))
 exact kP rfl aw rfl ⟨rfl,(an.refl.set (by omega)).set (by omega) |>.set (by omega),by omega⟩
def total (bs:List (List Int)) (k:Nat):Nat:=((bs.take k).map List.length).foldl (· + ·) 0
theorem hX {bs:List (List Int)} {k:Nat} (hk:k < bs.length):total bs (k + 1)=total bs k + (bs.getD k []).length:=by
 have hg:bs.getD k []=bs[k]:=by rw [List.getD_eq_getElem?_getD,List.getElem?_eq_getElem hk];rfl
 unfold total
 rw [List.take_add_one,List.getElem?_eq_getElem hk,List.map_append,List.foldl_append,hg];rfl
theorem QH {nb:Nat} {bb:Option Addr} {bc:Nat} {o av:Value} {bs:List (List Int)} {H0:Heap} (hb:dZ H0 nb 1 aW (.slice bb bs.length bc) bs) (hl:bs.length≤1048576) (ht:∀k,k≤bs.length→total bs k≤1048576) (hr:∀k,(bs.getD k []).length≤1048576)
  (hs:an H0 H nb) (po:Rd H nb [o,av,.slice bb bs.length bc])
  (aC:∀σ,aT [(S3,.int .i64 ((total bs bs.length:Nat):Int))] σ→Q (.exit 0) σ H nx) :
  WC A (.loop ye) [(S1,.pointer (some ⟨nb,0,none⟩)),(S3,.int .i64 0),(S4,.int .i64 0)] H nx Q:=by
 refine WC.loop (α:=Nat) (fun k=>[(S1,.pointer (some ⟨nb,0,none⟩)),(S3,.int .i64 ((total bs k:Nat):Int)),(S4,.int .i64 ((k:Nat):Int))])
  (fun k H' nx'=>k≤bs.length∧H'=H∧nx'=nx) (fun k=>bs.length - k)
  ?_ 0 aN ⟨Nat.zero_le _,rfl,rfl⟩
 rintro k H1 aY ⟨hk,rfl,rfl⟩
 have F1:=ht k hk
 have RR:=hr k
 unfold ye
 repeat' (first|((first|refine WO.n rfl ?_|refine WO.k rfl ?_);(first|refine cI ?_|refine cH ?_|refine aJ ?_|(refine dt (fun h=>?_) (fun h=>?_)<;>(try simp only [Int.ofNat_eq_natCast] at h))))|with_reducible (first|refine WO.nil ?_|refine WC.aa ?_|refine WC.seq ?_|refine WC.skip ?_|refine WC.exit ?_|refine WC.block ?_)|refine WC.ax rfl ?_|refine WC.ay rfl ?_|with_reducible (first|refine aA ?_|refine ef ?_))
 ·have bF:k < bs.length:=by omega
  have jA:bs.getD k []=bs[k]:=by rw [List.getD_eq_getElem?_getD,List.getElem?_eq_getElem bF];rfl
  obtain ⟨rb,ro,vO,ib,ic,rfl,jo,iP,iD,hi⟩:=hb.at bF
  rw [← jA] at iD
  have kg:=hs.rd jo iP
  repeat' (first|((first|refine WO.n rfl ?_|refine WO.k rfl ?_);(first|refine aK ?_|refine cH ?_|refine bj ?_|refine aZ ?_|refine ba ?_))|with_reducible (first|refine WO.nil ?_|refine WC.aa ?_|refine aA ?_|refine dY ?_))
  refine ⟨k + 1,by omega,.cons rfl (.cons ?_ (.cons rfl (.nil _))),by omega,rfl,rfl⟩
  show some _=some _
  rw [hX bF]
 ·have:k=bs.length:=by omega
  subst this
  exact aC _ aN
theorem CX {f:FuncId} (hf:A.funcs f=some JB) (hh:∀vs H nx,A.aH f vs H nx=none) {o av bv:Value} {bs:List (List Int)} (hb:dZ H nx 1 aW bv bs) (hl:bs.length≤1048576) (ht:∀k,k≤bs.length→total bs k≤1048576) (hr:∀k,(bs.getD k []).length≤1048576) :
  WF A f [.agg #[o,av,bv]] H nx fun v H' nx'=>v=.int .i64 ((total bs bs.length:Nat):Int)∧an H H' nx∧nx≤nx':=by
 obtain ⟨bb,bc,rfl⟩:=hb.form
 refine WF.enter (hh _ _ _) hf ?_
 repeat' (first|(refine WO.k rfl ?_;(first|refine aK ?_|refine jL ?_))|with_reducible (first|refine WO.nil ?_|refine WC.aa ?_|refine WC.seq ?_|refine WC.block ?_|refine aA ?_))
 have bg:an H (aI H nx [o,av,.slice bb bs.length bc]) nx:=an.refl.set (Nat.le_refl _)
 refine WC.sub aN (QH (nb:=nx) hb hl ht hr bg Rd.self (fun σ hσ=>?_))
 refine ew (aA (WC.sub hσ ?_))
 repeat' (first|(refine WO.k rfl ?_;refine aK ?_)|with_reducible (first|refine WO.nil ?_|refine WC.aa ?_|refine WC.seq ?_|refine WC.ret ?_|refine aA ?_))
 exact az (vs:=[_]) rfl ⟨rfl,bg,by omega⟩
end Go.Eng

namespace Go.Eng
variable {A:aG} {H H':Heap} {nx nx':Nat} {σ:aP} {L:List Value} {Q:cw}
set_option maxRecDepth 100000
def fM (l:List Int):Prop:=∀x∈l,x=1∨x=-1
def gP (l:List Int) (k:Nat):Int:=(l.take k).foldl (· + ·) 0
theorem jd {l:List Int} {k:Nat} {x:Int} (h:l[k]?=some x):gP l (k + 1)=gP l k + x:=by
 unfold gP
 rw [List.take_add_one,h,List.foldl_append];rfl
theorem U5 {lb:Option Addr} {lc:Nat} {l:List Int} (hl:bP H nx 1 aW (.slice lb l.length lc) l) (hm:l.length≤1048576)
  (cO:∀σ,¬fM l→aT [(S2,.int .i64 0),(S3,.bool false)] σ→Q .ret σ H nx)
  (aC:∀σ,fM l→aT [([],.slice lb l.length lc),(S4,.int .i64 (gP l l.length))] σ→-(l.length:Int)≤gP l l.length∧gP l l.length≤(l.length:Int)→Q (.exit 0) σ H nx) :
  WC A (.loop Cw) [([],.slice lb l.length lc),(S4,.int .i64 0),(S5,.int .i64 0)] H nx Q:=by
 refine WC.loop (α:=Nat) (fun k=>[([],.slice lb l.length lc),(S4,.int .i64 (gP l k)),(S5,.int .i64 ((k:Nat):Int))])
  (fun k H' nx'=>k≤l.length∧H'=H∧nx'=nx∧(∀i x,i < k→l[i]?=some x→x=1∨x=-1)∧-(k:Int)≤gP l k∧gP l k≤(k:Int)) (fun k=>l.length - k)
  ?_ 0 aN ⟨Nat.zero_le _,rfl,rfl,fun i x hi=>by omega,by show -(0:Int)≤0;omega,by show (0:Int)≤0;omega⟩
 rintro k H1 aY ⟨hk,rfl,rfl,hu,dJ,j8⟩
 unfold Cw
 repeat' (first|((first|refine WO.n rfl ?_|refine WO.k rfl ?_);(first|refine cH ?_|(refine dt (fun h=>?_) (fun h=>?_)<;>(try simp only [Int.ofNat_eq_natCast] at h))))|with_reducible (first|refine WO.nil ?_|refine WC.aa ?_|refine WC.seq ?_|refine WC.skip ?_|refine WC.exit ?_|refine WC.block ?_)|refine WC.ax rfl ?_|refine WC.ay rfl ?_|with_reducible (first|refine aA ?_|refine ef ?_))
 ·have bF:k < l.length:=by omega
  obtain ⟨bb,bo,D7,rfl,ou,_,_,qU,oy⟩:=hl.at (by intro e;rw [e] at bF;simp at bF)
  have iS:=List.getElem?_eq_getElem bF
  have Bv:=jd iS
  have q1:=en (v:=.int .i64 l[k]) (oy k _ iS)
  have ka:=List.getElem_mem bF
  generalize l[k]=x at iS Bv q1 ka
  by_cases hx:x=1∨x=-1
  ·have DA:∀i y,i < k + 1→l[i]?=some y→y=1∨y=-1:=fun i y hi hy=>by
    rcases (show i < k∨i=k by omega) with h1|rfl
    ·exact hu i y h1 hy
    ·rw [iS] at hy;cases hy;exact hx
   repeat' (first|((first|refine WO.n rfl ?_|refine WO.k rfl ?_);(first|refine aK ?_|refine fX ?_|refine bj ?_|refine aZ ?_|(refine ke (fun h=>?_) (fun h=>?_)<;>(try simp only [Int.ofNat_eq_natCast] at h))|refine ba ?_|refine qO ?_))|refine WO.cB rfl ?_|refine WO.jH rfl ?_|with_reducible (first|refine WO.nil ?_|refine WC.aa ?_|refine WC.seq ?_|refine WC.skip ?_|refine WC.ret ?_)|refine WC.ax rfl ?_|refine WC.ay rfl ?_|with_reducible (first|refine aA ?_|refine dX ?_|refine dY ?_|refine iA ?_))
   all_goals first
    | (exfalso;omega)
    | (
      refine ⟨k + 1,by omega,.cons rfl (.cons ?_ (.cons rfl (.nil _))),by omega,rfl,rfl,DA,by rw [Bv];omega,by rw [Bv];omega⟩
      show some _=some _
      rw [Bv])
  ·have mm:¬fM l:=fun h=>hx (h x ka)
   repeat' (first|((first|refine WO.n rfl ?_|refine WO.k rfl ?_);(first|refine aK ?_|refine fX ?_|refine bj ?_|refine aZ ?_|(refine ke (fun h=>?_) (fun h=>?_)<;>(try simp only [Int.ofNat_eq_natCast] at h))|refine ba ?_|refine qO ?_))|refine WO.cB rfl ?_|refine WO.jH rfl ?_|with_reducible (first|refine WO.nil ?_|refine WC.aa ?_|refine WC.seq ?_|refine WC.skip ?_|refine WC.ret ?_)|refine WC.ax rfl ?_|refine WC.ay rfl ?_|with_reducible (first|refine aA ?_|refine dX ?_|refine dY ?_|refine iA ?_))
   all_goals first
    | (exfalso;omega)
    | exact cO _ mm aN
 ·have:k=l.length:=by omega
  subst this
  refine aC _ (fun x hx=>?_) aN ⟨dJ,j8⟩
  obtain ⟨i,hi,rfl⟩:=List.getElem_of_mem hx
  exact hu i _ hi (List.getElem?_eq_getElem hi)
theorem Gk {f:FuncId} (hf:A.funcs f=some NG) (hh:∀vs H nx,A.aH f vs H nx=none) {lv:Value} {l:List Int} (hl:bP H nx 1 aW lv l) (hm:l.length≤1048576) :
  WF A f [lv] H nx fun v H' nx'=>(¬fM l→v=oneOf [.int .i64 0,.bool false])∧(fM l→v=oneOf [.int .i64 (gP l l.length),.bool (decide (l.length≤1024))])∧H'=H∧nx'=nx:=by
 obtain ⟨lb,lc,rfl⟩:=hl.form
 refine WF.enter (hh _ _ _) hf ?_
 repeat' (first|(refine WO.k rfl ?_;refine aK ?_)|with_reducible (first|refine WO.nil ?_|refine WC.aa ?_|refine WC.seq ?_|refine WC.block ?_|refine aA ?_))
 refine WC.sub aN (U5 hl hm (fun σ hn hσ=>?_) (fun σ hu hσ hb=>?_))
 ·refine iA (dX ?_)
  exact cZ hσ (vs:=[_,_]) rfl ⟨fun _=>rfl,fun h=>absurd h hn,rfl,rfl⟩
 ·refine ew (aA (WC.sub hσ ?_))
  repeat' (first|((first|refine WO.n rfl ?_|refine WO.k rfl ?_);(first|refine aK ?_|refine cH ?_|(refine TI (fun h=>?_) (fun h=>?_)<;>(try simp only [Int.ofNat_eq_natCast] at h))))|with_reducible (first|refine WO.nil ?_|refine WC.aa ?_|refine WC.seq ?_|refine WC.ret ?_|refine aA ?_))
  ·have hc:=h
   exact az (vs:=[_,_]) rfl ⟨fun h=>absurd hu h,fun _=>by rw [decide_eq_true (by omega)],rfl,rfl⟩
  ·have hc:=h
   exact az (vs:=[_,_]) rfl ⟨fun h=>absurd hu h,fun _=>by rw [decide_eq_false (by omega)],rfl,rfl⟩
end Go.Eng

namespace Go.Eng
variable {A:aG} {H H':Heap} {nx nx':Nat} {σ:aP} {L:List Value} {Q:cw}
set_option maxRecDepth 100000
theorem nk {p q:List Bool} {agg:Option Nat} {b o:Nat} {cs:List Value} {v u:Value} {Q:Value→Heap→Nat→Prop} (h1:sl σ p=some (.pointer (some ⟨b,o,none⟩))) (h2:ao H (at_ b)=some (.cells cs)) (h3:partOf cs o agg=some v) (h4:sl σ q=some u) (hq:Q (oneOf [v,u]) H nx):iZ [(.var p,some agg),(.var q,none)] Q .ret σ H nx:=by
 refine ⟨[v,u],?_,hq⟩
 have e1:Cl σ H (.var p,some agg)=some v:=by
  show (match sl σ p with
   | some (.pointer (some ⟨b,o,none⟩))=>match ao H (at_ b) with
    | some (.cells cs)=>partOf cs o agg
    | _=>none
   | _=>none)=_
  rw [h1]
  simp only [h2]
  exact h3
 have e2:Cl σ H (.var q,none)=some u:=h4
 unfold iH
 rw [e1]
 unfold iH
 rw [e2]
 rfl
theorem nE.frame {b:Nat} {m:Mp} (h:nE H b m) (hs:ao H' (at_ b)=ao H (at_ b)):nE H' b m:=hs.trans h
theorem U6 {nb q4 q5:Nat} {base:Option Addr} {ec:Nat} {es:List Ed} {o2:Value} {H0:Heap} (FJ:uq A.P 90) (Z6:A.funcs 74=some yk) (QI:∀vs H nx,A.aH 74 vs H nx=none)
  (he:bP H0 nb 2 bH (.slice base es.length ec) es) (eB:es.length≤4000) (G5:nb≤q4) (h45:q4 < q5) (h5:q5 < nx)
  (hs:an H0 H q4) (h4c:ao H (at_ q4)=some (.cells [.int .i64 0,.int .i64 0,.int .i64 0,.int .i64 0,.bool false])) (hmp:nE H q5 [])
  (aC:∀σ H' nx' (a b:Nat),aT [(S1,.pointer (some ⟨nb,0,none⟩)),(S2,o2),(S4,.pointer (some ⟨q4,0,none⟩))] σ→ao H' (at_ q4)=some (.cells [.int .i64 (a:Int),.int .i64 (b:Int),.int .i64 0,.int .i64 0,.bool false])→an H0 H' q4→nx≤nx'→Q (.exit 0) σ H' nx') :
  WC A (.loop CB) [(S1,.pointer (some ⟨nb,0,none⟩)),(S2,o2),(S4,.pointer (some ⟨q4,0,none⟩)),(S5,.map (some q5)),(iB,.slice base es.length ec),(ko,.int .i64 ((es.length:Nat):Int)),(u7,.int .i64 0)] H nx Q:=by
 refine WC.loop (α:=Nat×Nat×Nat×Mp) (fun k=>[(S1,.pointer (some ⟨nb,0,none⟩)),(S2,o2),(S4,.pointer (some ⟨q4,0,none⟩)),(S5,.map (some q5)),(iB,.slice base es.length ec),(ko,.int .i64 ((es.length:Nat):Int)),(u7,.int .i64 ((k.1:Nat):Int))])
  (fun k H' nx'=>k.1≤es.length∧nx≤nx'∧k.2.1≤k.1∧k.2.2.1≤k.1∧(∀p,0≤lV p k.2.2.2∧lV p k.2.2.2≤(k.1:Int))∧an H0 H' q4∧ao H' (at_ q4)=some (.cells [.int .i64 (k.2.1:Int),.int .i64 (k.2.2.1:Int),.int .i64 0,.int .i64 0,.bool false])∧nE H' q5 k.2.2.2) (fun k=>es.length - k.1)
  ?_ (0,0,0,[]) aN ⟨Nat.zero_le _,Nat.le_refl _,Nat.le_refl _,Nat.le_refl _,fun p=>⟨Int.le_refl _,Int.le_refl _⟩,hs,h4c,hmp⟩
 rintro ⟨k,a,b,m⟩ H1 aY ⟨hk,b9,Z7,RF,Oj,aS,RS,D8⟩
 simp only at hk Z7 RF Oj RS D8 ⊢
 have abg:Rd H1 q4 _:=.inl RS
 unfold CB
 repeat' (first|((first|refine WO.n rfl ?_|refine WO.k rfl ?_);(refine dt (fun h=>?_) (fun h=>?_)<;>(try simp only [Int.ofNat_eq_natCast] at h)))|with_reducible (first|refine WO.nil ?_|refine WC.aa ?_|refine WC.seq ?_|refine WC.skip ?_|refine WC.exit ?_|refine WC.block ?_)|refine WC.ax rfl ?_|refine WC.ay rfl ?_|with_reducible (first|refine aA ?_|refine ef ?_))
 ·have bF:k < es.length:=by omega
  have iS:=List.getElem?_eq_getElem bF
  obtain ⟨eb,eo,G2,rfl,mK,_,_,yS,vN⟩:=he.at (by intro e;rw [e] at bF;simp at bF)
  have F5:=(aS.low G5).rd mK yS
  have Ka:=vN k _ iS
  generalize es[k]=x at Ka
  obtain ⟨x1,x2⟩:=x
  have F1:take? 2 (G2.drop (eo + k * 2))=some [.int .i64 x1,.int .i64 x2]:=Ka
  clear Ka
  repeat' (first|((first|refine WO.n rfl ?_|refine WO.k rfl ?_);(first|refine cI ?_|refine uw ?_|refine aJ ?_|refine IT ?_|refine aZ ?_|refine ux ?_|refine ep ?_|refine iQ ?_|(refine sJ (fun h=>?_) (fun h=>?_)<;>(try simp only [Int.ofNat_eq_natCast] at h))|refine ba ?_))|with_reducible (first|refine WO.nil ?_|refine WC.aa ?_|refine WC.seq ?_|refine WC.skip ?_)|refine WC.ax rfl ?_|refine WC.ay rfl ?_|with_reducible refine aA ?_)
  all_goals
   refine WO.cn rfl ?_
   refine (CW Z6 QI).of ?_
   rintro _ H2 nx2 ⟨rfl,bI,fq⟩
   obtain ⟨a2,Z8,U7⟩:∃a2:Nat,a2≤k + 1∧ao H2 (at_ q4)=some (.cells [.int .i64 (a2:Int),.int .i64 (b:Int),.int .i64 0,.int .i64 0,.bool false]):=by
    first
     | (refine ⟨a + 1,by omega,(bI q4 (by omega)).trans ?_⟩;rw [aw];rfl)
     | (refine ⟨a,by omega,(bI q4 (by omega)).trans ?_⟩;simp only [ak];(repeat rw [if_neg (by omega)]);exact RS)
   have bt:an H0 H2 q4:=by
    intro c hc
    rw [bI c (by omega)];simp only [ak];(repeat rw [if_neg (by omega)]);exact aS c hc
   have JK:nE H2 q5 m:=by
    refine D8.frame ?_
    rw [bI q5 (by omega)];simp only [ak];(repeat rw [if_neg (by omega)])
   clear bI
   have aaB:Rd H2 q4 _:=.inl U7
   have hp:=Oj (min x1 x2,max x1 x2)
   have Qk:∀cs:List Value,nE (aI H2 nx2 cs) q5 m:=fun cs=>JK.frame (by rw [ak,if_neg (by omega)])
   repeat' (first|((first|refine WO.n rfl ?_|refine WO.k rfl ?_);(first|refine uw ?_|refine aJ ?_|refine iQ ?_))|with_reducible (first|refine WO.nil ?_|refine WC.aa ?_|refine WC.seq ?_|refine aA ?_))
   refine WO.n rfl ?_
   refine aM.of (Act.nr (b:=q5) (p:=(min x1 x2,max x1 x2)) FJ rfl rfl (JK.frame (by simp only [ak];(repeat rw [if_neg (by omega)])))) ?_
   repeat' (first|((first|refine WO.n rfl ?_|refine WO.k rfl ?_);(first|refine cI ?_|refine aJ ?_|refine ep ?_|(refine Bu (fun h=>?_) (fun h=>?_)<;>(try simp only [Int.ofNat_eq_natCast] at h))|refine ba ?_))|with_reducible (first|refine WO.nil ?_|refine WC.aa ?_|refine WC.drawn ?_|refine WC.skip ?_)|refine WC.ax rfl ?_|refine WC.ay rfl ?_|with_reducible refine aA ?_)
   all_goals
    refine WO.n rfl ?_
    refine aM.of (Act.nr (b:=q5) (p:=(min x1 x2,max x1 x2)) FJ rfl rfl (JK.frame (by simp only [ak];(repeat rw [if_neg (by omega)])))) ?_
    refine WO.n rfl ?_
    refine aM.of (Act.add (a:=lV (min x1 x2,max x1 x2) m) (b:=1) rfl rfl (by unfold qH;omega)) ?_
    refine WO.na rfl ?_
    refine aM.Dd (b:=q5) (p:=(min x1 x2,max x1 x2)) (m:=m) FJ rfl rfl (JK.frame (by simp only [ak];(repeat rw [if_neg (by omega)]))) ?_
    intro H3 Wk eL
    obtain ⟨b2,Z9,aaa⟩:∃b2:Nat,b2≤k + 1∧ao H3 (at_ q4)=some (.cells [.int .i64 (a2:Int),.int .i64 (b2:Int),.int .i64 0,.int .i64 0,.bool false]):=by
     first
      | (refine ⟨b + 1,by omega,(eL q4 (by omega)).trans ?_⟩;rw [aw];rfl)
      | (refine ⟨b,by omega,(eL q4 (by omega)).trans ?_⟩;simp only [ak];(repeat rw [if_neg (by omega)]);exact U7)
    have jC:an H0 H3 q4:=by
     intro c hc
     rw [eL c (by omega)];simp only [ak];(repeat rw [if_neg (by omega)]);exact bt c hc
    refine ⟨bk.nr FJ rfl rfl Wk (by rw [FD];rfl) .nil,?_⟩
    refine WO.n rfl ?_
    refine aM.of (Act.ext (v:=.int .i64 ((DS (min x1 x2,max x1 x2) m:Nat):Int)) rfl rfl) ?_
    refine WO.n rfl ?_
    refine aM.of (Act.De (b:=q5) (i:=DS (min x1 x2,max x1 x2) m) (v:=lV (min x1 x2,max x1 x2) m + 1) rfl rfl rfl Wk OV) ?_
    rw [LB]
    repeat' (first|((first|refine WO.n rfl ?_|refine WO.k rfl ?_);(first|refine aK ?_|refine ba ?_))|with_reducible (first|refine WO.nil ?_|refine WC.aa ?_|refine aA ?_|refine dY ?_|refine nD ?_))
    refine ⟨(k + 1,a2,b2,py (min x1 x2,max x1 x2) (lV (min x1 x2,max x1 x2) m + 1) m),by show es.length - (k + 1) < es.length - k;omega,.cons rfl aN,by show k + 1≤_;omega,by omega,Z8,Z9,fun q=>?_,fun c hc=>?_,?_,.self⟩
    ·show 0≤lV q (py _ _ m)∧lV q (py _ _ m)≤((k + 1:Nat):Int)
     rw [LA]
     have:=Oj q
     split<;>omega
    ·rw [kK,if_neg (by omega)];exact jC c hc
    ·rw [kK,if_neg (by omega)];exact aaa
 ·have:k=es.length:=by omega
  subst this
  exact aC _ _ _ a b aN RS aS b9
theorem Gl {f:FuncId} (hf:A.funcs f=some NH) (hh:∀vs H nx,A.aH f vs H nx=none) (FJ:uq A.P 90) (Z6:A.funcs 74=some yk) (QI:∀vs H nx,A.aH 74 vs H nx=none)
  (G4:A.funcs 43=some rJ) (sg:∀vs H nx,A.aH 43 vs H nx=none) (h75:A.funcs 75=some P2) (aab:∀vs H nx,A.aH 75 vs H nx=none)
  (h76:A.funcs 76=some P4) (aac:∀vs H nx,A.aH 76 vs H nx=none) (h77:A.funcs 77=some P3) (aad:∀vs H nx,A.aH 77 vs H nx=none)
  {n:Int} {m:Nat} {ev:Value} {es:List Ed} (hm:kp n es) (ee:n=(m:Int)) (he:bP H nx 2 bH ev es) :
  WF A f [.agg #[.int .i64 n,ev]] H nx fun v H' nx'=>∃(a b c g:Int) (s:Bool),v=oneOf [.agg #[.int .i64 a,.int .i64 b,.int .i64 c,.int .i64 g,.bool s],.int .i64 0]∧(0 < m→(∀x∈fZ es m (2 * es.length),x≤g)∧g∈fZ es m (2 * es.length))∧an H H' nx∧nx≤nx':=by
 obtain ⟨base,ec,rfl⟩:=he.form
 have b9:=hm.2.1
 have eB:=hm.2.2.1
 subst ee
 refine WF.enter (hh _ _ _) hf ?_
 repeat' (first|((first|refine WO.n rfl ?_|refine WO.k rfl ?_);(first|refine aK ?_|refine jL ?_|refine uw ?_|refine aJ ?_))|with_reducible (first|refine WO.nil ?_|refine WC.aa ?_|refine WC.seq ?_|refine aA ?_))
 have bg:an H (aI (aI H nx [.int .i64 (m:Int),.slice base es.length ec]) (nx + 1) [.int .i64 0,.int .i64 0,.int .i64 0,.int .i64 0,.bool false]) nx:=(an.refl.set (Nat.le_refl _)).set (by omega)
 refine WO.cn rfl ?_
 refine (qT G4 sg ((he.same bg).up (by omega))).of ?_
 rintro _ H1 aY ⟨rfl,aS,jB⟩
 have bn:an H H1 nx:=bg.trans aS (by omega)
 have dJ:Rd H1 nx [.int .i64 (m:Int),.slice base es.length ec]:=aS.rd (by omega) (Rd.skip (by omega) Rd.self)
 have iU:ao H1 (at_ (nx + 1))=some (.cells [.int .i64 0,.int .i64 0,.int .i64 0,.int .i64 0,.bool false]):=(aS _ (by omega)).trans aw
 clear bg aS
 rw [decide_eq_true hm]
 repeat' (first|((first|refine WO.n rfl ?_|refine WO.k rfl ?_);(first|refine rH ?_|refine uw ?_))|with_reducible (first|refine WO.nil ?_|refine WC.aa ?_|refine WC.seq ?_|refine WC.skip ?_)|refine WC.ay rfl ?_|with_reducible refine aA ?_)
 refine WO.n rfl ?_
 refine aM.of Act.Bo ?_
 have e1:nE (ur (aI H1 aY [.int .i64 0,.int .i64 0,.int .i64 0,.int .i64 0,.bool false]) (aY + 1) []) (aY + 1) []:=.self
 have e2:ao (ur (aI H1 aY [.int .i64 0,.int .i64 0,.int .i64 0,.int .i64 0,.bool false]) (aY + 1) []) (at_ aY)=some (.cells [.int .i64 0,.int .i64 0,.int .i64 0,.int .i64 0,.bool false]):=by rw [kK,if_neg (by omega)];exact aw
 have e3:an H1 (ur (aI H1 aY [.int .i64 0,.int .i64 0,.int .i64 0,.int .i64 0,.bool false]) (aY + 1) []) aY:=fun c hc=>by rw [kK,if_neg (by omega),ak,if_neg (by omega)]
 generalize ur (aI H1 aY [.int .i64 0,.int .i64 0,.int .i64 0,.int .i64 0,.bool false]) (aY + 1) []=H2 at e1 e2 e3 ⊢
 have bt:an H H2 nx:=bn.trans e3 (by omega)
 have j8:Rd H2 nx [.int .i64 (m:Int),.slice base es.length ec]:=e3.rd (by omega) dJ
 repeat' (first|((first|refine WO.n rfl ?_|refine WO.k rfl ?_);(first|refine aK ?_|refine cI ?_|refine cH ?_|refine aJ ?_))|with_reducible (first|refine WO.nil ?_|refine WC.aa ?_|refine WC.seq ?_|refine WC.block ?_|refine aA ?_))
 refine WC.sub aN (U6 (nb:=nx) (q4:=aY) (q5:=aY + 1) (H0:=H2) FJ Z6 QI (he.same bt) (by omega) (by omega) (by omega) (by omega) .refl e2 e1 (fun σ H3 iY a b hσ RS eL se=>?_))
 have jC:an H H3 nx:=bt.trans eL (by omega)
 have yo:Rd H3 nx [.int .i64 (m:Int),.slice base es.length ec]:=eL.rd (by omega) j8
 have w5:ao H3 (at_ (nx + 1))=some (.cells [.int .i64 0,.int .i64 0,.int .i64 0,.int .i64 0,.bool false]):=(eL _ (by omega)).trans ((e3 _ (by omega)).trans iU)
 refine ew (aA (WC.sub hσ ?_))
 repeat' (first|((first|refine WO.n rfl ?_|refine WO.k rfl ?_);(first|refine aK ?_|refine cI ?_|refine fX ?_|refine aJ ?_|refine ep ?_|refine iQ ?_|(refine Bu (fun h=>?_) (fun h=>?_)<;>(try simp only [Int.ofNat_eq_natCast] at h))|(refine sJ (fun h=>?_) (fun h=>?_)<;>(try simp only [Int.ofNat_eq_natCast] at h))))|refine WO.cB rfl ?_|refine WO.jH rfl ?_|with_reducible (first|refine WO.nil ?_|refine WC.aa ?_|refine WC.seq ?_|refine WC.skip ?_|refine WC.ret ?_)|refine WC.ax rfl ?_|refine WC.ay rfl ?_|with_reducible refine aA ?_)
 ·refine WO.cn rfl ?_
  refine (J7 h75 aab hm rfl ((he.same jC).up (by omega))).of ?_
  rintro _ H4 J6 ⟨db,dc,rfl,hdc,aae,aaf,Wt,rL,G1⟩
  have abh:ao H4 (at_ aY)=some (.cells [.int .i64 (a:Int),.int .i64 (b:Int),.int .i64 0,.int .i64 0,.bool false]):=(rL _ (by omega)).trans RS
  have rN:ao H4 (at_ (nx + 1))=some (.cells [.int .i64 0,.int .i64 0,.int .i64 0,.int .i64 0,.bool false]):=(rL _ (by omega)).trans w5
  have vQ:an H H4 nx:=jC.trans rL (by omega)
  have MZ:(fZ es m (2 * es.length)).length=m:=fK
  repeat' (first|(refine WO.k rfl ?_;refine aK ?_)|with_reducible (first|refine WO.nil ?_|refine WC.aa ?_|refine aA ?_))
  refine WO.cn rfl ?_
  have U8:=J9 (A:=A) h76 aac (nx:=J6) (c:=dc) Wt (by omega) (by omega)
  rw [MZ] at U8
  refine U8.of ?_
  rintro _ H5 A6 ⟨M1,rfl,hM1,abi,rfl,rfl⟩
  refine WO.cn rfl ?_
  have U9:=J8 (A:=A) h77 aad (nx:=A6) (c:=dc) Wt (by omega) (by omega)
  rw [MZ] at U9
  refine U9.of ?_
  rintro _ H6 Gm ⟨M2,rfl,hM2,aag,rfl,rfl⟩
  repeat' (first|((first|refine WO.n rfl ?_|refine WO.k rfl ?_);(first|refine aK ?_|refine cI ?_|refine fX ?_|refine aJ ?_|refine ep ?_|refine iQ ?_|(refine sJ (fun h=>?_) (fun h=>?_)<;>(try simp only [Int.ofNat_eq_natCast] at h))))|refine WO.cB rfl ?_|refine WO.jH rfl ?_|with_reducible (first|refine WO.nil ?_|refine WC.aa ?_|refine WC.seq ?_|refine WC.ret ?_|refine aA ?_))
  all_goals exact nk rfl aw rfl rfl ⟨_,_,_,M2,_,rfl,fun _=>⟨hM2,aag⟩,(((vQ.set (by omega)).set (by omega)).set (by omega)).set (by omega),by omega⟩
 all_goals exact nk rfl aw rfl rfl ⟨_,_,_,0,_,rfl,fun h0=>absurd h0 (by omega),(jC.set (by omega)).set (by omega),by omega⟩
end Go.Eng

namespace Go.Eng
set_option maxRecDepth 100000
structure E26 (A:aG):Prop where
 hk:∀g,g≠4→g≠16→∀vs H nx,A.aH g vs H nx=none
 hb:∀H nx,A.aH 4 [] H nx=some (.ok (.bool true) H nx)
 ha:∀vs H nx,D1 vs H nx→A.aH 16 vs H nx=some (.ok (.bool true) .e nx)
 a2:uq A.P 90
 f3:A.funcs 3=some YQ
 f5:A.funcs 5=some JC
 f6:A.funcs 6=some DZ
 f7:A.funcs 7=some Ut
 f8:A.funcs 8=some FU
 f9:A.funcs 9=some P5
 f10:A.funcs 10=some Uu
 f11:A.funcs 11=some LW
 f12:A.funcs 12=some nf
 f13:A.funcs 13=some ND
 f14:A.funcs 14=some P6
 f15:A.funcs 15=some JD
 f21:A.funcs 21=some LX
 f22:A.funcs 22=some Jy
 f23:A.funcs 23=some yj
 f24:A.funcs 24=some pF
 f25:A.funcs 25=some JA
 f26:A.funcs 26=some LY
 f27:A.funcs 27=some Uv
 f28:A.funcs 28=some P7
 f29:A.funcs 29=some P8
 f30:A.funcs 30=some NF
 f31:A.funcs 31=some P9
 f32:A.funcs 32=some JB
 f33:A.funcs 33=some kL
 f34:A.funcs 34=some NG
 f35:A.funcs 35=some pE
 f36:A.funcs 36=some uC
 f37:A.funcs 37=some uB
 f38:A.funcs 38=some Us
 f43:A.funcs 43=some rJ
 f47:A.funcs 47=some wQ
 f48:A.funcs 48=some LZ
 f49:A.funcs 49=some DY
 f50:A.funcs 50=some sP
 f51:A.funcs 51=some qR
 f52:A.funcs 52=some wR
 f53:A.funcs 53=some LU
 f54:A.funcs 54=some Jz
 f55:A.funcs 55=some NH
 f56:A.funcs 56=some yi
 f57:A.funcs 57=some Qa
 f58:A.funcs 58=some L0
 f59:A.funcs 59=some xOf
 f60:A.funcs 60=some L2
 f72:A.funcs 72=some pD
 f73:A.funcs 73=some uD
 f74:A.funcs 74=some yk
 f75:A.funcs 75=some P2
 f76:A.funcs 76=some P4
 f77:A.funcs 77=some P3
 f78:A.funcs 78=some LV
 f79:A.funcs 79=some lG
 f80:A.funcs 80=some mJ
 f81:A.funcs 81=some Qb
 f101:A.funcs 101=some qQ
 f102:A.funcs 102=some wS
 f103:A.funcs 103=some yh
 f104:A.funcs 104=some rK
section
variable {A:aG} {H:Heap} {nx:Nat} {n:Int} {m:Nat} {ev rv:Value} {es:List Ed} {r:List (List Int)}
theorem E26.h (E:E26 A) {g:FuncId} (h:(Nat.beq g 4||Nat.beq g 16)=false):∀vs H nx,A.aH g vs H nx=none:=by
 refine E.hk g (fun e=>?_) (fun e=>?_)<;>(subst e;cases h)
theorem E26.Va (E:E26 A) (he:bP H nx 2 bH ev es) (hr:dZ H nx 1 aW rv r) (cD:bX r) :
  WF A 54 [.agg #[.int .i64 n,ev],rv] H nx fun v H' nx'=>∃x,v=oneOf [x,.int .i64 (bq n es r)]∧(bq n es r=0→x=.int .i64 (fB es r n.toNat))∧an H H' nx∧nx≤nx':=
 CV E.f54 (E.h rfl) E.f72 (E.h rfl) E.f43 (E.h rfl) E.f73 (E.h rfl) E.f101 (E.h rfl) E.f56 (E.h rfl) E.f78 (E.h rfl) E.f80 (E.h rfl) E.f103 (E.h rfl) E.f104 (E.h rfl) E.f102 (E.h rfl) E.f79 (E.h rfl) ed he hr cD
theorem E26.look (E:E26 A) (hm:kp n es) (ee:n=(m:Int)) (he:bP H nx 2 bH ev es) :
  WF A 55 [.agg #[.int .i64 n,ev]] H nx fun v H' nx'=>∃(a b c g:Int) (s:Bool),v=oneOf [.agg #[.int .i64 a,.int .i64 b,.int .i64 c,.int .i64 g,.bool s],.int .i64 0]∧(0 < m→(∀x∈fZ es m (2 * es.length),x≤g)∧g∈fZ es m (2 * es.length))∧an H H' nx∧nx≤nx':=
 Gl E.f55 (E.h rfl) E.a2 E.f74 (E.h rfl) E.f43 (E.h rfl) E.f75 (E.h rfl) E.f76 (E.h rfl) E.f77 (E.h rfl) hm ee he
theorem E26.QJ (E:E26 A) (hm:kp n es) (ee:n=(m:Int)) (he:bP H nx 2 bH ev es) :
  WF A 56 [.agg #[.int .i64 n,ev]] H nx fun v H' nx'=>∃u,v=oneOf [u,.int .i64 ((cE es m:Nat):Int),.int .i64 0]∧an H H' nx∧nx≤nx':=
 rO E.f56 (E.h rfl) E.f43 (E.h rfl) E.f78 (E.h rfl) E.f80 (E.h rfl) E.f103 (E.h rfl) E.f104 (E.h rfl) E.f102 (E.h rfl) E.f79 (E.h rfl) hm ee he
theorem E26.uS (E:E26 A) (h0:bq n es r=0) (he:bP H nx 2 bH ev es) (hr:dZ H nx 1 aW rv r) (cD:bX r) :
  WF A 47 [.agg #[.int .i64 n,ev],rv] H nx fun v H' nx'=>∃fv nx0,v=oneOf [fv,.int .i64 0]∧nx≤nx0∧nx0≤nx'∧LL H' nx0 nx' fv (aD es r)∧an H H' nx:=
 vP E.f47 (E.h rfl) E.f72 (E.h rfl) E.f43 (E.h rfl) E.f73 (E.h rfl) E.f101 (E.h rfl) h0 he hr cD
theorem E26.Vb (E:E26 A) (h0:bq n es r=0) (he:bP H nx 2 bH ev es) (hr:dZ H nx 1 aW rv r) (cD:bX r) :
  WF A 59 [.agg #[.int .i64 n,ev],rv] H nx fun v H' nx'=>∃b c,v=oneOf [.slice (some ⟨b,0,some 1⟩) (2 * es.length) c,.int .i64 0]∧2 * es.length≤aE c∧nx≤b∧b < nx'∧au H' b (eu es r)∧an H H' nx∧nx≤nx':=
 Mm E.f59 (E.h rfl) E.f72 (E.h rfl) E.f43 (E.h rfl) E.f73 (E.h rfl) E.f101 (E.h rfl) h0 (ed h0) he hr cD
theorem E26.CY (E:E26 A) (g:bY n es r) (he:bP H nx 2 bH ev es) (hr:dZ H nx 1 aW rv r) (cD:bX r) (eB:es.length≤4000) :
  WF A 12 [.agg #[.int .i64 n,ev],rv] H nx fun v H' nx'=>∃nx0,nx≤nx0∧nx0≤nx'∧LL H' nx0 nx' v (aD es r)∧an H H' nx:=
 mQ E.f12 (E.h rfl) E.f36 (E.h rfl) E.f35 (E.h rfl) g he hr cD eB
theorem E26.rof (E:E26 A) (h0:bq n es r=0) (he:bP H nx 2 bH ev es) (hr:dZ H nx 1 aW rv r) (cD:bX r) :
  WF A 38 [.agg #[.int .i64 n,ev],rv] H nx fun v H' nx'=>∃b c,v=.slice (some ⟨b,0,some 1⟩) (2 * es.length) c∧2 * es.length≤aE c∧nx≤b∧b < nx'∧au H' b (eu es r)∧an H H' nx∧nx≤nx':=
 JV E.f38 (E.h rfl) E.f12 (E.h rfl) E.f36 (E.h rfl) E.f35 (E.h rfl) (cd h0) (ed h0) he hr cD
theorem E26.aah (E:E26 A) (hm:kp n es) (ee:n=(m:Int)) (he:bP H nx 2 bH ev es) :
  WF A 25 [.agg #[.int .i64 n,ev]] H nx fun v H' nx'=>∃b c,v=.slice (some ⟨b,0,some 1⟩) m c∧m≤aE c∧nx≤b∧b < nx'∧au H' b (fZ es m (2 * es.length))∧an H H' nx∧nx≤nx':=
 xa E.f25 (E.h rfl) E.f33 (E.h rfl) hm ee he
theorem E26.QK (E:E26 A) (he:bP H nx 2 bH ev es) (hr:dZ H nx 1 aW rv r) (cD:bX r) :
  WF A 6 [.agg #[.int .i64 n,ev],rv] H nx fun v H' nx'=>v=.int .i64 (bK n es r)∧an H H' nx∧nx≤nx':=
 A5 E.f6 (E.h rfl) E.f49 (E.h rfl) E.f22 (E.h rfl) E.f50 (E.h rfl) E.f24 (E.h rfl) E.f53 (E.h rfl) E.f51 (E.h rfl) E.f52 (E.h rfl) E.f33 (E.h rfl) E.f12 (E.h rfl) E.f36 (E.h rfl) E.f35 (E.h rfl) E.f23 (E.h rfl) E.f25 (E.h rfl) ed he hr cD
end
end Go.Eng

namespace Go.Eng
variable {A:aG} {H H':Heap} {nx nx':Nat} {σ:aP} {L:List Value} {Q:cw}
set_option maxRecDepth 100000
theorem CZ {es:List Ed}:∀{k:Nat},0 < cE es (k + 1):=by
 intro k
 induction k with
 | zero=>
  have:¬Old es 0 0:=Old.zero
  rw [jD this];omega
 | succ k ih=>
  by_cases h:Old es (k + 1) (k + 1)
  ·rw [lK h];exact ih
  ·rw [jD h];omega
theorem Kb {es:List Ed} {m:Nat} {g:Int} (h0:0 < m) (h:0 < m→(∀x∈fZ es m (2 * es.length),x≤g)∧g∈fZ es m (2 * es.length)):A4 es m↔g≤4:=by
 obtain ⟨h1,h2⟩:=h h0
 constructor
 ·intro hl
  obtain ⟨i,hi,e⟩:=List.getElem_of_mem h2
  rw [fK] at hi
  have hg:=fL (es:=es) (k:=2 * es.length) hi
  rw [List.getElem?_eq_getElem (by rw [fK];exact hi),e] at hg
  cases hg
  have:=hl i hi
  omega
 ·intro hg v hv
  have:=h1 _ (List.mem_of_getElem? (fL (es:=es) (k:=2 * es.length) hv))
  omega
theorem rP (E:E26 A) {n:Int} {ev rv:Value} {es:List Ed} {r:List (List Int)} (he:bP H nx 2 bH ev es) (hr:dZ H nx 1 aW rv r) (cD:bX r) :
  WF A 26 [.agg #[.int .i64 n,ev],rv] H nx fun v H' nx'=>v=.int .i64 (bK n es r)∧an H H' nx∧nx≤nx':=by
 obtain ⟨base,ec,rfl⟩:=he.form
 obtain ⟨bu,rc,rfl⟩:=hr.form
 refine WF.enter (E.h rfl _ _ _) E.f26 ?_
 repeat' (first|((first|refine WO.n rfl ?_|refine WO.k rfl ?_);(first|refine aK ?_|refine jL ?_|refine aJ ?_))|with_reducible (first|refine WO.nil ?_|refine WC.aa ?_|refine WC.seq ?_|refine aA ?_))
 have bg:an H (aI H nx [.int .i64 n,.slice base es.length ec]) nx:=an.refl.set (Nat.le_refl _)
 refine WO.cn rfl ?_
 refine (E.Va ((he.same bg).up (Nat.le_succ _)) ((hr.same bg).up (Nat.le_succ _)) cD).of ?_
 rintro _ H1 aY ⟨gv,rfl,jA,aS,b9⟩
 have bn:an H H1 nx:=bg.trans aS (by omega)
 have dJ:Rd H1 nx [.int .i64 n,.slice base es.length ec]:=aS.rd (by omega) Rd.self
 by_cases h0:bq n es r=0
 ·have g:=cd h0
  have hm:=g.may
  obtain ⟨m0,m1,m2,_⟩:=g.may
  obtain ⟨m,rfl⟩:∃m:Nat,n=(m:Int):=⟨n.toNat,by omega⟩
  have hp:dV (m:Int) es r=if fB es r m=0 then 0 else 5:=by unfold dV;rw [if_pos h0];rfl
  obtain rfl:gv=.int .i64 (fB es r m):=jA h0
  rw [h0]
  have k5:fB es r m≠0→bK (m:Int) es r=5:=fun h=>by unfold bK;rw [hp,if_neg h];rfl
  have k1:fB es r m=0→bK (m:Int) es r=if (m:Int) < 2 then 9 else if cE es m≠1 then 6 else (open Classical in if A4 es m then 0 else 10):=fun h=>by unfold bK;rw [hp,if_pos h];rfl
  have k9:fB es r m=0→m < 2→bK (m:Int) es r=9:=fun h h2=>by rw [k1 h,if_pos (by omega)]
  have hpp:0 < m→0 < cE es m:=fun h=>by
   obtain ⟨k,rfl⟩:∃k,m=k + 1:=⟨m - 1,by omega⟩
   exact CZ
  have k6:fB es r m=0→¬m < 2→1 < cE es m→bK (m:Int) es r=6:=fun h h2 h3=>by rw [k1 h,if_neg (by omega),if_pos (by omega)]
  have k10:fB es r m=0→¬m < 2→¬1 < cE es m→¬A4 es m→bK (m:Int) es r=10:=fun h h2 h3 h4=>by
   have:=hpp (by omega)
   rw [k1 h,if_neg (by omega),if_neg (by omega),if_neg h4]
  have k0:fB es r m=0→¬m < 2→¬1 < cE es m→A4 es m→bK (m:Int) es r=0:=fun h h2 h3 h4=>by
   have:=hpp (by omega)
   rw [k1 h,if_neg (by omega),if_neg (by omega),if_pos h4]
  clear k1 hp jA
  have UX:=jc (es:=es) (k:=m)
  repeat' (first|((first|refine WO.n rfl ?_|refine WO.k rfl ?_);(first|refine aK ?_|refine AA ?_|refine aJ ?_|(refine ke (fun h=>?_) (fun h=>?_)<;>(try simp only [Int.ofNat_eq_natCast] at h))))|with_reducible (first|refine WO.nil ?_|refine WC.aa ?_|refine WC.seq ?_|refine WC.skip ?_|refine WC.ret ?_)|refine WC.ax rfl ?_|refine WC.ay rfl ?_|with_reducible (first|refine aA ?_|refine dX ?_))
  ·omega
  refine WO.cn rfl ?_
  refine (E.look hm rfl ((he.same bn).up (by omega))).of ?_
  rintro _ H2 nx2 ⟨la,lb,lc,lg,ls,rfl,SK,bI,fq⟩
  have bt:an H H2 nx:=bn.trans bI (by omega)
  have j8:Rd H2 nx [.int .i64 (m:Int),.slice base es.length ec]:=bI.rd (by omega) dJ
  repeat' (first|((first|refine WO.n rfl ?_|refine WO.k rfl ?_);(first|refine AA ?_|refine uw ?_|refine aJ ?_|refine iQ ?_))|with_reducible (first|refine WO.nil ?_|refine WC.aa ?_|refine WC.seq ?_|refine aA ?_))
  refine WO.cn rfl ?_
  have Mw:an H (aI (aI H2 nx2 [.int .i64 0,.int .i64 0,.int .i64 0,.int .i64 0,.bool false]) nx2 [.int .i64 la,.int .i64 lb,.int .i64 lc,.int .i64 lg,.bool ls]) nx:=(bt.set (by omega)).set (by omega)
  refine (E.QJ hm rfl ((he.same Mw).up (by omega))).of ?_
  rintro _ H3 iY ⟨u,rfl,eL,se⟩
  have jC:an H H3 nx:=Mw.trans eL (by omega)
  have yo:Rd H3 nx [.int .i64 (m:Int),.slice base es.length ec]:=eL.rd (by omega) (Rd.skip (by omega) (Rd.skip (by omega) j8))
  have Qo:Rd H3 nx2 [.int .i64 la,.int .i64 lb,.int .i64 lc,.int .i64 lg,.bool ls]:=eL.rd (by omega) Rd.self
  repeat' (first|((first|refine WO.n rfl ?_|refine WO.k rfl ?_);(first|refine aK ?_|refine AA ?_|refine cI ?_|refine aJ ?_|(refine dt (fun h=>?_) (fun h=>?_)<;>(try simp only [Int.ofNat_eq_natCast] at h))|(refine Bu (fun h=>?_) (fun h=>?_)<;>(try simp only [Int.ofNat_eq_natCast] at h))|(refine ke (fun h=>?_) (fun h=>?_)<;>(try simp only [Int.ofNat_eq_natCast] at h))))|with_reducible (first|refine WO.nil ?_|refine WC.aa ?_|refine WC.seq ?_|refine WC.skip ?_|refine WC.ret ?_|refine WC.block ?_)|refine WC.ax rfl ?_|refine WC.ay rfl ?_|with_reducible (first|refine aA ?_|refine dX ?_|refine dY ?_|refine iA ?_))
  all_goals refine az (vs:=[_]) rfl ⟨?_,jC,by omega⟩
  ·rw [k5 (by omega)];rfl
  ·rw [k9 (by omega) (by omega)];rfl
  ·rw [k6 (by omega) (by omega) (by omega)];rfl
  ·have h4:=h
   rw [k10 (by omega) (by omega) (by omega) (fun hl=>by have:=(Kb (by omega) SK).1 hl;omega)];rfl
  ·have h4:=h
   rw [k0 (by omega) (by omega) (by omega) ((Kb (by omega) SK).2 (by omega))];rfl
 ·have ha:bK n es r=bq n es r:=by
   have:dV n es r=bq n es r:=by unfold dV;rw [if_neg h0]
   unfold bK;rw [this,if_pos h0]
  repeat' (first|((first|refine WO.n rfl ?_|refine WO.k rfl ?_);(first|refine aK ?_|refine AA ?_|refine aJ ?_|(refine ke (fun h=>?_) (fun h=>?_)<;>(try simp only [Int.ofNat_eq_natCast] at h))))|with_reducible (first|refine WO.nil ?_|refine WC.aa ?_|refine WC.seq ?_|refine WC.skip ?_|refine WC.ret ?_)|refine WC.ax rfl ?_|refine WC.ay rfl ?_|with_reducible (first|refine aA ?_|refine dX ?_))
  all_goals first
   | exact az (vs:=[_]) rfl ⟨by rw [ha];rfl,bn,by omega⟩
   | (exfalso;omega)
end Go.Eng

namespace Go.Eng
def tot (l:List Int):Int:=l.foldl (· + ·) 0
theorem kQ {l:List Int}:gP l l.length=tot l:=by unfold gP tot;rw [List.take_length]
theorem foldl_add:∀(l:List Int) (a:Int),l.foldl (· + ·) a=a + l.foldl (· + ·) 0:=by
 intro l
 induction l with
 | nil=>intro a;simp
 | cons x l ih=>intro a;rw [List.foldl_cons,ih,List.foldl_cons,ih (0 + x)];omega
theorem iz {x:Int} {l:List Int}:tot (x::l)=x + tot l:=by unfold tot;rw [List.foldl_cons,foldl_add];omega
theorem Mx {l l':List Int}:tot (l++l')=tot l + tot l':=by unfold tot;rw [List.foldl_append,foldl_add]
theorem My {x:Int}:tot [x]=x:=by rw [iz];show x + 0=x;omega
def hY (ang hs:List Int):List Int:=hs.map fun h=>ang.getD h.toNat 0
def jE (bs:List (List Int)) (h:Nat):Int:=if h % 2=1 then -(tot (bs.getD (h / 2) [])) else tot (bs.getD (h / 2) [])
def aaC (h:Nat):Nat:=bT h
def eP (ang:List Int) (bs:List (List Int)) (f:List Int):List Int:=f.map fun h=>2 - ang.getD (bT h.toNat) 0 + jE bs h.toNat
structure uT (es:List Ed) (ang:List Int) (bs:List (List Int)):Prop where
 al:ang.length=2 * es.length
 bl:bs.length=es.length
 a4:∀x∈ang,1≤x∧x≤4
 un:∀b∈bs,fM b
 b1:∀b∈bs,b.length≤1024
 tt:total bs bs.length≤16384
structure mU (es:List Ed) (fs:List (List Int)) (m:Nat) (nd:Nat→List Int) (o:Int) (ang:List Int) (bs:List (List Int)):Prop where
 o0:0≤o
 o1:o < (fs.length:Int)
 sz:uT es ang bs
 nd:∀v,v < m→tot (hY ang (nd v))=4
 fc:∀i,i < fs.length→tot (eP ang bs (fs.getD i []))=if (i:Int)=o then -4 else 4
theorem uU:∀{l:List Int},fM l→-(l.length:Int)≤tot l∧tot l≤(l.length:Int):=by
 intro l
 induction l with
 | nil=>intro _;exact ⟨Int.le_refl _,Int.le_refl _⟩
 | cons x l ih=>
  intro h
  have h1:=ih (fun y hy=>h y (List.mem_cons_of_mem _ hy))
  rw [iz,List.length_cons]
  rcases h x List.mem_cons_self with rfl|rfl<;>omega
theorem pT {l:List Int} {B:Int} (h:∀x∈l,-B≤x∧x≤B):∀k,k≤l.length→-(B * k)≤gP l k∧gP l k≤B * k:=by
 intro k
 induction k with
 | zero=>intro _;unfold gP;simp
 | succ k ih=>
  intro hk
  have hg:l[k]?=some l[k]:=List.getElem?_eq_getElem (by omega)
  rw [jd hg]
  have:=ih (by omega)
  have h2:=h l[k] (List.getElem_mem _)
  have e:B * ((k + 1:Nat):Int)=B * k + B:=by rw [Int.natCast_add,Int.mul_add];simp
  omega
end Go.Eng

namespace Go.Eng
variable {A:aG} {H H':Heap} {nx nx':Nat} {σ:aP} {L:List Value} {Q:cw}
set_option maxRecDepth 100000
theorem Mz {lb:Option Addr} {lc:Nat} {l:List Int} {hv:Value} {H0:Heap} {nb:Nat} (hl:bP H0 nb 1 aW (.slice lb l.length lc) l) (hs:an H0 H nb) (hm:l.length≤1048576) (hu:∀k,k≤l.length→-1048576≤gP l k∧gP l k≤1048576)
  (aC:∀σ,aT [(S1,hv),(S5,.int .i64 (gP l l.length))] σ→Q (.exit 0) σ H nx) :
  WC A (.loop uA) [(S1,hv),(S5,.int .i64 0),(lF,.slice lb l.length lc),(kX,.int .i64 ((l.length:Nat):Int)),(iI,.int .i64 0)] H nx Q:=by
 refine WC.loop (α:=Nat) (fun k=>[(S1,hv),(S5,.int .i64 (gP l k)),(lF,.slice lb l.length lc),(kX,.int .i64 ((l.length:Nat):Int)),(iI,.int .i64 ((k:Nat):Int))])
  (fun k H' nx'=>k≤l.length∧H'=H∧nx'=nx) (fun k=>l.length - k)
  ?_ 0 aN ⟨Nat.zero_le _,rfl,rfl⟩
 rintro k H1 aY ⟨hk,rfl,rfl⟩
 have wN:=hu k hk
 unfold uA
 repeat' (first|((first|refine WO.n rfl ?_|refine WO.k rfl ?_);(refine dt (fun h=>?_) (fun h=>?_)<;>(try simp only [Int.ofNat_eq_natCast] at h)))|with_reducible (first|refine WO.nil ?_|refine WC.aa ?_|refine WC.seq ?_|refine WC.skip ?_|refine WC.exit ?_|refine WC.block ?_)|refine WC.ax rfl ?_|refine WC.ay rfl ?_|with_reducible (first|refine aA ?_|refine ef ?_))
 ·have bF:k < l.length:=by omega
  obtain ⟨bb,bo,D7,rfl,ou,_,_,qU,oy⟩:=hl.at (by intro e;rw [e] at bF;simp at bF)
  have sf:=hs.rd ou qU
  have iS:=List.getElem?_eq_getElem bF
  have Bv:=jd iS
  have dJ:=hu (k + 1) (by omega)
  have q1:=en (v:=.int .i64 l[k]) (oy k _ iS)
  generalize l[k]=x at iS Bv q1
  repeat' (first|((first|refine WO.n rfl ?_|refine WO.k rfl ?_);(first|refine aK ?_|refine bj ?_|refine aZ ?_|refine ba ?_|refine qO ?_))|with_reducible (first|refine WO.nil ?_|refine WC.aa ?_|refine aA ?_|refine dY ?_))
  refine ⟨k + 1,by omega,.cons rfl (.cons ?_ (.cons rfl (.cons rfl (.cons rfl (.nil _))))),by omega,rfl,rfl⟩
  show some _=some _
  rw [Bv]
 ·have:k=l.length:=by omega
  subst this
  exact aC _ aN
theorem A7 (E:E26 A) {o av bv:Value} {bs:List (List Int)} {h:Nat} (hb:dZ H nx 1 aW bv bs) (hh:h / 2 < bs.length) (M7:h≤1048576) (hm:(bs.getD (h / 2) []).length≤1048576) (hu:∀k,k≤(bs.getD (h / 2) []).length→-1048576≤gP (bs.getD (h / 2) []) k∧gP (bs.getD (h / 2) []) k≤1048576) :
  WF A 58 [.agg #[o,av,bv],.int .i64 (h:Int)] H nx fun v H' nx'=>v=.int .i64 (jE bs h)∧an H H' nx∧nx≤nx':=by
 obtain ⟨bb,bc,rfl⟩:=hb.form
 refine WF.enter (E.h rfl _ _ _) E.f58 ?_
 have bg:an H (aI H nx [o,av,.slice bb bs.length bc]) nx:=an.refl.set (Nat.le_refl _)
 have jA:bs.getD (h / 2) []=bs[h / 2]:=by rw [List.getD_eq_getElem?_getD,List.getElem?_eq_getElem hh];rfl
 obtain ⟨rb,ro,vO,ib,ic,rfl,jo,iP,iD,hi⟩:=hb.at hh
 rw [← jA] at iD hi
 have kg:=bg.rd jo iP
 repeat' (first|((first|refine WO.n rfl ?_|refine WO.k rfl ?_);(first|refine aK ?_|refine cI ?_|refine cH ?_|refine jL ?_|refine aJ ?_|refine bj ?_|refine aZ ?_|refine AB ?_))|with_reducible (first|refine WO.nil ?_|refine WC.aa ?_|refine WC.seq ?_|refine WC.block ?_|refine aA ?_))
 refine WC.sub aN (Mz (H0:=H) (nb:=nx) hi bg hm hu (fun σ hσ=>?_))
 refine ew (aA (WC.sub hσ ?_))
 have dJ:=hu _ (Nat.le_refl _)
 have ht:jE bs h=if h % 2=1 then -(gP (bs.getD (h / 2) []) (bs.getD (h / 2) []).length) else gP (bs.getD (h / 2) []) (bs.getD (h / 2) []).length:=by
  unfold jE;rw [kQ]
 repeat' (first|((first|refine WO.n rfl ?_|refine WO.k rfl ?_);(first|refine aK ?_|(refine sJ (fun h=>?_) (fun h=>?_)<;>(try simp only [Int.ofNat_eq_natCast] at h))|refine sa ?_))|with_reducible (first|refine WO.nil ?_|refine WC.aa ?_|refine WC.seq ?_|refine WC.skip ?_|refine WC.ret ?_)|refine WC.ax rfl ?_|refine WC.ay rfl ?_|with_reducible refine aA ?_)
 ·have h1:=h
  refine WO.n rfl ?_
  refine aM.of (Act.neg rfl (by unfold qH;omega)) ?_
  repeat' (first|(refine WO.k rfl ?_;refine aK ?_)|with_reducible (first|refine WO.nil ?_|refine WC.ret ?_|refine aA ?_|refine dX ?_))
  exact az (vs:=[_]) rfl ⟨by rw [ht,if_pos (by omega)];rfl,bg,by omega⟩
 ·have h1:=h
  exact az (vs:=[_]) rfl ⟨by rw [ht,if_neg (by omega)];rfl,bg,by omega⟩
end Go.Eng

namespace Go.Eng
variable {A:aG} {H H':Heap} {nx nx':Nat} {σ:aP} {L:List Value} {Q:cw}
set_option maxRecDepth 100000
theorem QL {lb:Option Addr} {lc:Nat} {l:List Int} {x:Int} (hl:bP H nx 1 aW (.slice lb l.length lc) l) (hm:l.length≤1048576) (hx:x∈l)
  (cO:∀σ (i:Nat),l[i]?=some x→aT [(S4,.int .i64 (i:Int))] σ→Q .ret σ H nx) :
  WC A (.loop yg) [([],.slice lb l.length lc),(S1,.int .i64 x),(S7,.int .i64 ((l.length:Nat):Int)),(S8,.int .i64 0)] H nx Q:=by
 refine WC.loop (α:=Nat) (fun k=>[([],.slice lb l.length lc),(S1,.int .i64 x),(S7,.int .i64 ((l.length:Nat):Int)),(S8,.int .i64 ((k:Nat):Int))])
  (fun k H' nx'=>k≤l.length∧H'=H∧nx'=nx∧∀i,i < k→l[i]?≠some x) (fun k=>l.length - k)
  ?_ 0 aN ⟨Nat.zero_le _,rfl,rfl,fun i hi=>by omega⟩
 rintro k H1 aY ⟨hk,rfl,rfl,mm⟩
 unfold yg
 repeat' (first|((first|refine WO.n rfl ?_|refine WO.k rfl ?_);(first|refine aK ?_|(refine dt (fun h=>?_) (fun h=>?_)<;>(try simp only [Int.ofNat_eq_natCast] at h))))|with_reducible (first|refine WO.nil ?_|refine WC.aa ?_|refine WC.seq ?_|refine WC.skip ?_|refine WC.exit ?_|refine WC.block ?_)|refine WC.ax rfl ?_|refine WC.ay rfl ?_|with_reducible (first|refine aA ?_|refine ef ?_))
 ·have bF:k < l.length:=by omega
  obtain ⟨bb,bo,D7,rfl,ou,_,_,qU,oy⟩:=hl.at (by intro e;rw [e] at bF;simp at bF)
  have iS:=List.getElem?_eq_getElem bF
  have q1:=en (v:=.int .i64 l[k]) (oy k _ iS)
  generalize l[k]=y at iS q1
  repeat' (first|((first|refine WO.n rfl ?_|refine WO.k rfl ?_);(first|refine aK ?_|refine bj ?_|refine aZ ?_|(refine sJ (fun h=>?_) (fun h=>?_)<;>(try simp only [Int.ofNat_eq_natCast] at h))|refine ba ?_))|with_reducible (first|refine WO.nil ?_|refine WC.aa ?_|refine WC.seq ?_|refine WC.skip ?_|refine WC.ret ?_)|refine WC.ax rfl ?_|refine WC.ay rfl ?_|with_reducible (first|refine aA ?_|refine dX ?_|refine dY ?_|refine iA ?_))
  ·have h1:=h
   exact cO _ k (by rw [iS];congr 1;omega) aN
  ·have h1:=h
   refine ⟨k + 1,by omega,.cons rfl aN,by omega,rfl,rfl,fun i hi he=>?_⟩
   rcases (show i < k∨i=k by omega) with h2|rfl
   ·exact mm i h2 he
   ·rw [iS] at he;cases he;omega
 ·exfalso
  obtain ⟨i,hi,e⟩:=List.getElem_of_mem hx
  exact mm i (by omega) (by rw [List.getElem?_eq_getElem hi,e])
theorem C0 (E:E26 A) {lv:Value} {l:List Int} {x:Int} (hl:bP H nx 1 aW lv l) (hm:l.length≤1048576) (hx:x∈l) :
  WF A 81 [lv,.int .i64 x] H nx fun v H' nx'=>∃i:Nat,l[i]?=some x∧v=.int .i64 (i:Int)∧H'=H∧nx'=nx:=by
 obtain ⟨lb,lc,rfl⟩:=hl.form
 refine WF.enter (E.h rfl _ _ _) E.f81 ?_
 repeat' (first|(refine WO.k rfl ?_;(first|refine aK ?_|refine cH ?_))|with_reducible (first|refine WO.nil ?_|refine WC.aa ?_|refine WC.seq ?_|refine WC.block ?_|refine aA ?_))
 refine WC.sub aN (QL hl hm hx (fun σ i hi hσ=>?_))
 refine iA (dX ?_)
 exact cZ hσ (vs:=[_]) rfl ⟨i,hi,rfl,rfl,rfl⟩
noncomputable def mV (es:List Ed) (r:List (List Int)) (h:Nat):Nat:=((yw es r).getD h 0).toNat
theorem Gn {n:Int} {es:List Ed} {r:List (List Int)} (g:bY n es r) {v k:Nat} (hv:v < r.length) (hk:k < dG r v):((mV es r (bT (gU r v k).toNat):Nat):Int)=gU r v ((k + 1) % dG r v):=by
 obtain ⟨l,hl⟩:=sW g
 have e:=jb g hl
 have h1:=hl.2 v k hv hk
 obtain ⟨g1,_⟩:=g.ok v ((k + 1) % dG r v) hv (Nat.mod_lt _ (by omega))
 unfold mV
 rw [e,List.getD_eq_getElem?_getD,h1]
 show (((gU r v ((k + 1) % dG r v)).toNat:Nat):Int)=_
 omega
theorem j3 {r:List (List Int)} {v k:Nat} (hk:k < dG r v):(r.getD v [])[k]?=some (gU r v k):=by
 have gC:k < (r.getD v []).length:=hk
 unfold gU
 rw [List.getD_eq_getElem?_getD (l:=r.getD v []),List.getElem?_eq_getElem gC];rfl
theorem A8 (E:E26 A) {n:Int} {ev rv:Value} {es:List Ed} {r:List (List Int)} {h:Nat} (g:bY n es r) (he:bP H nx 2 bH ev es) (hr:dZ H nx 1 aW rv r) (cD:bX r) (hh:h < 2 * es.length) :
  WF A 60 [.agg #[.int .i64 n,ev],rv,.int .i64 (h:Int)] H nx fun v H' nx'=>v=.int .i64 ((mV es r (bT h):Nat):Int)∧an H H' nx∧nx≤nx':=by
 obtain ⟨base,ec,rfl⟩:=he.form
 obtain ⟨bu,rc,rfl⟩:=hr.form
 obtain ⟨m0,m1,m2,_⟩:=g.may
 have Qi:=g.len
 obtain ⟨w,k0,hw,MA,u4⟩:=g.all h hh
 obtain ⟨_,_,Vc⟩:=g.ok w k0 hw MA
 rw [u4,show ((h:Nat):Int).toNat=h from Int.toNat_natCast _] at Vc
 refine WF.enter (E.h rfl _ _ _) E.f60 ?_
 have bg:an H (aI H nx [.int .i64 n,.slice base es.length ec]) nx:=an.refl.set (Nat.le_refl _)
 have OH:h / 2 < es.length:=by omega
 obtain ⟨eb,eo,G2,rfl,mK,_,_,yS,vN⟩:=he.at (by intro e;rw [e] at OH;simp at OH)
 have F5:=bg.rd mK yS
 have q3:=kM OH vN (q:=h % 2) (Nat.mod_lt _ (by omega))
 rw [show 2 * (h / 2) + h % 2=h by omega,Vc] at q3
 have jA:r.getD w []=r[w]:=by rw [List.getD_eq_getElem?_getD,List.getElem?_eq_getElem hw];rfl
 obtain ⟨rb,ro,vO,ib,ic,rfl,jo,iP,iD,hi⟩:=hr.at hw
 rw [← jA] at iD hi
 have kg:=bg.rd jo iP
 have gO:=cD.row w
 have oV:=cD.1
 repeat' (first|((first|refine WO.n rfl ?_|refine WO.k rfl ?_);(first|refine aK ?_|refine cI ?_|refine jL ?_|refine aJ ?_|refine bj ?_|refine aZ ?_|refine ux ?_|refine AB ?_|refine sa ?_))|with_reducible (first|refine WO.nil ?_|refine WC.aa ?_|refine WC.seq ?_|refine aA ?_))
 refine WO.cn rfl ?_
 refine (C0 E ((hi.same bg).up (by omega)) gO (x:=(h:Int)) (by rw [← u4];exact List.mem_of_getElem? (j3 MA))).of ?_
 rintro _ H1 aY ⟨k,hk,rfl,rfl,rfl⟩
 have bF:=(List.getElem?_eq_some_iff.1 hk).1
 have Vd:k < dG r w:=bF
 have Z7:gU r w k=(h:Int):=by rw [j3 Vd] at hk;exact Option.some.inj hk
 have Nb:=Gn g hw Vd
 rw [Z7,show ((h:Nat):Int).toNat=h from Int.toNat_natCast _] at Nb
 have Ax:(k + 1) % dG r w < dG r w:=Nat.mod_lt _ (by omega)
 have lq:=j3 Ax
 rw [← Nb] at lq
 have Ve:dG r w=(r.getD w []).length:=rfl
 rw [Ve] at lq Ax
 obtain ⟨bb,bo,D7,rfl,ou,_,_,qU,oy⟩:=hi.at (by intro e;rw [e] at bF;simp at bF)
 have sf:=bg.rd ou qU
 have q1:=en (v:=.int .i64 ((mV es r (bT h):Nat):Int)) (oy _ _ lq)
 repeat' (first|((first|refine WO.n rfl ?_|refine WO.k rfl ?_);(first|refine aK ?_|refine cH ?_|refine bj ?_|refine aZ ?_|refine ba ?_|refine sa ?_))|with_reducible (first|refine WO.nil ?_|refine WC.ret ?_|refine aA ?_))
 exact az (vs:=[_]) rfl ⟨rfl,bg,by omega⟩
end Go.Eng

namespace Go.Eng
variable {A:aG} {H H':Heap} {nx nx':Nat} {σ:aP} {L:List Value} {Q:cw}
set_option maxRecDepth 100000
theorem szA {lb:Option Addr} {lc:Nat} {l:List Int} {pv:Value} {H0:Heap} {nb:Nat} (hl:bP H0 nb 1 aW (.slice lb l.length lc) l) (hs:an H0 H nb) (hm:l.length≤1048576)
  (cO:∀σ,¬(∀x∈l,1≤x∧x≤4)→aT [(S4,.bool false)] σ→Q .ret σ H nx)
  (aC:∀σ,(∀x∈l,1≤x∧x≤4)→aT [(S3,pv)] σ→Q (.exit 0) σ H nx) :
  WC A (.loop PI) [(S3,pv),(Jg,.slice lb l.length lc),(KB,.int .i64 ((l.length:Nat):Int)),(AF,.int .i64 0)] H nx Q:=by
 refine WC.loop (α:=Nat) (fun k=>[(S3,pv),(Jg,.slice lb l.length lc),(KB,.int .i64 ((l.length:Nat):Int)),(AF,.int .i64 ((k:Nat):Int))])
  (fun k H' nx'=>k≤l.length∧H'=H∧nx'=nx∧∀i x,i < k→l[i]?=some x→1≤x∧x≤4) (fun k=>l.length - k)
  ?_ 0 aN ⟨Nat.zero_le _,rfl,rfl,fun i x hi=>by omega⟩
 rintro k H1 aY ⟨hk,rfl,rfl,hu⟩
 unfold PI
 repeat' (first|((first|refine WO.n rfl ?_|refine WO.k rfl ?_);(refine dt (fun h=>?_) (fun h=>?_)<;>(try simp only [Int.ofNat_eq_natCast] at h)))|with_reducible (first|refine WO.nil ?_|refine WC.aa ?_|refine WC.seq ?_|refine WC.skip ?_|refine WC.exit ?_|refine WC.block ?_)|refine WC.ax rfl ?_|refine WC.ay rfl ?_|with_reducible (first|refine aA ?_|refine ef ?_))
 ·have bF:k < l.length:=by omega
  obtain ⟨bb,bo,D7,rfl,ou,_,_,qU,oy⟩:=hl.at (by intro e;rw [e] at bF;simp at bF)
  have sf:=hs.rd ou qU
  have iS:=List.getElem?_eq_getElem bF
  have q1:=en (v:=.int .i64 l[k]) (oy k _ iS)
  have ka:=List.getElem_mem bF
  generalize l[k]=x at iS q1 ka
  by_cases hx:1≤x∧x≤4
  ·repeat' (first|((first|refine WO.n rfl ?_|refine WO.k rfl ?_);(first|refine aK ?_|refine fX ?_|refine bj ?_|refine aZ ?_|(refine dt (fun h=>?_) (fun h=>?_)<;>(try simp only [Int.ofNat_eq_natCast] at h))|(refine Bu (fun h=>?_) (fun h=>?_)<;>(try simp only [Int.ofNat_eq_natCast] at h))|refine ba ?_))|refine WO.cB rfl ?_|refine WO.jH rfl ?_|with_reducible (first|refine WO.nil ?_|refine WC.aa ?_|refine WC.seq ?_|refine WC.skip ?_|refine WC.ret ?_)|refine WC.ax rfl ?_|refine WC.ay rfl ?_|with_reducible (first|refine aA ?_|refine dX ?_|refine dY ?_|refine iA ?_))
   all_goals first
    | (exfalso;omega)
    | exact ⟨k + 1,by omega,.cons rfl aN,by omega,rfl,rfl,fun i y hi hy=>by
      rcases (show i < k∨i=k by omega) with h1|rfl
      ·exact hu i y h1 hy
      ·rw [iS] at hy;cases hy;exact hx⟩
  ·have mm:¬(∀x∈l,1≤x∧x≤4):=fun h=>hx (h x ka)
   repeat' (first|((first|refine WO.n rfl ?_|refine WO.k rfl ?_);(first|refine aK ?_|refine fX ?_|refine bj ?_|refine aZ ?_|(refine dt (fun h=>?_) (fun h=>?_)<;>(try simp only [Int.ofNat_eq_natCast] at h))|(refine Bu (fun h=>?_) (fun h=>?_)<;>(try simp only [Int.ofNat_eq_natCast] at h))|refine ba ?_))|refine WO.cB rfl ?_|refine WO.jH rfl ?_|with_reducible (first|refine WO.nil ?_|refine WC.aa ?_|refine WC.seq ?_|refine WC.skip ?_|refine WC.ret ?_)|refine WC.ax rfl ?_|refine WC.ay rfl ?_|with_reducible (first|refine aA ?_|refine dX ?_|refine dY ?_|refine iA ?_))
   all_goals first
    | (exfalso;omega)
    | exact cO _ mm aN
 ·have:k=l.length:=by omega
  subst this
  refine aC _ (fun x hx=>?_) aN
  obtain ⟨i,hi,rfl⟩:=List.getElem_of_mem hx
  exact hu i _ hi (List.getElem?_eq_getElem hi)
theorem szI {lb:Option Addr} {lc:Nat} {l:List Int} {v7 NC DU DX:Value} {H0:Heap} {nb:Nat} (hl:bP H0 nb 1 aW (.slice lb l.length lc) l) (hs:an H0 H nb) (hm:l.length≤1048576)
  (cO:∀σ,¬fM l→aT [(S4,.bool false)] σ→Q .ret σ H nx)
  (aC:∀σ,fM l→aT [(S7,v7),(S9,.slice lb l.length lc),(KG,NC),(FN,DU),(CA,DX)] σ→Q (.exit 4) σ H nx) :
  WC A (.loop PJ) [(S7,v7),(S9,.slice lb l.length lc),(KG,NC),(FN,DU),(CA,DX),(FO,.slice lb l.length lc),(RB,.int .i64 ((l.length:Nat):Int)),(Rx,.int .i64 0)] H nx Q:=by
 refine WC.loop (α:=Nat) (fun k=>[(S7,v7),(S9,.slice lb l.length lc),(KG,NC),(FN,DU),(CA,DX),(FO,.slice lb l.length lc),(RB,.int .i64 ((l.length:Nat):Int)),(Rx,.int .i64 ((k:Nat):Int))])
  (fun k H' nx'=>k≤l.length∧H'=H∧nx'=nx∧∀i x,i < k→l[i]?=some x→x=1∨x=-1) (fun k=>l.length - k)
  ?_ 0 aN ⟨Nat.zero_le _,rfl,rfl,fun i x hi=>by omega⟩
 rintro k H1 aY ⟨hk,rfl,rfl,hu⟩
 unfold PJ
 repeat' (first|((first|refine WO.n rfl ?_|refine WO.k rfl ?_);(refine dt (fun h=>?_) (fun h=>?_)<;>(try simp only [Int.ofNat_eq_natCast] at h)))|with_reducible (first|refine WO.nil ?_|refine WC.aa ?_|refine WC.seq ?_|refine WC.skip ?_|refine WC.exit ?_|refine WC.block ?_)|refine WC.ax rfl ?_|refine WC.ay rfl ?_|with_reducible (first|refine aA ?_|refine ef ?_))
 ·have bF:k < l.length:=by omega
  obtain ⟨bb,bo,D7,rfl,ou,_,_,qU,oy⟩:=hl.at (by intro e;rw [e] at bF;simp at bF)
  have sf:=hs.rd ou qU
  have iS:=List.getElem?_eq_getElem bF
  have q1:=en (v:=.int .i64 l[k]) (oy k _ iS)
  have ka:=List.getElem_mem bF
  generalize l[k]=x at iS q1 ka
  by_cases hx:x=1∨x=-1
  ·repeat' (first|((first|refine WO.n rfl ?_|refine WO.k rfl ?_);(first|refine aK ?_|refine fX ?_|refine bj ?_|refine aZ ?_|(refine ke (fun h=>?_) (fun h=>?_)<;>(try simp only [Int.ofNat_eq_natCast] at h))|refine ba ?_))|refine WO.cB rfl ?_|refine WO.jH rfl ?_|with_reducible (first|refine WO.nil ?_|refine WC.aa ?_|refine WC.seq ?_|refine WC.skip ?_|refine WC.ret ?_)|refine WC.ax rfl ?_|refine WC.ay rfl ?_|with_reducible (first|refine aA ?_|refine dX ?_|refine dY ?_|refine iA ?_))
   all_goals first
    | (exfalso;omega)
    | exact ⟨k + 1,by omega,.cons rfl aN,by omega,rfl,rfl,fun i y hi hy=>by
      rcases (show i < k∨i=k by omega) with h1|rfl
      ·exact hu i y h1 hy
      ·rw [iS] at hy;cases hy;exact hx⟩
  ·have mm:¬fM l:=fun h=>hx (h x ka)
   repeat' (first|((first|refine WO.n rfl ?_|refine WO.k rfl ?_);(first|refine aK ?_|refine fX ?_|refine bj ?_|refine aZ ?_|(refine ke (fun h=>?_) (fun h=>?_)<;>(try simp only [Int.ofNat_eq_natCast] at h))|refine ba ?_))|refine WO.cB rfl ?_|refine WO.jH rfl ?_|with_reducible (first|refine WO.nil ?_|refine WC.aa ?_|refine WC.seq ?_|refine WC.skip ?_|refine WC.ret ?_)|refine WC.ax rfl ?_|refine WC.ay rfl ?_|with_reducible (first|refine aA ?_|refine dX ?_|refine dY ?_|refine iA ?_))
   all_goals first
    | (exfalso;omega)
    | exact cO _ mm aN
 ·have:k=l.length:=by omega
  subst this
  refine aC _ (fun x hx=>?_) aN
  obtain ⟨i,hi,rfl⟩:=List.getElem_of_mem hx
  exact hu i _ hi (List.getElem?_eq_getElem hi)
theorem szO {bb:Option Addr} {bc:Nat} {bs:List (List Int)} {H0:Heap} {nb:Nat} (hb:dZ H0 nb 1 aW (.slice bb bs.length bc) bs) (hs:an H0 H nb) (hl:bs.length≤1048576) (ht:∀k,k≤bs.length→total bs k≤1048576) (hr:∀k,(bs.getD k []).length≤1048576)
  (cO:∀σ,¬(∀b∈bs,fM b∧b.length≤1024)→aT [(S4,.bool false)] σ→Q .ret σ H nx)
  (aC:∀σ,(∀b∈bs,fM b∧b.length≤1024)→aT [(S7,.int .i64 ((total bs bs.length:Nat):Int))] σ→Q (.exit 2) σ H nx) :
  WC A (.loop PL) [(S7,.int .i64 0),(KG,.slice bb bs.length bc),(FN,.int .i64 ((bs.length:Nat):Int)),(CA,.int .i64 0)] H nx Q:=by
 refine WC.loop (α:=Nat) (fun k=>[(S7,.int .i64 ((total bs k:Nat):Int)),(KG,.slice bb bs.length bc),(FN,.int .i64 ((bs.length:Nat):Int)),(CA,.int .i64 ((k:Nat):Int))])
  (fun k H' nx'=>k≤bs.length∧H'=H∧nx'=nx∧∀i b,i < k→bs[i]?=some b→fM b∧b.length≤1024) (fun k=>bs.length - k)
  ?_ 0 aN ⟨Nat.zero_le _,rfl,rfl,fun i x hi=>by omega⟩
 rintro k H1 aY ⟨hk,rfl,rfl,hu⟩
 have F1:=ht k hk
 have RR:=hr k
 unfold PL
 repeat' (first|((first|refine WO.n rfl ?_|refine WO.k rfl ?_);(refine dt (fun h=>?_) (fun h=>?_)<;>(try simp only [Int.ofNat_eq_natCast] at h)))|with_reducible (first|refine WO.nil ?_|refine WC.aa ?_|refine WC.seq ?_|refine WC.skip ?_|refine WC.exit ?_|refine WC.block ?_)|refine WC.ax rfl ?_|refine WC.ay rfl ?_|with_reducible (first|refine aA ?_|refine ef ?_))
 ·have bF:k < bs.length:=by omega
  have aai:=hX bF
  have rQ:=List.getElem?_eq_getElem bF
  have jA:bs.getD k []=bs[k]:=by rw [List.getD_eq_getElem?_getD,rQ];rfl
  have ka:=List.getElem_mem bF
  obtain ⟨rb,ro,vO,ib,ic,rfl,jo,iP,iD,hi⟩:=hb.at bF
  rw [← jA] at iD hi rQ ka
  have kg:=hs.rd jo iP
  repeat' (first|((first|refine WO.n rfl ?_|refine WO.k rfl ?_);(first|refine aK ?_|refine cH ?_|refine bj ?_|refine aZ ?_|refine ba ?_))|with_reducible (first|refine WO.nil ?_|refine WC.aa ?_|refine WC.seq ?_|refine WC.block ?_|refine aA ?_))
  refine WC.sub (.cons (v:=.int .i64 ((total bs k + (bs.getD k []).length:Nat):Int)) rfl (.cons rfl (.cons rfl (.cons rfl (.cons rfl (.cons rfl (.cons rfl (.cons rfl (.nil _))))))))) (szI (H0:=H0) (nb:=nb) hi hs RR (fun σ hn hσ=>?_) (fun σ sT hσ=>?_))
  ·refine iA (dX ?_)
   exact iA (dX (cO _ (fun h=>hn (h _ ka).1) hσ))
  ·refine ew (aA (WC.sub hσ ?_))
   repeat' (first|((first|refine WO.n rfl ?_|refine WO.k rfl ?_);(first|refine aK ?_|refine cH ?_|(refine Bu (fun h=>?_) (fun h=>?_)<;>(try simp only [Int.ofNat_eq_natCast] at h))|refine ba ?_))|with_reducible (first|refine WO.nil ?_|refine WC.aa ?_|refine WC.seq ?_|refine WC.skip ?_|refine WC.ret ?_)|refine WC.ax rfl ?_|refine WC.ay rfl ?_|with_reducible (first|refine aA ?_|refine dX ?_|refine dY ?_|refine iA ?_))
   ·have h1:=h
    exact cO _ (fun h=>by have:=(h _ ka).2;omega) aN
   ·have h1:=h
    refine ⟨k + 1,by omega,.cons ?_ aN,by omega,rfl,rfl,fun i y hi hy=>?_⟩
    ·show some _=some _
     rw [aai]
    ·rcases (show i < k∨i=k by omega) with h2|rfl
     ·exact hu i y h2 hy
     ·rw [rQ] at hy;cases hy;exact ⟨sT,by omega⟩
 ·have:k=bs.length:=by omega
  subst this
  refine aC _ (fun x hx=>?_) aN
  obtain ⟨i,hi,rfl⟩:=List.getElem_of_mem hx
  exact hu i _ hi (List.getElem?_eq_getElem hi)
open Classical in
theorem C1 (E:E26 A) {n o:Int} {ev av bv:Value} {es:List Ed} {ang:List Int} {bs:List (List Int)} (he:bP H nx 2 bH ev es) (eB:es.length≤4000) (ha:bP H nx 1 aW av ang) (Ek:ang.length≤1048576) (hb:dZ H nx 1 aW bv bs) (hl:bs.length≤1048576) (ht:∀k,k≤bs.length→total bs k≤1048576) (hr:∀k,(bs.getD k []).length≤1048576) :
  WF A 57 [.agg #[.int .i64 n,ev],.agg #[.int .i64 o,av,bv]] H nx fun v H' nx'=>v=.bool (decide (uT es ang bs))∧an H H' nx∧nx≤nx':=by
 obtain ⟨base,ec,rfl⟩:=he.form
 obtain ⟨ab,ac,rfl⟩:=ha.form
 obtain ⟨bb,bc,rfl⟩:=hb.form
 have no:¬uT es ang bs→Value.bool false=.bool (decide (uT es ang bs)):=fun h=>by rw [decide_eq_false h]
 refine WF.enter (E.h rfl _ _ _) E.f57 ?_
 have bg:an H (aI (aI H nx [.int .i64 n,.slice base es.length ec]) (nx + 1) [.int .i64 o,.slice ab ang.length ac,.slice bb bs.length bc]) nx:=(an.refl.set (Nat.le_refl _)).set (by omega)
 have abj:=ht _ (Nat.le_refl _)
 repeat' (first|((first|refine WO.n rfl ?_|refine WO.k rfl ?_);(first|refine aK ?_|refine cI ?_|refine cH ?_|refine jL ?_|refine fX ?_|refine aJ ?_|(refine ke (fun h=>?_) (fun h=>?_)<;>(try simp only [Int.ofNat_eq_natCast] at h))|refine qN ?_))|refine WO.cB rfl ?_|refine WO.jH rfl ?_|with_reducible (first|refine WO.nil ?_|refine WC.aa ?_|refine WC.seq ?_|refine WC.skip ?_|refine WC.ret ?_|refine WC.block ?_)|refine WC.ax rfl ?_|refine WC.ay rfl ?_|with_reducible (first|refine aA ?_|refine dX ?_))
 case' refine_1=>have h1:=h;exact az (vs:=[_]) rfl ⟨no fun hz=>by have:=hz.al;omega,bg,by omega⟩
 ·have h1:=h
  exact az (vs:=[_]) rfl ⟨no fun hz=>by have:=hz.bl;omega,bg,by omega⟩
 have pY:ang.length=2 * es.length:=by omega
 have oa:bs.length=es.length:=by omega
 have hR3:Rd (aI (aI H nx [.int .i64 n,.slice base es.length ec]) (nx + 1) [.int .i64 o,.slice ab ang.length ac,.slice bb bs.length bc]) (nx + 1) [.int .i64 o,.slice ab ang.length ac,.slice bb bs.length bc]:=Rd.self
 refine WC.sub aN (szA (pv:=.pointer (some ⟨nx + 1,0,none⟩)) (H0:=H) (nb:=nx) ha bg Ek (fun σ hn hσ=>?_) (fun σ hu hσ=>?_))
 ·refine iA (dX ?_)
  exact cZ hσ (vs:=[_]) rfl ⟨no fun hz=>hn hz.a4,bg,by omega⟩
 refine ew (aA (WC.sub hσ ?_))
 repeat' (first|((first|refine WO.n rfl ?_|refine WO.k rfl ?_);(first|refine aK ?_|refine cI ?_|refine cH ?_|refine aJ ?_))|with_reducible (first|refine WO.nil ?_|refine WC.aa ?_|refine WC.seq ?_|refine WC.block ?_|refine aA ?_))
 refine WC.sub aN (szO (H0:=H) (nb:=nx) hb bg hl ht hr (fun σ hn hσ=>?_) (fun σ RI hσ=>?_))
 ·refine iA (dX ?_)
  exact cZ hσ (vs:=[_]) rfl ⟨no fun hz=>hn fun b hb=>⟨hz.un b hb,hz.b1 b hb⟩,bg,by omega⟩
 refine ew (aA (WC.sub hσ ?_))
 repeat' (first|((first|refine WO.n rfl ?_|refine WO.k rfl ?_);(first|refine aK ?_|(refine TI (fun h=>?_) (fun h=>?_)<;>(try simp only [Int.ofNat_eq_natCast] at h))))|with_reducible (first|refine WO.nil ?_|refine WC.aa ?_|refine WC.seq ?_|refine WC.ret ?_|refine aA ?_))
 all_goals have h1:=h
 ·refine az (vs:=[_]) rfl ⟨?_,bg,by omega⟩
  rw [decide_eq_true (p:=uT es ang bs) ⟨pY,oa,hu,fun b hb=>(RI b hb).1,fun b hb=>(RI b hb).2,by omega⟩]
  rfl
 ·exact az (vs:=[_]) rfl ⟨no fun hz=>by have:=hz.tt;omega,bg,by omega⟩
end Go.Eng

namespace Go.Eng
variable {A:aG} {H H':Heap} {nx nx':Nat} {σ:aP} {L:List Value} {Q:cw}
set_option maxRecDepth 100000
theorem A9 {ang hs:List Int} {k q:Nat} (h:hs[k]?=some (q:Int)):(hY ang hs)[k]?=some (ang.getD q 0):=by
 unfold hY
 rw [List.getElem?_map,h];rfl
theorem nn {l:List Int} {q:Nat} (h:q < l.length):l[q]?=some (l.getD q 0):=by
 rw [List.getD_eq_getElem?_getD,List.getElem?_eq_getElem h];rfl
theorem pU {l:List Int} {q:Nat} (h:q < l.length):l.getD q 0∈l:=List.mem_of_getElem? (nn h)
theorem aaj {nb pb:Nat} {v7 KD LJ GW o3 bv:Value} {ab lb:Option Addr} {ac lc:Nat} {ang hs:List Int} {H0:Heap}
  (ha:bP H0 nb 1 aW (.slice ab ang.length ac) ang) (hl:bP H0 nb 1 aW (.slice lb hs.length lc) hs) (bg:an H0 H nb) (hp:Rd H pb [o3,.slice ab ang.length ac,bv])
  (h4:∀x∈ang,1≤x∧x≤4) (dW:∀k,k < hs.length→∃q:Nat,hs[k]?=some (q:Int)∧q < ang.length) (hm:hs.length≤1048576)
  (aC:∀σ,aT [(S5,.pointer (some ⟨pb,0,none⟩)),(S7,v7),(GX,KD),(KF,LJ),(FP,GW),(e8,.int .i64 (tot (hY ang hs)))] σ→Q (.exit 2) σ H nx) :
  WC A (.loop Jm) [(S5,.pointer (some ⟨pb,0,none⟩)),(S7,v7),(GX,KD),(KF,LJ),(FP,GW),(e8,.int .i64 0),(LM,.slice lb hs.length lc),(LN,.int .i64 ((hs.length:Nat):Int)),(GV,.int .i64 0)] H nx Q:=by
 have pY:(hY ang hs).length=hs.length:=by unfold hY;simp
 have xO:=pT (l:=hY ang hs) (B:=4) (fun x hx=>by
  obtain ⟨i,hi,e⟩:=List.getElem_of_mem hx
  obtain ⟨q,q1,q2⟩:=dW i (by omega)
  have h5:=A9 (ang:=ang) q1
  rw [List.getElem?_eq_getElem hi,e] at h5
  cases h5
  have:=h4 _ (pU q2)
  omega)
 refine WC.loop (α:=Nat) (fun k=>[(S5,.pointer (some ⟨pb,0,none⟩)),(S7,v7),(GX,KD),(KF,LJ),(FP,GW),(e8,.int .i64 (gP (hY ang hs) k)),(LM,.slice lb hs.length lc),(LN,.int .i64 ((hs.length:Nat):Int)),(GV,.int .i64 ((k:Nat):Int))])
  (fun k H' nx'=>k≤hs.length∧H'=H∧nx'=nx) (fun k=>hs.length - k)
  ?_ 0 aN ⟨Nat.zero_le _,rfl,rfl⟩
 rintro k H1 aY ⟨hk,rfl,rfl⟩
 have RF:=xO k (by omega)
 unfold Jm
 repeat' (first|((first|refine WO.n rfl ?_|refine WO.k rfl ?_);(refine dt (fun h=>?_) (fun h=>?_)<;>(try simp only [Int.ofNat_eq_natCast] at h)))|with_reducible (first|refine WO.nil ?_|refine WC.aa ?_|refine WC.seq ?_|refine WC.skip ?_|refine WC.exit ?_|refine WC.block ?_)|refine WC.ax rfl ?_|refine WC.ay rfl ?_|with_reducible (first|refine aA ?_|refine ef ?_))
 ·have bF:k < hs.length:=by omega
  obtain ⟨q,q1,q2⟩:=dW k bF
  have Bv:=jd (A9 (ang:=ang) q1)
  have h4q:=h4 _ (pU q2)
  obtain ⟨bb,bo,D7,rfl,ou,_,_,qU,oy⟩:=hl.at (by intro e;rw [e] at bF;simp at bF)
  have sf:=bg.rd ou qU
  have p1:=en (v:=.int .i64 (q:Int)) (oy k _ q1)
  obtain ⟨cb,co,SZ,rfl,zq,_,_,MB,QM⟩:=ha.at (by intro e;rw [e] at q2;simp at q2)
  have QN:=bg.rd zq MB
  have p2:=en (v:=.int .i64 (ang.getD q 0)) (QM q _ (nn q2))
  repeat' (first|((first|refine WO.n rfl ?_|refine WO.k rfl ?_);(first|refine aK ?_|refine cI ?_|refine aJ ?_|refine bj ?_|refine aZ ?_|refine ba ?_|refine qO ?_))|with_reducible (first|refine WO.nil ?_|refine WC.aa ?_|refine aA ?_|refine dY ?_))
  refine ⟨k + 1,by omega,.cons rfl (.cons rfl (.cons rfl (.cons rfl (.cons rfl (.cons ?_ (.cons rfl (.cons rfl (.cons rfl (.nil _))))))))),by omega,rfl,rfl⟩
  show some _=some _
  rw [Bv]
 ·have:k=hs.length:=by omega
  subst this
  refine aC _ (.cons rfl (.cons rfl (.cons rfl (.cons rfl (.cons rfl (.cons ?_ (.nil _)))))))
  show some _=some _
  rw [← pY,kQ]
theorem omR {nb pb:Nat} {v7 o3 bv:Value} {ab rb:Option Addr} {ac rc:Nat} {ang:List Int} {r:List (List Int)} {H0:Heap}
  (ha:bP H0 nb 1 aW (.slice ab ang.length ac) ang) (hr:dZ H0 nb 1 aW (.slice rb r.length rc) r) (cD:bX r) (bg:an H0 H nb) (hp:Rd H pb [o3,.slice ab ang.length ac,bv])
  (h4:∀x∈ang,1≤x∧x≤4) (dW:∀v k,v < r.length→k < (r.getD v []).length→∃q:Nat,(r.getD v [])[k]?=some (q:Int)∧q < ang.length)
  (cO:∀σ v,v < r.length→tot (hY ang (r.getD v []))≠4→aT [(S6,.bool false)] σ→Q .ret σ H nx)
  (aC:∀σ,(∀v,v < r.length→tot (hY ang (r.getD v []))=4)→aT [(S5,.pointer (some ⟨pb,0,none⟩)),(S7,v7)] σ→Q (.exit 0) σ H nx) :
  WC A (.loop Pt) [(S5,.pointer (some ⟨pb,0,none⟩)),(S7,v7),(GX,.slice rb r.length rc),(KF,.int .i64 ((r.length:Nat):Int)),(FP,.int .i64 0)] H nx Q:=by
 refine WC.loop (α:=Nat) (fun k=>[(S5,.pointer (some ⟨pb,0,none⟩)),(S7,v7),(GX,.slice rb r.length rc),(KF,.int .i64 ((r.length:Nat):Int)),(FP,.int .i64 ((k:Nat):Int))])
  (fun k H' nx'=>k≤r.length∧H'=H∧nx'=nx∧∀v,v < k→tot (hY ang (r.getD v []))=4) (fun k=>r.length - k)
  ?_ 0 aN ⟨Nat.zero_le _,rfl,rfl,fun v hv=>by omega⟩
 rintro k H1 aY ⟨hk,rfl,rfl,hu⟩
 have oV:=cD.1
 unfold Pt
 repeat' (first|((first|refine WO.n rfl ?_|refine WO.k rfl ?_);(refine dt (fun h=>?_) (fun h=>?_)<;>(try simp only [Int.ofNat_eq_natCast] at h)))|with_reducible (first|refine WO.nil ?_|refine WC.aa ?_|refine WC.seq ?_|refine WC.skip ?_|refine WC.exit ?_|refine WC.block ?_)|refine WC.ax rfl ?_|refine WC.ay rfl ?_|with_reducible (first|refine aA ?_|refine ef ?_))
 ·have bF:k < r.length:=by omega
  have jA:r.getD k []=r[k]:=by rw [List.getD_eq_getElem?_getD,List.getElem?_eq_getElem bF];rfl
  obtain ⟨RT,ro,vO,ib,ic,rfl,jo,iP,iD,hi⟩:=hr.at bF
  rw [← jA] at iD hi
  have kg:=bg.rd jo iP
  repeat' (first|((first|refine WO.n rfl ?_|refine WO.k rfl ?_);(first|refine aK ?_|refine cH ?_|refine bj ?_|refine aZ ?_))|with_reducible (first|refine WO.nil ?_|refine WC.aa ?_|refine WC.seq ?_|refine WC.block ?_|refine aA ?_))
  refine WC.sub aN (aaj (H0:=H0) (nb:=nb) (o3:=o3) (bv:=bv) ha hi bg hp h4 (fun k' gC=>dW k k' bF gC) (cD.row k) (fun σ hσ=>?_))
  refine ew (aA (WC.sub hσ ?_))
  repeat' (first|((first|refine WO.n rfl ?_|refine WO.k rfl ?_);(first|refine aK ?_|(refine ke (fun h=>?_) (fun h=>?_)<;>(try simp only [Int.ofNat_eq_natCast] at h))|refine ba ?_))|with_reducible (first|refine WO.nil ?_|refine WC.aa ?_|refine WC.seq ?_|refine WC.skip ?_|refine WC.ret ?_)|refine WC.ax rfl ?_|refine WC.ay rfl ?_|with_reducible (first|refine aA ?_|refine dX ?_|refine dY ?_|refine iA ?_))
  all_goals have h1:=h
  ·exact cO _ k bF (by omega) aN
  ·exact ⟨k + 1,by omega,.cons rfl aN,by omega,rfl,rfl,fun v hv=>by
    rcases (show v < k∨v=k by omega) with h2|rfl
    ·exact hu v h2
    ·omega⟩
 ·have:k=r.length:=by omega
  subst this
  exact aC _ hu aN
theorem np {ang:List Int} {bs:List (List Int)} {f:List Int} {k q:Nat} (h:f[k]?=some (q:Int)):(eP ang bs f)[k]?=some (2 - ang.getD (bT q) 0 + jE bs q):=by
 unfold eP
 rw [List.getElem?_map,h];rfl
theorem Kc {bs:List (List Int)} {q:Nat} (h:fM (bs.getD (q / 2) [])) (h2:(bs.getD (q / 2) []).length≤1024) : -1024≤jE bs q∧jE bs q≤1024:=by
 have:=uU h
 unfold jE
 split<;>omega
theorem Gp {l:List Int} (h:fM l) (h2:l.length≤1024):∀k,k≤l.length→-1048576≤gP l k∧gP l k≤1048576:=by
 intro k hk
 have:=pT (l:=l) (B:=1) (fun x hx=>by rcases h x hx with rfl|rfl<;>omega) k hk
 omega
theorem hZ {bs:List (List Int)} {P:List Int→Prop} (h:∀b∈bs,P b) {i:Nat} (hi:i < bs.length):P (bs.getD i []):=by
 rw [List.getD_eq_getElem?_getD,List.getElem?_eq_getElem hi]
 exact h _ (List.getElem_mem hi)
theorem aak (E:E26 A) {nb pb:Nat} {kf GU Jo LO:Value} {o:Int} {ab lb bb:Option Addr} {ac lc bc:Nat} {es:List Ed} {ang f:List Int} {bs:List (List Int)} {H0:Heap} (hz:uT es ang bs) (eB:es.length≤4000)
  (ha:bP H0 nb 1 aW (.slice ab ang.length ac) ang) (hb:dZ H0 nb 1 aW (.slice bb bs.length bc) bs) (hl:bP H0 nb 1 aW (.slice lb f.length lc) f) (bg:an H0 H nb) (Gq:nb≤nx) (jJ:pb < nb) (hp:Rd H0 pb [.int .i64 o,.slice ab ang.length ac,.slice bb bs.length bc])
  (dW:∀k,k < f.length→∃q:Nat,f[k]?=some (q:Int)∧q < 2 * es.length) (hm:f.length≤8000)
  (aC:∀σ H' nx',aT [(S5,.pointer (some ⟨pb,0,none⟩)),(FL,GU),(GZ,Jo),(LQ,LO),(kX,kf),(iB,.int .i64 (tot (eP ang bs f)))] σ→an H0 H' nb→nx≤nx'→Q (.exit 6) σ H' nx') :
  WC A (.loop Jn) [(S5,.pointer (some ⟨pb,0,none⟩)),(FL,GU),(GZ,Jo),(LQ,LO),(kX,kf),(iB,.int .i64 0),(Ry,.slice lb f.length lc),(Rz,.int .i64 ((f.length:Nat):Int)),(T6,.int .i64 0)] H nx Q:=by
 have pY:(eP ang bs f).length=f.length:=by unfold eP;simp
 have yN:∀q,q < 2 * es.length→bT q < ang.length∧q / 2 < bs.length∧1≤ang.getD (bT q) 0∧ang.getD (bT q) 0≤4∧-1024≤jE bs q∧jE bs q≤1024:=fun q hq=>by
  have h1:=hz.al
  have h2:=hz.bl
  have ht:=de hq
  have rA:q / 2 < bs.length:=by omega
  have h4:=hz.a4 _ (pU (l:=ang) (q:=bT q) (by omega))
  have h5:=Kc (hZ hz.un rA) (hZ hz.b1 rA)
  exact ⟨by omega,rA,h4.1,h4.2,h5.1,h5.2⟩
 have xO:=pT (l:=eP ang bs f) (B:=1030) (fun x hx=>by
  obtain ⟨i,hi,e⟩:=List.getElem_of_mem hx
  obtain ⟨q,q1,q2⟩:=dW i (by omega)
  have h5:=np (ang:=ang) (bs:=bs) q1
  rw [List.getElem?_eq_getElem hi,e] at h5
  cases h5
  have:=yN q q2
  omega)
 refine WC.loop (α:=Nat) (fun k=>[(S5,.pointer (some ⟨pb,0,none⟩)),(FL,GU),(GZ,Jo),(LQ,LO),(kX,kf),(iB,.int .i64 (gP (eP ang bs f) k)),(Ry,.slice lb f.length lc),(Rz,.int .i64 ((f.length:Nat):Int)),(T6,.int .i64 ((k:Nat):Int))])
  (fun k H' nx'=>k≤f.length∧an H0 H' nb∧nx≤nx') (fun k=>f.length - k)
  ?_ 0 aN ⟨Nat.zero_le _,bg,Nat.le_refl _⟩
 rintro k H1 aY ⟨hk,aS,b9⟩
 have RF:=xO k (by omega)
 have RU:=aS.rd jJ hp
 unfold Jn
 repeat' (first|((first|refine WO.n rfl ?_|refine WO.k rfl ?_);(refine dt (fun h=>?_) (fun h=>?_)<;>(try simp only [Int.ofNat_eq_natCast] at h)))|with_reducible (first|refine WO.nil ?_|refine WC.aa ?_|refine WC.seq ?_|refine WC.skip ?_|refine WC.exit ?_|refine WC.block ?_)|refine WC.ax rfl ?_|refine WC.ay rfl ?_|with_reducible (first|refine aA ?_|refine ef ?_))
 ·have bF:k < f.length:=by omega
  obtain ⟨q,q1,q2⟩:=dW k bF
  have Bv:=jd (np (ang:=ang) (bs:=bs) q1)
  obtain ⟨t1,t2,t3,t4,t5,t6⟩:=yN q q2
  obtain ⟨fb,fo,D7,rfl,ou,_,_,qU,oy⟩:=hl.at (by intro e;rw [e] at bF;simp at bF)
  have sf:=aS.rd ou qU
  have p1:=en (v:=.int .i64 (q:Int)) (oy k _ q1)
  obtain ⟨cb,co,SZ,rfl,zq,_,_,MB,QM⟩:=ha.at (by intro e;rw [e] at t1;simp at t1)
  have QN:=aS.rd zq MB
  have p2:=en (v:=.int .i64 (ang.getD (bT q) 0)) (QM _ _ (nn t1))
  repeat' (first|((first|refine WO.n rfl ?_|refine WO.k rfl ?_);(first|refine aK ?_|refine cI ?_|refine aJ ?_|refine bj ?_|refine aZ ?_|refine OW ?_|refine pA ?_))|with_reducible (first|refine WO.nil ?_|refine WC.drawn ?_|refine aA ?_))
  refine WO.ca rfl ?_
  refine (A7 E (o:=.int .i64 o) (av:=.slice (some ⟨cb,co,some 1⟩) ang.length ac) (h:=q) ((hb.same aS).up (by omega)) t2 (by omega) (by have:=hZ hz.b1 t2;omega) (Gp (hZ hz.un t2) (hZ hz.b1 t2))).of ?_
  rintro _ H2 nx2 ⟨rfl,bI,fq⟩
  have bt:an H0 H2 nb:=aS.trans bI (by omega)
  refine ⟨bk.look rfl (bt.rd zq MB) (jx p2) rfl (by simp [km,fa]) (bk.look rfl (bt.rd jJ hp) rfl rfl fx .nil),?_⟩
  repeat' (first|((first|refine WO.n rfl ?_|refine WO.k rfl ?_);(first|refine aK ?_|refine ba ?_|refine qO ?_))|with_reducible (first|refine WO.nil ?_|refine WC.aa ?_|refine aA ?_|refine dY ?_|refine nD ?_))
  refine ⟨k + 1,by omega,.cons rfl (.cons rfl (.cons rfl (.cons rfl (.cons rfl (.cons ?_ (.cons rfl (.cons rfl (.cons rfl (.nil _))))))))),by omega,bt,by omega⟩
  show some _=some _
  rw [Bv]
  rfl
 ·have:k=f.length:=by omega
  subst this
  refine aC _ _ _ (.cons rfl (.cons rfl (.cons rfl (.cons rfl (.cons rfl (.cons ?_ (.nil _))))))) aS b9
  show some _=some _
  rw [← pY,kQ]
theorem omF (E:E26 A) {nb pb:Nat} {o:Int} {ab fb bb:Option Addr} {ac fc bc:Nat} {es:List Ed} {ang:List Int} {fs bs:List (List Int)} {H0:Heap} (hz:uT es ang bs) (eB:es.length≤4000) (ok:dI fs (2 * es.length))
  (ha:bP H0 nb 1 aW (.slice ab ang.length ac) ang) (hb:dZ H0 nb 1 aW (.slice bb bs.length bc) bs) (hl:dZ H0 nb 1 aW (.slice fb fs.length fc) fs) (bg:an H0 H nb) (Gq:nb≤nx) (jJ:pb < nb) (hp:Rd H0 pb [.int .i64 o,.slice ab ang.length ac,.slice bb bs.length bc])
  (cO:∀σ H' nx' i,i < fs.length→tot (eP ang bs (fs.getD i []))≠(if (i:Int)=o then -4 else 4)→aT [(S6,.bool false)] σ→an H0 H' nb→nx≤nx'→Q .ret σ H' nx')
  (aC:∀σ H' nx',(∀i,i < fs.length→tot (eP ang bs (fs.getD i []))=if (i:Int)=o then -4 else 4)→an H0 H' nb→nx≤nx'→Q (.exit 4) σ H' nx') :
  WC A (.loop Pu) [(S5,.pointer (some ⟨pb,0,none⟩)),(FL,.slice fb fs.length fc),(GZ,.int .i64 ((fs.length:Nat):Int)),(LQ,.int .i64 0)] H nx Q:=by
 refine WC.loop (α:=Nat) (fun k=>[(S5,.pointer (some ⟨pb,0,none⟩)),(FL,.slice fb fs.length fc),(GZ,.int .i64 ((fs.length:Nat):Int)),(LQ,.int .i64 ((k:Nat):Int))])
  (fun k H' nx'=>k≤fs.length∧an H0 H' nb∧nx≤nx'∧∀i,i < k→tot (eP ang bs (fs.getD i []))=if (i:Int)=o then -4 else 4) (fun k=>fs.length - k)
  ?_ 0 aN ⟨Nat.zero_le _,bg,Nat.le_refl _,fun i hi=>by omega⟩
 rintro k H1 aY ⟨hk,aS,b9,hu⟩
 have RU:=aS.rd jJ hp
 have wO:=ok.Bz
 unfold Pu
 repeat' (first|((first|refine WO.n rfl ?_|refine WO.k rfl ?_);(refine dt (fun h=>?_) (fun h=>?_)<;>(try simp only [Int.ofNat_eq_natCast] at h)))|with_reducible (first|refine WO.nil ?_|refine WC.aa ?_|refine WC.seq ?_|refine WC.skip ?_|refine WC.exit ?_|refine WC.block ?_)|refine WC.ax rfl ?_|refine WC.ay rfl ?_|with_reducible (first|refine aA ?_|refine ef ?_))
 ·have bF:k < fs.length:=by omega
  have jA:fs.getD k []=fs[k]:=by rw [List.getD_eq_getElem?_getD,List.getElem?_eq_getElem bF];rfl
  obtain ⟨RT,ro,vO,ib,ic,rfl,jo,iP,iD,hi⟩:=hl.at bF
  rw [← jA] at iD hi
  have kg:=aS.rd jo iP
  repeat' (first|((first|refine WO.n rfl ?_|refine WO.k rfl ?_);(first|refine aK ?_|refine cH ?_|refine bj ?_|refine aZ ?_))|with_reducible (first|refine WO.nil ?_|refine WC.aa ?_|refine WC.seq ?_|refine WC.block ?_|refine aA ?_))
  refine WC.sub aN (aak E (H0:=H0) (nb:=nb) (pb:=pb) hz eB ha hb hi aS (by omega) jJ hp (fun k' gC=>ok.JN k k' gC) (ok.row k) (fun σ H2 nx2 hσ bI fq=>?_))
  refine ew (aA (WC.sub hσ ?_))
  have Vf:=bI.rd jJ hp
  have next:(tot (eP ang bs (fs.getD k []))=if (k:Int)=o then -4 else 4)→∀i,i < k + 1→tot (eP ang bs (fs.getD i []))=if (i:Int)=o then -4 else 4:=fun h i hi=>by
   rcases (show i < k∨i=k by omega) with h2|rfl
   ·exact hu i h2
   ·exact h
  generalize Th:tot (eP ang bs (fs.getD k []))=T at next hσ ⊢
  repeat' (first|((first|refine WO.n rfl ?_|refine WO.k rfl ?_);(first|refine aK ?_|refine cI ?_|refine fX ?_|refine aJ ?_|(refine sJ (fun h=>?_) (fun h=>?_)<;>(try simp only [Int.ofNat_eq_natCast] at h))|(refine ke (fun h=>?_) (fun h=>?_)<;>(try simp only [Int.ofNat_eq_natCast] at h))|refine ba ?_))|refine WO.cB rfl ?_|refine WO.jH rfl ?_|refine WO.Lx rfl ?_|with_reducible (first|refine WO.nil ?_|refine WC.aa ?_|refine WC.seq ?_|refine WC.skip ?_|refine WC.ret ?_)|refine WC.ax rfl ?_|refine WC.ay rfl ?_|with_reducible (first|refine aA ?_|refine dX ?_|refine dY ?_|refine iA ?_))
  all_goals first
   | (exfalso;omega)
   | exact ⟨k + 1,by omega,.cons rfl aN,by omega,bI,by omega,next (by split<;>omega)⟩
   | exact cO _ _ _ k bF (by rw [Th];split<;>omega) aN bI (by omega)
 ·have:k=fs.length:=by omega
  subst this
  exact aC _ _ _ hu aS b9
open Classical in
theorem Gr (E:E26 A) {n o:Int} {m:Nat} {ev rv av bv:Value} {es:List Ed} {r:List (List Int)} {ang:List Int} {bs:List (List Int)} (h0:bq n es r=0) (ee:n=(m:Int)) (he:bP H nx 2 bH ev es) (hr:dZ H nx 1 aW rv r) (cD:bX r)
  (ha:bP H nx 1 aW av ang) (Ek:ang.length≤1048576) (hb:dZ H nx 1 aW bv bs) (hl:bs.length≤1048576) (ht:∀k,k≤bs.length→total bs k≤1048576) (Ba:∀k,(bs.getD k []).length≤1048576) :
  WF A 27 [.agg #[.int .i64 n,ev],rv,.agg #[.int .i64 o,av,bv]] H nx fun v H' nx'=>v=.bool (decide (mU es (aD es r) m (fun v=>r.getD v []) o ang bs))∧an H H' nx∧nx≤nx':=by
 obtain ⟨base,ec,rfl⟩:=he.form
 obtain ⟨bu,rc,rfl⟩:=hr.form
 obtain ⟨ab,ac,rfl⟩:=ha.form
 obtain ⟨bb,bc,rfl⟩:=hb.form
 have g:=cd h0
 obtain ⟨m0,m1,m2,_⟩:=g.may
 have Qi:=g.len
 have ok:=ed h0
 have wO:=ok.Bz
 have no:¬mU es (aD es r) m (fun v=>r.getD v []) o ang bs→Value.bool false=.bool (decide (mU es (aD es r) m (fun v=>r.getD v []) o ang bs)):=fun h=>by rw [decide_eq_false h]
 refine WF.enter (E.h rfl _ _ _) E.f27 ?_
 repeat' (first|((first|refine WO.n rfl ?_|refine WO.k rfl ?_);(first|refine aK ?_|refine jL ?_|refine aJ ?_))|with_reducible (first|refine WO.nil ?_|refine WC.aa ?_|refine WC.seq ?_|refine aA ?_))
 have bg:an H (aI (aI H nx [.int .i64 n,.slice base es.length ec]) (nx + 1) [.int .i64 o,.slice ab ang.length ac,.slice bb bs.length bc]) nx:=(an.refl.set (Nat.le_refl _)).set (by omega)
 refine WO.cn rfl ?_
 refine (E.uS h0 ((he.same bg).up (by omega)) ((hr.same bg).up (by omega)) cD).of ?_
 rintro _ H1 aY ⟨fv,nx0,rfl,r9,b9,hL,aS⟩
 obtain ⟨fb,fc,rfl⟩:=hL.form
 have bn:an H H1 nx:=bg.trans aS (by omega)
 have pM:Rd H1 nx [.int .i64 n,.slice base es.length ec]:=aS.rd (by omega) (Rd.skip (by omega) Rd.self)
 have Bt:Rd H1 (nx + 1) [.int .i64 o,.slice ab ang.length ac,.slice bb bs.length bc]:=aS.rd (by omega) Rd.self
 generalize yR:aD es r=fs at hL ok wO no ⊢
 repeat' (first|((first|refine WO.n rfl ?_|refine WO.k rfl ?_);(first|refine aK ?_|refine AA ?_|refine cI ?_|refine cH ?_|refine fX ?_|refine aJ ?_|(refine dt (fun h=>?_) (fun h=>?_)<;>(try simp only [Int.ofNat_eq_natCast] at h))|(refine IU (fun h=>?_) (fun h=>?_)<;>(try simp only [Int.ofNat_eq_natCast] at h))))|refine WO.cB rfl ?_|refine WO.jH rfl ?_|with_reducible (first|refine WO.nil ?_|refine WC.aa ?_|refine WC.seq ?_|refine WC.ret ?_)|refine WC.ax rfl ?_|with_reducible (first|refine aA ?_|refine dX ?_))
 ·have h1:=h
  exact az (vs:=[_]) rfl ⟨no fun hz=>by have:=hz.o0;omega,bn,by omega⟩
 ·have h1:=h
  exact az (vs:=[_]) rfl ⟨no fun hz=>by have:=hz.o1;omega,bn,by omega⟩
 have Wo:0≤o:=by omega
 have CT:o < (fs.length:Int):=by omega
 refine WO.cn rfl ?_
 refine (C1 E ((he.same bn).up (by omega)) (by omega) ((ha.same bn).up (by omega)) Ek ((hb.same bn).up (by omega)) hl ht Ba).of ?_
 rintro _ H2 nx2 ⟨rfl,bI,fq⟩
 have bt:an H H2 nx:=bn.trans bI (by omega)
 have FI:Rd H2 (nx + 1) [.int .i64 o,.slice ab ang.length ac,.slice bb bs.length bc]:=bI.rd (by omega) Bt
 have w3:LL H2 nx0 aY (.slice fb fs.length fc) fs:=hL.JN (fun b h1 h2=>bI b h2) (Nat.le_refl _)
 by_cases hz:uT es ang bs
 ·rw [decide_eq_true hz]
  repeat' (first|((first|refine WO.n rfl ?_|refine WO.k rfl ?_);(first|refine aK ?_|refine cH ?_|refine rH ?_|refine fX ?_))|refine WO.cB rfl ?_|with_reducible (first|refine WO.nil ?_|refine WC.aa ?_|refine WC.seq ?_|refine WC.skip ?_|refine WC.block ?_)|refine WC.ay rfl ?_|with_reducible refine aA ?_)
  have pY:=hz.al
  have dW:∀v k,v < r.length→k < (r.getD v []).length→∃q:Nat,(r.getD v [])[k]?=some (q:Int)∧q < ang.length:=fun v k hv hk=>by
   have gC:k < dG r v:=hk
   obtain ⟨g1,g2,_⟩:=g.ok v k hv gC
   have e:=j3 gC
   refine ⟨(gU r v k).toNat,by rw [e];congr 1;omega,by omega⟩
  refine WC.sub aN (omR (H0:=H) (nb:=nx) (pb:=nx + 1) (v7:=.slice fb fs.length fc) ha hr cD bt FI hz.a4 dW (fun σ v hv cG hσ=>?_) (fun σ hu hσ=>?_))
  ·refine iA (dX ?_)
   exact cZ hσ (vs:=[_]) rfl ⟨no fun hs=>cG (hs.nd v (by omega)),bt,by omega⟩
  refine ew (aA (WC.sub hσ ?_))
  repeat' (first|(refine WO.k rfl ?_;(first|refine aK ?_|refine cH ?_))|with_reducible (first|refine WO.nil ?_|refine WC.aa ?_|refine WC.seq ?_|refine WC.block ?_|refine aA ?_))
  refine WC.sub aN (omF E (H0:=H2) (nb:=aY) (pb:=nx + 1) hz (by omega) ok ((ha.same bt).up (by omega)) ((hb.same bt).up (by omega)) w3.UI .refl fq (by omega) FI (fun σ H3 iY i hi cG hσ eL se=>?_) (fun σ H3 iY Ef eL se=>?_))
  ·refine iA (dX ?_)
   exact cZ hσ (vs:=[_]) rfl ⟨no fun hs=>cG (hs.fc i hi),bt.trans eL (by omega),by omega⟩
  refine ew (aA ?_)
  repeat' (first|(refine WO.k rfl ?_;refine aK ?_)|with_reducible (first|refine WO.nil ?_|refine WC.aa ?_|refine WC.seq ?_|refine WC.ret ?_|refine aA ?_))
  refine az (vs:=[_]) rfl ⟨?_,bt.trans eL (by omega),by omega⟩
  rw [decide_eq_true (p:=mU es fs m (fun v=>r.getD v []) o ang bs) ⟨Wo,CT,hz,fun v hv=>hu v (by omega),Ef⟩]
  rfl
 ·rw [decide_eq_false hz]
  repeat' (first|((first|refine WO.n rfl ?_|refine WO.k rfl ?_);(first|refine aK ?_|refine rH ?_|refine fX ?_))|refine WO.cB rfl ?_|with_reducible (first|refine WO.nil ?_|refine WC.aa ?_|refine WC.seq ?_|refine WC.ret ?_)|refine WC.ax rfl ?_|with_reducible (first|refine aA ?_|refine dX ?_))
  exact az (vs:=[_]) rfl ⟨no fun hs=>hz hs.sz,bt,by omega⟩
end Go.Eng
