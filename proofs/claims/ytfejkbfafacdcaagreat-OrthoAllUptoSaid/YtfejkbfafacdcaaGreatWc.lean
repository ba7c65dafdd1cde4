import Derived.Test.YtfejkbfafacdcaaGreatWb
/- Walks over the program: part 3. -/

namespace Go.Eng
variable {A:aG} {H H':Heap} {nx nx':Nat} {σ:aP} {Q:cw}
set_option maxRecDepth 100000
def fp (m k:Nat) (x:Int):List Int:=List.replicate k x++List.replicate (m - k) 0
theorem w7 {m k:Nat} {x:Int} (h:k < m):(fp m k x).set k x=fp m (k + 1) x:=by
 unfold fp
 rw [show m - k=(m - (k + 1)) + 1 by omega,List.replicate_succ,List.set_append_right _ _ (by simp)]
 rw [List.length_replicate,Nat.sub_self,List.set_cons_zero,List.replicate_succ',List.append_assoc]
 rfl
theorem AX {m k:Nat} {x:Int} (h:k≤m):(fp m k x).length=m:=by unfold fp;simp;omega
theorem Mq {m lb nb lc:Nat} {x:Int} {H0:Heap} (hm:m≤1048576) (hl:au H lb (fp m 0 x)) (vn:nb≤lb) (p5:lb < nx) (hs:an H0 H nb)
  (aC:∀σ H' nx',aT [(S5,.slice (some ⟨lb,0,some 1⟩) m lc)] σ→au H' lb (List.replicate m x)→an H0 H' nb→nx≤nx'→Q (.exit 0) σ H' nx') :
  WC A (.loop pC) [(S1,.int .i64 x),(S5,.slice (some ⟨lb,0,some 1⟩) m lc),(gu,.int .i64 ((m:Nat):Int)),(e8,.int .i64 0)] H nx Q:=by
 refine WC.loop (α:=Nat) (fun k=>[(S1,.int .i64 x),(S5,.slice (some ⟨lb,0,some 1⟩) m lc),(gu,.int .i64 ((m:Nat):Int)),(e8,.int .i64 ((k:Nat):Int))])
  (fun k H' nx'=>k≤m∧nx≤nx'∧au H' lb (fp m k x)∧an H0 H' nb) (fun k=>m - k)
  ?_ 0 aN ⟨Nat.zero_le _,Nat.le_refl _,hl,hs⟩
 rintro k H1 aY ⟨hk,b9,gx,aS⟩
 have F7:ao H1 (at_ lb)=some (.cells ((fp m k x).map (.int .i64))):=gx
 have hlen:=AX (x:=x) hk
 unfold pC
 repeat' (first|((first|refine WO.n rfl ?_|refine WO.k rfl ?_);(first|refine aK ?_|refine aZ ?_|refine ep ?_|(refine dt (fun h=>?_) (fun h=>?_)<;>(try simp only [Int.ofNat_eq_natCast] at h))|refine ba ?_))|with_reducible (first|refine WO.nil ?_|refine WC.aa ?_|refine WC.seq ?_|refine WC.skip ?_|refine WC.exit ?_|refine WC.block ?_)|refine WC.ax rfl ?_|refine WC.ay rfl ?_|with_reducible (first|refine aA ?_|refine ef ?_|refine dY ?_))
 ·have tV:k < m:=by omega
  refine ⟨k + 1,by omega,.cons rfl aN,by omega,by omega,?_,aS.set (by omega)⟩
  rw [← w7 tV]
  unfold au
  rw [aw,List.map_set]
  congr 3
  first|done|rfl|omega
 ·have:k=m:=by omega
  subst this
  refine aC _ _ _ aN ?_ aS b9
  have e:fp k k x=List.replicate k x:=by unfold fp;simp
  rw [← e];exact gx
theorem mS {f:FuncId} (hf:A.funcs f=some lG) (hh:∀vs H nx,A.aH f vs H nx=none) {m:Nat} {x:Int} (hm:m≤1048576) :
  WF A f [.int .i64 (m:Int),.int .i64 x] H nx fun v H' nx'=>∃b c,v=.slice (some ⟨b,0,some 1⟩) m c∧m≤aE c∧nx≤b∧b < nx'∧au H' b (List.replicate m x)∧an H H' nx:=by
 refine WF.enter (hh _ _ _) hf ?_
 repeat' (first|((first|refine WO.n rfl ?_|refine WO.k rfl ?_);(first|refine aK ?_|refine cH ?_|refine mI ?_))|with_reducible (first|refine WO.nil ?_|refine WC.aa ?_|refine WC.seq ?_|refine WC.block ?_|refine aA ?_))
 refine WC.sub aN (Mq (nb:=nx) (lb:=nx) (by omega) (by have:=er (H:=aI H nx (a7 [.int .i64 0] m)) (b:=nx) aw;unfold fp;simpa [Go.Lit.q0] using this) (by omega) (by omega) (an.refl.set (by omega)) (fun σ H2 nx2 hσ lX bI fq=>?_))
 refine ew (aA (WC.sub hσ ?_))
 repeat' (first|(refine WO.k rfl ?_;refine aK ?_)|with_reducible (first|refine WO.nil ?_|refine WC.aa ?_|refine WC.seq ?_|refine WC.ret ?_|refine aA ?_))
 exact az (vs:=[_]) rfl ⟨nx,_,rfl,by rw [dp];omega,by omega,by omega,lX,bI⟩
theorem Qv {m lb nb lc:Nat} {x:Int} {H0:Heap} (hm:m≤1048576) (hl:au H lb (fp m 0 x)) (vn:nb≤lb) (p5:lb < nx) (hs:an H0 H nb)
  (aC:∀σ H' nx',aT [(S5,.slice (some ⟨lb,0,some 1⟩) m lc)] σ→au H' lb (List.replicate m x)→an H0 H' nb→nx≤nx'→Q (.exit 0) σ H' nx') :
  WC A (.loop yf) [([],.int .i64 (m:Int)),(S1,.int .i64 x),(S5,.slice (some ⟨lb,0,some 1⟩) m lc),(S6,.int .i64 0)] H nx Q:=by
 refine WC.loop (α:=Nat) (fun k=>[([],.int .i64 (m:Int)),(S1,.int .i64 x),(S5,.slice (some ⟨lb,0,some 1⟩) m lc),(S6,.int .i64 ((k:Nat):Int))])
  (fun k H' nx'=>k≤m∧nx≤nx'∧au H' lb (fp m k x)∧an H0 H' nb) (fun k=>m - k)
  ?_ 0 aN ⟨Nat.zero_le _,Nat.le_refl _,hl,hs⟩
 rintro k H1 aY ⟨hk,b9,gx,aS⟩
 have F7:ao H1 (at_ lb)=some (.cells ((fp m k x).map (.int .i64))):=gx
 have hlen:=AX (x:=x) hk
 unfold yf
 repeat' (first|((first|refine WO.n rfl ?_|refine WO.k rfl ?_);(first|refine aK ?_|refine aZ ?_|refine ep ?_|(refine dt (fun h=>?_) (fun h=>?_)<;>(try simp only [Int.ofNat_eq_natCast] at h))|refine ba ?_))|with_reducible (first|refine WO.nil ?_|refine WC.aa ?_|refine WC.seq ?_|refine WC.skip ?_|refine WC.exit ?_|refine WC.block ?_)|refine WC.ax rfl ?_|refine WC.ay rfl ?_|with_reducible (first|refine aA ?_|refine ef ?_|refine dY ?_))
 ·have tV:k < m:=by omega
  refine ⟨k + 1,by omega,.cons rfl aN,by omega,by omega,?_,aS.set (by omega)⟩
  rw [← w7 tV]
  unfold au
  rw [aw,List.map_set]
  congr 3
  first|done|rfl|omega
 ·have:k=m:=by omega
  subst this
  refine aC _ _ _ aN ?_ aS b9
  have e:fp k k x=List.replicate k x:=by unfold fp;simp
  rw [← e];exact gx
theorem CR {f:FuncId} (hf:A.funcs f=some qR) (hh:∀vs H nx,A.aH f vs H nx=none) {m:Nat} {x:Int} (hm:m≤1048576) :
  WF A f [.int .i64 (m:Int),.int .i64 x] H nx fun v H' nx'=>∃b c,v=.slice (some ⟨b,0,some 1⟩) m c∧m≤aE c∧nx≤b∧b < nx'∧au H' b (List.replicate m x)∧an H H' nx:=by
 refine WF.enter (hh _ _ _) hf ?_
 repeat' (first|((first|refine WO.n rfl ?_|refine WO.k rfl ?_);(first|refine aK ?_|refine mI ?_))|with_reducible (first|refine WO.nil ?_|refine WC.aa ?_|refine WC.seq ?_|refine WC.block ?_|refine aA ?_))
 refine WC.sub aN (Qv (nb:=nx) (lb:=nx) (by omega) (by have:=er (H:=aI H nx (a7 [.int .i64 0] m)) (b:=nx) aw;unfold fp;simpa [Go.Lit.q0] using this) (by omega) (by omega) (an.refl.set (by omega)) (fun σ H2 nx2 hσ lX bI fq=>?_))
 refine ew (aA (WC.sub hσ ?_))
 repeat' (first|(refine WO.k rfl ?_;refine aK ?_)|with_reducible (first|refine WO.nil ?_|refine WC.aa ?_|refine WC.seq ?_|refine WC.ret ?_|refine aA ?_))
 exact az (vs:=[_]) rfl ⟨nx,_,rfl,by rw [dp];omega,by omega,by omega,lX,bI⟩
theorem AY {f:FuncId} (hf:A.funcs f=some yh) (hh:∀vs H nx,A.aH f vs H nx=none) {n:Int} {pb h nb:Nat} {base:Option Addr} {ec:Nat} {ov:Value} {es:List Ed} {H0:Heap} (he:bP H0 nb 2 bH (.slice base es.length ec) es) (hs:an H0 H nb)
  (jJ:Rd H pb [.int .i64 n,.slice base es.length ec,ov]) (hl:h < 2 * es.length) (eB:es.length≤4000) :
  WF A f [.pointer (some ⟨pb,0,none⟩),.int .i64 (h:Int)] H nx fun v H' nx'=>v=.int .i64 (ct es (bT h))∧H'=H∧nx'=nx:=by
 have CI:h / 2 < es.length:=by omega
 obtain ⟨eb,eo,G2,rfl,mK,_,_,yS,vN⟩:=he.at (by intro e;rw [e] at CI;simp at CI)
 have q3:=kM CI vN (q:=1 - h % 2) (by omega)
 rw [← D9] at q3
 have F5:=hs.rd mK yS
 refine WF.enter (hh _ _ _) hf ?_
 repeat' (first|((first|refine WO.n rfl ?_|refine WO.k rfl ?_);(first|refine aK ?_|refine cI ?_|refine aJ ?_|refine bj ?_|refine aZ ?_|refine ux ?_|refine IV ?_|refine AB ?_|refine sa ?_|refine lD ?_))|with_reducible (first|refine WO.nil ?_|refine WC.aa ?_|refine WC.seq ?_|refine WC.ret ?_|refine aA ?_))
 exact az (vs:=[_]) rfl ⟨rfl,rfl,rfl⟩
end Go.Eng

namespace Go.Eng
def G6 (es:List Ed) (u v:Nat):Prop:=∃h,h < 2 * es.length∧ct es h=(u:Int)∧ct es (bT h)=(v:Int)
theorem G6.symm {es:List Ed} {u v:Nat} (h:G6 es u v):G6 es v u:=by
 obtain ⟨q,h1,h2,h3⟩:=h
 exact ⟨bT q,de h1,h3,by rw [fA];exact h2⟩
inductive Reach (es:List Ed) (s:Nat):Nat→Prop
 | here:Reach es s s
 | step {u v:Nat}:Reach es s u→G6 es u v→Reach es s v
theorem Reach.trans {es:List Ed} {a b c:Nat} (h:Reach es a b) (h':Reach es b c):Reach es a c:=by
 induction h' with
 | here=>exact h
 | step _ ha ih=>exact .step ih ha
theorem Reach.symm {es:List Ed} {a b:Nat} (h:Reach es a b):Reach es b a:=by
 induction h with
 | here=>exact .here
 | step _ ha ih=>exact Reach.trans (.step .here ha.symm) ih
def Old (es:List Ed) (k w:Nat):Prop:=∃s,s < k∧Reach es s w
theorem Old.zero {es:List Ed} {w:Nat}:¬Old es 0 w:=fun ⟨s,h,_⟩=>by omega
theorem Old.Eb {es:List Ed} {k u v:Nat} (h:Old es k u) (ha:G6 es u v):Old es k v:=let ⟨s,h1,h2⟩:=h;⟨s,h1,.step h2 ha⟩
theorem Old.succ {es:List Ed} {k w:Nat}:Old es (k + 1) w↔Old es k w∨Reach es k w:=by
 constructor
 ·rintro ⟨s,h1,h2⟩
  rcases Nat.lt_or_ge s k with h|h
  ·exact .inl ⟨s,h,h2⟩
  ·rw [show s=k by omega] at h2;exact .inr h2
 ·rintro (⟨s,h1,h2⟩|h)
  ·exact ⟨s,by omega,h2⟩
  ·exact ⟨k,by omega,h⟩
theorem Old.same {es:List Ed} {k w:Nat} (h:Old es k k):Old es (k + 1) w↔Old es k w:=by
 rw [Old.succ]
 constructor
 ·rintro (h1|h1)
  ·exact h1
  ·obtain ⟨s,h2,h3⟩:=h
   exact ⟨s,h2,h3.trans h1⟩
 ·exact .inl
theorem Old.next {es:List Ed} {k w:Nat} {M:Nat→Prop} (h1:∀w,Old es k w→M w) (h2:M k) (h3:∀u v,M u→G6 es u v→M v) (h4:∀w,M w→Old es k w∨Reach es k w):M w↔Old es (k + 1) w:=by
 rw [Old.succ]
 constructor
 ·exact h4 w
 ·rintro (h|h)
  ·exact h1 w h
  ·induction h with
   | here=>exact h2
   | step _ ha ih=>exact h3 _ _ ih ha
open Classical in
noncomputable def cE (es:List Ed):Nat→Nat
 | 0=>0
 | k + 1=>if Old es k k then cE es k else cE es k + 1
theorem lK {es:List Ed} {k:Nat} (h:Old es k k):cE es (k + 1)=cE es k:=by rw [cE];exact if_pos h
theorem jD {es:List Ed} {k:Nat} (h:¬Old es k k):cE es (k + 1)=cE es k + 1:=by rw [cE];exact if_neg h
theorem jc {es:List Ed}:∀{k:Nat},cE es k≤k:=by
 intro k
 induction k with
 | zero=>exact Nat.le_refl _
 | succ k ih=>
  by_cases h:Old es k k
  ·rw [lK h];omega
  ·rw [jD h];omega
def Mk (c:List Int) (w:Nat):Prop:=∃x:Int,c[w]?=some x∧0≤x
theorem Mk.set {c:List Int} {v w:Nat} {x:Int} (hv:v < c.length) (hx:0≤x):Mk (c.set v x) w↔w=v∨Mk c w:=by
 unfold Mk
 rw [List.getElem?_set]
 by_cases e:v=w
 ·subst e
  rw [if_pos rfl,if_pos hv]
  exact ⟨fun _=>.inl rfl,fun _=>⟨x,rfl,hx⟩⟩
 ·rw [if_neg e]
  exact ⟨.inr,fun h=>by
   rcases h with h|h
   ·exact absurd h.symm e
   ·exact h⟩
theorem Mk.not {c:List Int} {w:Nat} {x:Int} (h:c[w]?=some x) (hx:x < 0):¬Mk c w:=fun ⟨y,h1,h2⟩=>by rw [h] at h1;cases h1;omega
def left (c:List Int):Nat:=(c.filter (· < 0)).length
theorem Mr {c:List Int}:left c≤c.length:=List.length_filter_le _ _
theorem pP {c:List Int} {v:Nat} {x y:Int} (h:c[v]?=some y) (hy:y < 0) (hx:0≤x):left (c.set v x) + 1=left c:=by
 unfold left
 induction c generalizing v with
 | nil=>simp at h
 | cons a c ih=>
  cases v with
  | zero=>
   cases (show some a=some y from h)
   rw [List.set_cons_zero,List.filter_cons_of_neg (by simpa using hx),List.filter_cons_of_pos (by simpa using hy)];rfl
  | succ v=>
   have:=ih (v:=v) h
   rw [List.set_cons_succ,List.filter_cons,List.filter_cons]
   split
   ·simp only [List.length_cons];omega
   ·exact this
def pQ (H:Heap) (lo nx:Nat) (v:Value) (xs:List Int):Prop:=
 ∃b c cs,v=.slice (some ⟨b,0,some 1⟩) xs.length c∧lo≤b∧b < nx∧ao H (at_ b)=some (.cells cs)∧cs.length=aE c∧xs.length≤aE c∧cs.take xs.length=xs.map (.int .i64)
section
variable {A:aG} {H H':Heap} {nx nx':Nat} {σ:aP} {L:List Value}
theorem pQ.frame {lo:Nat} {v:Value} {xs:List Int} (h:pQ H lo nx v xs) (hs:da H H' lo nx) (hn:nx≤nx'):pQ H' lo nx' v xs:=by
 obtain ⟨b,c,cs,h1,h2,h3,h4,h5⟩:=h
 exact ⟨b,c,cs,h1,h2,by omega,(hs b h2 h3).trans h4,h5⟩
theorem pQ.one {lo:Nat} {x:Int} (hl:lo≤nx):pQ (aI H nx [.int .i64 x]) lo (nx + 1) (.slice (some ⟨nx,0,some 1⟩) 1 (2 * 1 + 1)) [x]:=
 ⟨nx,2 * 1 + 1,[.int .i64 x],rfl,hl,by omega,aw,rfl,(by show 1≤aE (2 * 1 + 1);decide),rfl⟩
theorem aM.UT {lo by_ q c':Nat} {zero:List Value} {s x:Od} {v:Value} {xs:List Int} {y:Int} {K:Value→Heap→Nat→Prop} (hs:ev σ L s=some v) (hx:ev σ L x=some (.slice (some ⟨q,0,some 1⟩) 1 c')) (hq:Rd H q [.int .i64 y]) (hg:pQ H lo nx v xs) (vp:lo≤nx)
  (h2:(xs.length + 1) * by_≤small) (h3:xs.length + 1≤small)
  (h:∀v' H' nx',nx≤nx'→pQ H' lo nx' v' (xs++[y])→(∀b,b < lo→ao H' (at_ b)=ao H (at_ b))→K v' H' nx'):aM A (.app 1 by_ zero s x false) σ L H nx K:=by
 obtain ⟨b,c,cs,rfl,wN,dJ,hr,nu,lO,ht⟩:=hg
 by_cases hc:xs.length + 1≤aE c
 ·have u3:lM cs (0 + xs.length * 1) [.int .i64 y]=some (cs.take xs.length++[.int .i64 y]++cs.drop (xs.length + 1)):=by
   unfold lM
   rw [Nat.zero_add,Nat.mul_one,xV _ _ _ (by show xs.length + 1≤_;omega)]
   rfl
  refine .of (.q7 hs hx (cN hq rfl) (by omega) (by omega) rfl hr hc u3) (h _ _ _ (Nat.le_refl _) ⟨b,c,_,by simp,wN,dJ,aw,?_,by simpa using hc,?_⟩ (fun d hd=>by rw [ak,if_neg (by omega)]))
  ·simp only [List.length_append,List.length_take,List.length_drop,List.length_cons,List.length_nil];omega
  ·rw [ht,List.map_append,List.length_append]
   have e:(xs.map (Value.int .i64)++[Value.int .i64 y]).length=xs.length + [y].length:=by simp
   rw [← e,List.take_left];rfl
 ·have hold:take? (xs.length * 1) (cs.drop 0)=some (xs.map (.int .i64)):=by
   rw [Nat.mul_one,List.drop_zero,take?_of _ _ (by omega),ht]
  have mA:∀H1:Heap,ao H1 (at_ nx)=some (.cells (xs.map (.int .i64)++[.int .i64 y]))→pQ H1 lo (nx + 1) (.slice (some ⟨nx,0,some 1⟩) (xs.length + 1) (2 * (xs.length + 1))) (xs++[y]):=fun H1 hH=>⟨nx,2 * (xs.length + 1),_,by simp,vp,by omega,hH,by rw [dD];simp,by rw [dD];simp,by
   rw [List.map_append,List.length_append]
   have e:(xs.map (Value.int .i64)++[Value.int .i64 y]).length=xs.length + [y].length:=by simp
   rw [← e,List.take_length];rfl⟩
  cases he:exact c with
  | false=>exact .of (.kY hs hx (cN hq rfl) (by omega) (by omega) rfl hr hold (by omega) he h2 h3) (h _ _ _ (Nat.le_succ _) (mA _ aw) (fun d hd=>by rw [ak,if_neg (by omega),jw,if_neg (by omega)]))
  | true=>exact .of (.Au hs hx (cN hq rfl) (by omega) (by omega) rfl hr hold (by omega) he h2 h3) (h _ _ _ (Nat.le_succ _) (mA _ aw) (fun d hd=>by rw [ak,if_neg (by omega)]))
theorem pQ.last {lo:Nat} {v:Value} {xs:List Int} {x:Int} (h:pQ H lo nx v (xs++[x])):∃b c cs,v=.slice (some ⟨b,0,some 1⟩) (xs.length + 1) c∧xs.length + 1≤aE c∧ao H (at_ b)=some (.cells cs)∧cs[0 + xs.length * 1]?=some (.int .i64 x)∧pQ H lo nx (.slice (some ⟨b,0 + 0 * 1,some 1⟩) (xs.length - 0) (c - 2 * 0)) xs:=by
 obtain ⟨b,c,cs,rfl,wN,dJ,hr,nu,lO,ht⟩:=h
 rw [List.length_append] at lO ht
 refine ⟨b,c,cs,by rw [List.length_append];rfl,lO,hr,?_,⟨b,c,cs,rfl,wN,dJ,hr,nu,by simp at lO;omega,?_⟩⟩
 ·have h1:(cs.take (xs.length + [x].length))[xs.length]?=some (.int .i64 x):=by
   rw [ht,List.map_append,List.getElem?_append_right (by simp)]
   simp
  rw [List.getElem?_take_of_lt (by simp)] at h1
  rw [Nat.zero_add,Nat.mul_one];exact h1
 ·have h1:(cs.take (xs.length + [x].length)).take xs.length=xs.map (.int .i64):=by
   rw [ht,List.map_append]
   have e:(xs.map (Value.int .i64)).length=xs.length:=by simp
   rw [← e,List.take_left]
  rw [List.take_take] at h1
  rwa [Nat.min_eq_left (by omega)] at h1
end
end Go.Eng

namespace Go.Eng
def toAt (es:List Ed) (v j:Nat):Int:=ct es (bT ((cg es (2 * es.length) v).getD j 0).toNat)
def PK (es:List Ed) (v k u w:Nat):Prop:=u=v∧∃j,k≤j∧j < (cg es (2 * es.length) v).length∧(w:Int)=toAt es v j
theorem Ec {es:List Ed} {v j:Nat} (hj:j < (cg es (2 * es.length) v).length):∃h:Nat,(cg es (2 * es.length) v)[j]?=some (h:Int)∧h < 2 * es.length∧ct es h=(v:Int)∧toAt es v j=ct es (bT h):=by
 obtain ⟨h,h1,h2,h3⟩:=pO.1 (List.getElem_mem hj)
 have h4:(cg es (2 * es.length) v)[j]?=some (h:Int):=by rw [List.getElem?_eq_getElem hj,h1]
 refine ⟨h,h4,h2,h3,?_⟩
 unfold toAt
 rw [List.getD_eq_getElem?_getD,h4];rfl
theorem PK.all {es:List Ed} {v w:Nat} (h:G6 es v w):PK es v 0 v w:=by
 obtain ⟨q,h1,h2,h3⟩:=h
 obtain ⟨j,hj,e⟩:=List.getElem_of_mem (pO.2 ⟨q,rfl,h1,h2⟩:(q:Int)∈cg es (2 * es.length) v)
 refine ⟨rfl,j,Nat.zero_le _,hj,?_⟩
 unfold toAt
 rw [List.getD_eq_getElem?_getD,List.getElem?_eq_getElem hj,e]
 exact h3.symm
theorem PK.next {es:List Ed} {v k u w w':Nat} (hw:(w:Int)=toAt es v k) (h:PK es v k u w'):w'=w∨PK es v (k + 1) u w':=by
 obtain ⟨e,j,h1,h2,h3⟩:=h
 rcases (show j=k∨k + 1≤j by omega) with rfl|h4
 ·exact .inl (by omega)
 ·exact .inr ⟨e,j,h4,h2,h3⟩
theorem PK.none {es:List Ed} {v u w:Nat} (h:PK es v (cg es (2 * es.length) v).length u w):False:=by
 obtain ⟨_,j,h1,h2,_⟩:=h;omega
structure Inv (es:List Ed) (m s:Nat) (P:Nat→Nat→Prop) (c todo:List Int):Prop where
 len:c.length=m
 old:∀w,Old es s w→w < m→Mk c w
 me:Mk c s
 only:∀w,Mk c w→Old es s w∨Reach es s w
 RJ:∀x∈todo,∃q:Nat,x=(q:Int)∧q < m∧Mk c q
 Eb:∀u w,Mk c u→G6 es u w→Mk c w∨(u:Int)∈todo∨P u w
section
variable {es:List Ed} {m s:Nat} {P P':Nat→Nat→Prop} {c todo:List Int}
theorem Inv.mark {w:Nat} {x:Int} (h:Inv es m s P c todo) (hw:w < m) (hx:0≤x) (hr:Old es s w∨Reach es s w) (hP:∀u w',P u w'→w'=w∨P' u w'):Inv es m s P' (c.set w x) (todo++[(w:Int)]):=by
 have yt:w < c.length:=by rw [h.len];exact hw
 refine ⟨by rw [List.length_set];exact h.len,fun u hu hm=>(Mk.set yt hx).2 (.inr (h.old u hu hm)),(Mk.set yt hx).2 (.inr h.me),fun u hu=>?_,fun y hy=>?_,fun u w' hu ha=>?_⟩
 ·rcases (Mk.set yt hx).1 hu with rfl|hu
  ·exact hr
  ·exact h.only u hu
 ·rcases List.mem_append.1 hy with hy|hy
  ·obtain ⟨q,q1,q2,q3⟩:=h.RJ y hy
   exact ⟨q,q1,q2,(Mk.set yt hx).2 (.inr q3)⟩
  ·exact ⟨w,List.mem_singleton.1 hy,hw,(Mk.set yt hx).2 (.inl rfl)⟩
 ·rcases (Mk.set yt hx).1 hu with rfl|hu
  ·exact .inr (.inl (by simp))
  ·rcases h.Eb u w' hu ha with h1|h1|h1
   ·exact .inl ((Mk.set yt hx).2 (.inr h1))
   ·exact .inr (.inl (by simp [h1]))
   ·rcases hP u w' h1 with rfl|h2
    ·exact .inl ((Mk.set yt hx).2 (.inl rfl))
    ·exact .inr (.inr h2)
theorem Inv.skip {w:Nat} (h:Inv es m s P c todo) (hw:Mk c w) (hP:∀u w',P u w'→w'=w∨P' u w'):Inv es m s P' c todo:=by
 refine ⟨h.len,h.old,h.me,h.only,h.RJ,fun u w' hu ha=>?_⟩
 rcases h.Eb u w' hu ha with h1|h1|h1
 ·exact .inl h1
 ·exact .inr (.inl h1)
 ·rcases hP u w' h1 with rfl|h2
  ·exact .inl hw
  ·exact .inr (.inr h2)
theorem Inv.none (h:Inv es m s P c todo) (hP:∀u w,P u w→False):Inv es m s (fun _ _=>False) c todo:=
 ⟨h.len,h.old,h.me,h.only,h.RJ,fun u w hu ha=>by
  rcases h.Eb u w hu ha with h1|h1|h1
  ·exact .inl h1
  ·exact .inr (.inl h1)
  ·exact (hP u w h1).elim⟩
theorem Inv.pop {v:Nat} (h:Inv es m s (fun _ _=>False) c (todo++[(v:Int)])):Inv es m s (PK es v 0) c todo∧v < m∧Mk c v:=by
 obtain ⟨q,q1,q2,q3⟩:=h.RJ (v:Int) (by simp)
 have:q=v:=by omega
 subst this
 refine ⟨⟨h.len,h.old,h.me,h.only,fun x hx=>h.RJ x (by simp [hx]),fun u w hu ha=>?_⟩,q2,q3⟩
 rcases h.Eb u w hu ha with h1|h1|h1
 ·exact .inl h1
 ·rcases List.mem_append.1 h1 with h1|h1
  ·exact .inr (.inl h1)
  ·have:u=q:=by have:=List.mem_singleton.1 h1;omega
   subst this
   exact .inr (.inr (PK.all ha))
 ·exact h1.elim
theorem JX {n:Int} (hm:kp n es) (ee:n=(m:Int)) {u w:Nat} (ha:G6 es u w):w < m:=by
 obtain ⟨q,h1,h2,h3⟩:=ha
 obtain ⟨v,e1,e2⟩:=kk hm (de h1)
 rw [h3] at e1
 omega
theorem Mk.lt {w:Nat} (h:Mk c w):w < c.length:=let ⟨_,h1,_⟩:=h;(List.getElem?_eq_some_iff.1 h1).1
theorem Inv.done {n:Int} (hm:kp n es) (ee:n=(m:Int)) (h:Inv es m s (fun _ _=>False) c []) (hs:s < m) {w:Nat} (hw:w < m):Mk c w↔Old es (s + 1) w:=by
 have hb:∀w,Reach es s w→w < m:=by
  intro w hr
  induction hr with
  | here=>exact hs
  | step _ ha _=>exact JX hm ee ha
 rw [Old.succ]
 constructor
 ·exact h.only w
 ·rintro (h1|h1)
  ·exact h.old w h1 hw
  ·clear hw
   induction h1 with
   | here=>exact h.me
   | step _ ha ih=>
    rcases h.Eb _ _ ih ha with h2|h2|h2
    ·exact h2
    ·cases h2
    ·exact h2.elim
theorem Inv.start {n:Int} (hm:kp n es) (ee:n=(m:Int)) {x:Int} (hl:c.length=m) (hs:s < m) (hx:0≤x) (hc:∀w,w < m→(Mk c w↔Old es s w)):Inv es m s (fun _ _=>False) (c.set s x) [(s:Int)]:=by
 have Gb:s < c.length:=by omega
 have bR:∀w,Mk c w→w < m:=fun w hw=>by rw [← hl];exact hw.lt
 refine ⟨by rw [List.length_set];exact hl,fun w hw hm=>(Mk.set Gb hx).2 (.inr ((hc w hm).2 hw)),(Mk.set Gb hx).2 (.inl rfl),fun w hw=>?_,fun y hy=>⟨s,List.mem_singleton.1 hy,hs,(Mk.set Gb hx).2 (.inl rfl)⟩,fun u w hu ha=>?_⟩
 ·rcases (Mk.set Gb hx).1 hw with rfl|hw
  ·exact .inr .here
  ·exact .inl ((hc w (bR w hw)).1 hw)
 ·rcases (Mk.set Gb hx).1 hu with rfl|hu
  ·exact .inr (.inl (by simp))
  ·have hw:=JX hm ee ha
   exact .inl ((Mk.set Gb hx).2 (.inr ((hc w hw).2 (((hc u (bR u hu)).1 hu).Eb ha))))
end
end Go.Eng

namespace Go.Eng
variable {A:aG} {H H':Heap} {nx nx':Nat} {σ:aP} {Q:cw}
set_option maxRecDepth 100000
structure PS (H0 H:Heap) (nb cb ob nxo:Nat) (n:Int) (ev:Value) (es:List Ed) (m:Nat) (c:List Int):Prop where
 same:an H0 H nb
 rd:Rd H nb [.int .i64 n,ev]
 gs:GS H (ob + 1) nxo ob (fY es m (2 * es.length))
 ci:au H cb c
 h1:nb < cb
 h2:cb < ob
 h3:ob < nxo
theorem PS.frame {H0 H2:Heap} {nb cb ob nxo:Nat} {n:Int} {ev:Value} {es:List Ed} {m:Nat} {c:List Int} (h:PS H0 H nb cb ob nxo n ev es m c) (hf:∀b,b < nxo→ao H2 (at_ b)=ao H (at_ b)):PS H0 H2 nb cb ob nxo n ev es m c:=by
 obtain ⟨a,b,g,d,h1,h2,h3⟩:=h
 refine ⟨fun b hb=>(hf b (by omega)).trans (a b hb),?_,g.frame (hf ob h3) (fun b _ hb=>hf b hb) (Nat.le_refl _),(hf cb (by omega)).trans d,h1,h2,h3⟩
 unfold Rd
 rw [hf nb (by omega)]
 exact b
theorem PS.mark {H0:Heap} {nb cb ob nxo v:Nat} {n x:Int} {ev:Value} {es:List Ed} {m:Nat} {c:List Int} (h:PS H0 H nb cb ob nxo n ev es m c):PS H0 (aI H cb ((c.map (Value.int .i64)).set (0 + v * 1) (.int .i64 x))) nb cb ob nxo n ev es m (c.set v x):=by
 obtain ⟨a,b,g,d,h1,h2,h3⟩:=h
 refine ⟨a.set (by omega),Rd.skip (by omega) b,g.frame (by rw [ak,if_neg (by omega)]) (fun b hb _=>by rw [ak,if_neg (by omega)]) (Nat.le_refl _),?_,h1,h2,h3⟩
 unfold au
 rw [aw,List.map_set,Nat.zero_add,Nat.mul_one]
theorem ptK {n:Int} {m nb cb ob nxo s v:Nat} {es:List Ed} {base:Option Addr} {ec cc oc N:Nat} {H0:Heap} {c todo:List Int} {tv:Value} (Ee:A.funcs 53=some LU) (pR:∀vs H nx,A.aH 53 vs H nx=none)
  (hm:kp n es) (ee:n=(m:Int)) (he:bP H0 nb 2 bH (.slice base es.length ec) es) (hN:N≤1048576) (hv:v < m) (hs:s < m) (Qw:Mk c v)
  (ps:PS H0 H nb cb ob nxo n (.slice base es.length ec) es m c) (st:pQ H nxo nx tv todo) (hx:nxo≤nx) (iv:Inv es m s (PK es v 0) c todo) (hb:2 * left c + todo.length≤2 * m + 1)
  (aC:∀σ H' nx' c' JY tv',aT [(S1,.slice none 0 0),(S2,.slice none 0 0),(S3,.pointer (some ⟨nb,0,none⟩)),(S8,.slice (some ⟨cb,0,some 1⟩) m cc),(S9,.int .i64 ((N:Nat):Int)),(gu,.slice (some ⟨ob,0,some 1⟩) m oc),(e8,.int .i64 ((s:Nat):Int)),(jM,tv')] σ→
   PS H0 H' nb cb ob nxo n (.slice base es.length ec) es m c'→pQ H' nxo nx' tv' JY→Inv es m s (fun _ _=>False) c' JY→2 * left c' + JY.length≤2 * left c + todo.length→nx≤nx'→Q (.exit 4) σ H' nx') :
  WC A (.loop Pq) [(S1,.slice none 0 0),(S2,.slice none 0 0),(S3,.pointer (some ⟨nb,0,none⟩)),(S8,.slice (some ⟨cb,0,some 1⟩) m cc),(S9,.int .i64 ((N:Nat):Int)),(gu,.slice (some ⟨ob,0,some 1⟩) m oc),(e8,.int .i64 ((s:Nat):Int)),(jM,tv),(lF,.int .i64 ((v:Nat):Int)),(kX,.int .i64 0)] H nx Q:=by
 have eB:=hm.2.2.1
 have b9:=hm.2.1
 refine WC.loop (α:=Nat×List Int×List Int×Value) (fun k=>[(S1,.slice none 0 0),(S2,.slice none 0 0),(S3,.pointer (some ⟨nb,0,none⟩)),(S8,.slice (some ⟨cb,0,some 1⟩) m cc),(S9,.int .i64 ((N:Nat):Int)),(gu,.slice (some ⟨ob,0,some 1⟩) m oc),(e8,.int .i64 ((s:Nat):Int)),(jM,k.2.2.2),(lF,.int .i64 ((v:Nat):Int)),(kX,.int .i64 ((k.1:Nat):Int))])
  (fun k H' nx'=>k.1≤(cg es (2 * es.length) v).length∧nx≤nx'∧PS H0 H' nb cb ob nxo n (.slice base es.length ec) es m k.2.1∧pQ H' nxo nx' k.2.2.2 k.2.2.1∧Inv es m s (PK es v k.1) k.2.1 k.2.2.1∧Mk k.2.1 v∧2 * left k.2.1 + k.2.2.1.length≤2 * left c + todo.length) (fun k=>(cg es (2 * es.length) v).length - k.1)
  ?_ (0,c,todo,tv) aN ⟨Nat.zero_le _,Nat.le_refl _,ps,st,iv,Qw,Nat.le_refl _⟩
 rintro ⟨k,c1,nO,ZC⟩ H1 aY ⟨hk,jB,sV,dd,JZ,CS,dJ⟩
 simp only at hk sV dd JZ CS dJ ⊢
 have AW:=fm (es:=es) (k:=2 * es.length) (v:=v)
 obtain ⟨us,u,yO,yQ,Qs,vf⟩:=sV.gs.row (v:=v) (by rw [dH];exact hv)
 rw [dH] at yO
 rw [kO hv] at vf
 obtain ⟨ub,uc,hu⟩:=lJ vf
 have Qt:Rd H1 ob us:=.inl yQ
 have o1:=sV.h1
 have o2:=sV.h2
 have o3:=sV.h3
 have hO:=sV.rd
 rw [hu] at Qs
 have nu:=JZ.len
 have Qx:ao H1 (at_ cb)=some (.cells (c1.map (.int .i64))):=sV.ci
 unfold Pq
 repeat' (first|((first|refine WO.n rfl ?_|refine WO.k rfl ?_);(first|refine cH ?_|refine aJ ?_|refine bj ?_|refine aZ ?_|(refine dt (fun h=>?_) (fun h=>?_)<;>(try simp only [Int.ofNat_eq_natCast] at h))))|with_reducible (first|refine WO.nil ?_|refine WC.aa ?_|refine WC.drawn ?_|refine WC.seq ?_|refine WC.skip ?_|refine WC.exit ?_|refine WC.block ?_)|refine WC.ax rfl ?_|refine WC.ay rfl ?_|with_reducible (first|refine aA ?_|refine ef ?_))
 ·have bF:k < (cg es (2 * es.length) v).length:=by omega
  obtain ⟨q,hq,KJ,ZD,Ms⟩:=Ec bF
  obtain ⟨rb,rc,iD,ZE,UU,iP,hrx⟩:=vf.cell hq
  rw [hu] at iD
  cases iD
  have ZF:Rd H1 rb _:=.inl iP
  repeat' (refine WO.n rfl ?_;(first|refine bj ?_|refine aZ ?_))
  refine WO.cn rfl ?_
  refine (Mc Ee pR ((he.same sV.same).up (show nb≤aY by omega)) KJ (by omega)).of ?_
  rintro _ H2 nx2 ⟨rfl,bI,fq⟩
  have Qy:=sV.frame (H2:=H2) (fun b hb=>bI b (by omega))
  have iE:=dd.frame (H':=H2) (nx':=nx2) (fun b _ hb=>bI b hb) fq
  have aa4:ao H2 (at_ cb)=some (.cells (c1.map (.int .i64))):=Qy.ci
  obtain ⟨w,hw,hwn⟩:=kk hm (de KJ)
  have Mt:w < m:=by omega
  have Mu:G6 es v w:=⟨q,KJ,ZD,hw⟩
  rw [hw] at Ms ⊢
  have hwr:Old es s w∨Reach es s w:=by
   rcases JZ.only v CS with h|h
   ·exact .inl (h.Eb Mu)
   ·exact .inr (.step h Mu)
  have w8:=List.getElem?_eq_getElem (show w < c1.length by omega)
  generalize c1[w]=x at w8
  have tX:=au.cell w8
  have hwc:w < (c1.map (Value.int .i64)).length:=by rw [List.length_map];omega
  repeat' (first|((first|refine WO.n rfl ?_|refine WO.k rfl ?_);(first|refine aK ?_|refine fX ?_|refine bj ?_|refine aZ ?_|refine iu ?_|refine ep ?_|(refine IU (fun h=>?_) (fun h=>?_)<;>(try simp only [Int.ofNat_eq_natCast] at h))|refine ba ?_|refine TJ ?_))|refine WO.cB rfl ?_|refine WO.jH rfl ?_|refine WO.Lx rfl ?_|with_reducible (first|refine WO.nil ?_|refine WC.aa ?_|refine WC.seq ?_|refine WC.skip ?_|refine WC.exit ?_)|refine WC.ax rfl ?_|refine WC.ay rfl ?_|with_reducible (first|refine aA ?_|refine ef ?_|refine ew ?_|refine nD ?_))
  ·refine ⟨(k + 1,c1,nO,ZC),by show (cg es (2 * es.length) v).length - (k + 1) < (cg es (2 * es.length) v).length - k;omega,.cons rfl aN,by show k + 1≤_;omega,by omega,Qy,iE,JZ.skip ⟨x,w8,by omega⟩ (fun _ _ h=>h.next Ms.symm),CS,dJ⟩
  ·refine WO.n rfl ?_
   have ZG:=Qy.mark (v:=w) (x:=((N:Nat):Int))
   have sd:=iE.frame (H':=aI H2 cb ((c1.map (Value.int .i64)).set (0 + w * 1) (.int .i64 (N:Int)))) (nx':=nx2) (fun b hb _=>by rw [ak,if_neg (by omega)]) (Nat.le_refl _)
   have yC:=sd.frame (H':=aI (aI H2 cb ((c1.map (Value.int .i64)).set (0 + w * 1) (.int .i64 (N:Int)))) nx2 [.int .i64 (w:Int)]) (nx':=nx2 + 1) (fun b _ hb=>by rw [ak,if_neg (by omega)]) (Nat.le_succ _)
   have hlf:=pP w8 (by omega) (show (0:Int)≤(N:Int) by omega)
   have UW:=JZ.mark Mt (show (0:Int)≤(N:Int) by omega) hwr (P':=PK es v (k + 1)) (fun _ _ h=>h.next Ms.symm)
   refine aM.UT (lo:=nxo) rfl rfl Rd.self yC (by omega) (by unfold small;omega) (by unfold small;omega) ?_
   intro ZH H3 iY se Wm ZI
   have ps4:=ZG.frame (H2:=H3) (fun b hb=>by rw [ZI b hb,ak,if_neg (by omega)])
   repeat' (first|((first|refine WO.n rfl ?_|refine WO.k rfl ?_);(first|refine aK ?_|refine ba ?_))|with_reducible (first|refine WO.nil ?_|refine WC.aa ?_|refine aA ?_|refine dY ?_))
   refine ⟨(k + 1,c1.set w (N:Int),nO++[(w:Int)],ZH),by show (cg es (2 * es.length) v).length - (k + 1) < (cg es (2 * es.length) v).length - k;omega,.cons rfl aN,by show k + 1≤_;omega,by omega,ps4,Wm,UW,(Mk.set (by omega) (by omega)).2 (.inr CS),?_⟩
   show 2 * left (c1.set w (N:Int)) + (nO++[(w:Int)]).length≤_
   rw [List.length_append]
   show _ + (nO.length + 1)≤_
   omega
 ·have:k=(cg es (2 * es.length) v).length:=by omega
  subst this
  exact aC _ _ _ c1 nO ZC aN sV dd (JZ.none fun _ _ h=>h.none) dJ jB
theorem ptD {n:Int} {m nb cb ob nxo s:Nat} {es:List Ed} {base:Option Addr} {ec cc oc N:Nat} {H0:Heap} {c todo:List Int} {tv:Value} (Ee:A.funcs 53=some LU) (pR:∀vs H nx,A.aH 53 vs H nx=none)
  (hm:kp n es) (ee:n=(m:Int)) (he:bP H0 nb 2 bH (.slice base es.length ec) es) (hN:N≤1048576) (hs:s < m)
  (ps:PS H0 H nb cb ob nxo n (.slice base es.length ec) es m c) (st:pQ H nxo nx tv todo) (hx:nxo≤nx) (iv:Inv es m s (fun _ _=>False) c todo) (hb:2 * left c + todo.length≤2 * m + 1)
  (aC:∀σ H' nx' c',aT [(S1,.slice none 0 0),(S2,.slice none 0 0),(S3,.pointer (some ⟨nb,0,none⟩)),(S8,.slice (some ⟨cb,0,some 1⟩) m cc),(S9,.int .i64 ((N:Nat):Int)),(gu,.slice (some ⟨ob,0,some 1⟩) m oc),(e8,.int .i64 ((s:Nat):Int))] σ→
   PS H0 H' nb cb ob nxo n (.slice base es.length ec) es m c'→Inv es m s (fun _ _=>False) c' []→nx≤nx'→Q (.exit 2) σ H' nx') :
  WC A (.loop LI) [(S1,.slice none 0 0),(S2,.slice none 0 0),(S3,.pointer (some ⟨nb,0,none⟩)),(S8,.slice (some ⟨cb,0,some 1⟩) m cc),(S9,.int .i64 ((N:Nat):Int)),(gu,.slice (some ⟨ob,0,some 1⟩) m oc),(e8,.int .i64 ((s:Nat):Int)),(jM,tv)] H nx Q:=by
 have b9:=hm.2.1
 refine WC.loop (α:=List Int×List Int×Value) (fun k=>[(S1,.slice none 0 0),(S2,.slice none 0 0),(S3,.pointer (some ⟨nb,0,none⟩)),(S8,.slice (some ⟨cb,0,some 1⟩) m cc),(S9,.int .i64 ((N:Nat):Int)),(gu,.slice (some ⟨ob,0,some 1⟩) m oc),(e8,.int .i64 ((s:Nat):Int)),(jM,k.2.2)])
  (fun k H' nx'=>nx≤nx'∧PS H0 H' nb cb ob nxo n (.slice base es.length ec) es m k.1∧pQ H' nxo nx' k.2.2 k.2.1∧Inv es m s (fun _ _=>False) k.1 k.2.1∧2 * left k.1 + k.2.1.length≤2 * m + 1) (fun k=>2 * left k.1 + k.2.1.length)
  ?_ (c,todo,tv) aN ⟨Nat.le_refl _,ps,st,iv,hb⟩
 rintro ⟨c1,nO,ZC⟩ H1 aY ⟨jB,sV,dd,JZ,dJ⟩
 simp only at sV dd JZ dJ ⊢
 by_cases cG:nO=[]
 ·subst cG
  obtain ⟨b,tc,cs,rfl,_⟩:=dd
  unfold LI
  repeat' (first|((first|refine WO.n rfl ?_|refine WO.k rfl ?_);(first|refine cH ?_|refine aZ ?_|(refine Bu (fun h=>?_) (fun h=>?_)<;>(try simp only [Int.ofNat_eq_natCast] at h))|refine IV ?_))|with_reducible (first|refine WO.nil ?_|refine WC.aa ?_|refine WC.seq ?_|refine WC.skip ?_|refine WC.exit ?_|refine WC.block ?_)|refine WC.ax rfl ?_|refine WC.ay rfl ?_|with_reducible (first|refine aA ?_|refine ef ?_))
  ·exact absurd h (by simp)
  exact aC _ _ _ c1 aN sV JZ jB
 ·obtain ⟨xs,x,rfl⟩:∃xs x,nO=xs++[x]:=⟨nO.dropLast,nO.getLast cG,(List.dropLast_concat_getLast cG).symm⟩
  obtain ⟨v,rfl,_,_⟩:=JZ.RJ x (by simp)
  obtain ⟨UW,hv,Qw⟩:=JZ.pop
  obtain ⟨b,tc,cs,rfl,Fu,hr,dT,iE⟩:=dd.last
  have hrR:Rd H1 b cs:=.inl hr
  have ZJ:cs[0 + (xs.length + 1 - 1) * 1]?=some (.int .i64 (v:Int)):=dT
  rw [List.length_append] at dJ
  have j8:2 * left c1 + (xs.length + 1)≤2 * m + 1:=dJ
  unfold LI
  repeat' (first|((first|refine WO.n rfl ?_|refine WO.k rfl ?_);(first|refine aK ?_|refine cH ?_|refine bj ?_|refine aZ ?_|refine Ya ?_|(refine Bu (fun h=>?_) (fun h=>?_)<;>(try simp only [Int.ofNat_eq_natCast] at h))|refine IV ?_))|with_reducible (first|refine WO.nil ?_|refine WC.aa ?_|refine WC.seq ?_|refine WC.skip ?_|refine WC.exit ?_|refine WC.block ?_)|refine WC.ax rfl ?_|refine WC.ay rfl ?_|with_reducible (first|refine aA ?_|refine ef ?_))
  ·refine WC.sub aN (ptK Ee pR hm ee he hN hv hs Qw sV iE (by omega) UW (by omega) (fun σ H2 nx2 c2 J0 ZH hσ Qy sd Wn yo fq=>?_))
   refine ew (dY ⟨(c2,J0,ZH),?_,hσ,by omega,Qy,sd,Wn,?_⟩)
   ·show 2 * left c2 + J0.length < 2 * left c1 + (xs++[(v:Int)]).length
    rw [List.length_append]
    show _ < _ + (xs.length + 1)
    omega
   ·show 2 * left c2 + J0.length≤2 * m + 1
    omega
  ·omega
theorem ptS {n:Int} {m nb cb ob nxo:Nat} {es:List Ed} {base:Option Addr} {ec cc oc:Nat} {H0:Heap} {c:List Int} (Ee:A.funcs 53=some LU) (pR:∀vs H nx,A.aH 53 vs H nx=none)
  (hm:kp n es) (ee:n=(m:Int)) (he:bP H0 nb 2 bH (.slice base es.length ec) es)
  (ps:PS H0 H nb cb ob nxo n (.slice base es.length ec) es m c) (hx:nxo≤nx) (nu:c.length=m) (hc:∀w,w < m→(Mk c w↔Old es 0 w))
  (aC:∀σ H' nx',aT [(S8,.slice (some ⟨cb,0,some 1⟩) m cc),(S9,.int .i64 ((cE es m:Nat):Int))] σ→an H0 H' nb→nx≤nx'→Q (.exit 0) σ H' nx') :
  WC A (.loop Ps) [(S1,.slice none 0 0),(S2,.slice none 0 0),(S3,.pointer (some ⟨nb,0,none⟩)),(S8,.slice (some ⟨cb,0,some 1⟩) m cc),(S9,.int .i64 0),(gu,.slice (some ⟨ob,0,some 1⟩) m oc),(e8,.int .i64 0)] H nx Q:=by
 have b9:=hm.2.1
 refine WC.loop (α:=Nat×List Int) (fun k=>[(S1,.slice none 0 0),(S2,.slice none 0 0),(S3,.pointer (some ⟨nb,0,none⟩)),(S8,.slice (some ⟨cb,0,some 1⟩) m cc),(S9,.int .i64 ((cE es k.1:Nat):Int)),(gu,.slice (some ⟨ob,0,some 1⟩) m oc),(e8,.int .i64 ((k.1:Nat):Int))])
  (fun k H' nx'=>k.1≤m∧nx≤nx'∧PS H0 H' nb cb ob nxo n (.slice base es.length ec) es m k.2∧k.2.length=m∧∀w,w < m→(Mk k.2 w↔Old es k.1 w)) (fun k=>m - k.1)
  ?_ (0,c) aN ⟨Nat.zero_le _,Nat.le_refl _,ps,nu,hc⟩
 rintro ⟨s,c1⟩ H1 aY ⟨hs,jB,sV,yD,iU⟩
 simp only at hs sV yD iU ⊢
 have UX:=jc (es:=es) (k:=s)
 have o1:=sV.h1
 have o2:=sV.h2
 have o3:=sV.h3
 have hO:=sV.rd
 have Qx:ao H1 (at_ cb)=some (.cells (c1.map (.int .i64))):=sV.ci
 subst ee
 unfold Ps
 repeat' (first|((first|refine WO.n rfl ?_|refine WO.k rfl ?_);(first|refine cI ?_|refine aJ ?_|refine aZ ?_|(refine dt (fun h=>?_) (fun h=>?_)<;>(try simp only [Int.ofNat_eq_natCast] at h))))|with_reducible (first|refine WO.nil ?_|refine WC.aa ?_|refine WC.seq ?_|refine WC.skip ?_|refine WC.exit ?_|refine WC.block ?_)|refine WC.ax rfl ?_|refine WC.ay rfl ?_|with_reducible (first|refine aA ?_|refine ef ?_))
 ·have oG:s < m:=by omega
  have w8:=List.getElem?_eq_getElem (show s < c1.length by omega)
  generalize c1[s]=x at w8
  have tX:=au.cell w8
  repeat' (first|((first|refine WO.n rfl ?_|refine WO.k rfl ?_);(first|refine aK ?_|refine fX ?_|refine bj ?_|refine aZ ?_|refine iu ?_|refine ep ?_|(refine IU (fun h=>?_) (fun h=>?_)<;>(try simp only [Int.ofNat_eq_natCast] at h))|refine ba ?_|refine TJ ?_))|refine WO.cB rfl ?_|refine WO.jH rfl ?_|refine WO.Lx rfl ?_|with_reducible (first|refine WO.nil ?_|refine WC.aa ?_|refine WC.seq ?_|refine WC.skip ?_|refine WC.exit ?_|refine WC.block ?_)|refine WC.ax rfl ?_|refine WC.ay rfl ?_|with_reducible (first|refine aA ?_|refine ef ?_|refine ew ?_))
  ·have ho:Old es s s:=(iU s oG).1 ⟨x,w8,by omega⟩
   refine ⟨(s + 1,c1),by show m - (s + 1) < m - s;omega,.cons rfl (.cons rfl (.cons rfl (.cons rfl (.cons ?_ (.cons rfl (.cons rfl (.nil _))))))),by show s + 1≤m;omega,by omega,sV,yD,fun w hw=>by rw [Old.same ho];exact iU w hw⟩
   show some _=some _
   rw [lK ho]
  ·have mm:¬Old es s s:=fun ho=>Mk.not w8 (by omega) ((iU s oG).2 ho)
   have hlf:=pP w8 (by omega) (show (0:Int)≤((cE es s:Nat):Int) by omega)
   have By:=Mr (c:=c1)
   have Qy:=(sV.frame (H2:=aI H1 aY [.int .i64 (s:Int)]) (fun b hb=>by rw [ak,if_neg (by omega)])).mark (v:=s) (x:=((cE es s:Nat):Int))
   have iE:=(pQ.one (H:=H1) (x:=(s:Int)) (show nxo≤aY by omega)).frame (H':=aI (aI H1 aY [.int .i64 (s:Int)]) cb ((c1.map (Value.int .i64)).set (0 + s * 1) (.int .i64 ((cE es s:Nat):Int)))) (nx':=aY + 1) (fun b hb _=>by rw [ak,if_neg (by omega)]) (Nat.le_refl _)
   have UW:=Inv.start (x:=((cE es s:Nat):Int)) hm rfl yD oG (by omega) iU
   refine WC.sub aN (ptD Ee pR hm rfl he (by omega) oG Qy iE (by omega) UW (by show 2 * left _ + 1≤_;omega) (fun σ H3 iY c3 hσ ZG Wn se=>?_))
   refine ew (aA (WC.sub hσ ?_))
   repeat' (first|((first|refine WO.n rfl ?_|refine WO.k rfl ?_);(first|refine aK ?_|refine ba ?_))|with_reducible (first|refine WO.nil ?_|refine WC.aa ?_|refine aA ?_|refine dY ?_))
   refine ⟨(s + 1,c3),by show m - (s + 1) < m - s;omega,.cons rfl (.cons rfl (.cons rfl (.cons rfl (.cons ?_ (.cons rfl (.cons rfl (.nil _))))))),by show s + 1≤m;omega,by omega,ZG,Wn.len,fun w hw=>Wn.done hm rfl oG hw⟩
   show some _=some _
   rw [jD mm]
 ·have:s=m:=by omega
  subst this
  exact aC _ _ _ aN sV.same jB
theorem rM {f:FuncId} (hf:A.funcs f=some pF) (hh:∀vs H nx,A.aH f vs H nx=none) (Ee:A.funcs 53=some LU) (pR:∀vs H nx,A.aH 53 vs H nx=none)
  (NR:A.funcs 51=some qR) (AZ:∀vs H nx,A.aH 51 vs H nx=none) (NS:A.funcs 52=some wR) (A0:∀vs H nx,A.aH 52 vs H nx=none)
  (si:A.funcs 33=some kL) (iF:∀vs H nx,A.aH 33 vs H nx=none)
  {n:Int} {m:Nat} {ev:Value} {es:List Ed} (hm:kp n es) (ee:n=(m:Int)) (he:bP H nx 2 bH ev es) :
  WF A f [.agg #[.int .i64 n,ev],.slice none 0 0,.slice none 0 0] H nx fun v H' nx'=>∃u,v=oneOf [u,.int .i64 ((cE es m:Nat):Int)]∧an H H' nx∧nx≤nx':=by
 obtain ⟨base,ec,rfl⟩:=he.form
 have b9:=hm.2.1
 subst ee
 refine WF.enter (hh _ _ _) hf ?_
 repeat' (first|((first|refine WO.n rfl ?_|refine WO.k rfl ?_);(first|refine aK ?_|refine cI ?_|refine jL ?_|refine aJ ?_))|with_reducible (first|refine WO.nil ?_|refine WC.aa ?_|refine WC.seq ?_|refine aA ?_))
 have bg:an H (aI H nx [.int .i64 (m:Int),.slice base es.length ec]) nx:=an.refl.set (Nat.le_refl _)
 refine WO.cn rfl ?_
 refine (CR NR AZ (m:=m) (x:=-1) (by omega)).of ?_
 rintro _ H1 aY ⟨cb,cc,rfl,K8,UY,Qz,Qx,aS⟩
 have bn:an H H1 nx:=bg.trans aS (by omega)
 have dJ:Rd H1 nx [.int .i64 (m:Int),.slice base es.length ec]:=aS.rd (by omega) Rd.self
 repeat' (first|((first|refine WO.n rfl ?_|refine WO.k rfl ?_);(first|refine aK ?_|refine aJ ?_))|with_reducible (first|refine WO.nil ?_|refine WC.aa ?_|refine WC.seq ?_|refine aA ?_))
 refine WO.cn rfl ?_
 refine (Gf NS A0 si iF hm rfl ((he.same bn).up (by omega))).of ?_
 rintro _ H2 nx2 ⟨ob,oc,rfl,O0,QA,A1,hg,bI,fq⟩
 repeat' (first|(refine WO.k rfl ?_;refine aK ?_)|with_reducible (first|refine WO.nil ?_|refine WC.aa ?_|refine WC.seq ?_|refine WC.block ?_|refine aA ?_))
 refine WC.sub aN (ptS (nb:=nx) (cb:=cb) (ob:=ob) (nxo:=nx2) (c:=List.replicate m (-1)) Ee pR hm rfl he ⟨bn.trans bI (by omega),bI.rd (by omega) dJ,hg,(bI cb Qz).trans Qx,by omega,by omega,A1⟩ (Nat.le_refl _) (by simp) (fun w hw=>⟨fun ⟨x,h1,h2⟩=>by rw [List.getElem?_replicate,if_pos hw] at h1;cases h1;omega,fun h=>(Old.zero h).elim⟩) (fun σ H3 iY hσ eL se=>?_))
 refine ew (aA (WC.sub hσ ?_))
 repeat' (first|(refine WO.k rfl ?_;refine aK ?_)|with_reducible (first|refine WO.nil ?_|refine WC.aa ?_|refine WC.seq ?_|refine WC.ret ?_|refine aA ?_))
 exact az (vs:=[_,_]) rfl ⟨_,rfl,eL,by omega⟩
end Go.Eng

namespace Go.Eng
variable {A:aG} {H H':Heap} {nx nx':Nat} {σ:aP} {Q:cw}
set_option maxRecDepth 100000
theorem kP {p:List Bool} {agg:Option Nat} {b o:Nat} {cs:List Value} {v:Value} {Q:Value→Heap→Nat→Prop} (h1:sl σ p=some (.pointer (some ⟨b,o,none⟩))) (h2:ao H (at_ b)=some (.cells cs)) (h3:partOf cs o agg=some v) (hq:Q (oneOf [v]) H nx):iZ [(.var p,some agg)] Q .ret σ H nx:=by
 refine ⟨[v],?_,hq⟩
 have:Cl σ H (.var p,some agg)=some v:=by
  show (match sl σ p with
   | some (.pointer (some ⟨b,o,none⟩))=>match ao H (at_ b) with
    | some (.cells cs)=>partOf cs o agg
    | _=>none
   | _=>none)=_
  rw [h1]
  simp only [h2]
  exact h3
 unfold iH
 rw [this]
 rfl
theorem Gh {f:FuncId} (hf:A.funcs f=some wS) (hh:∀vs H nx,A.aH f vs H nx=none) (J1:A.funcs 79=some lG) (uO:∀vs H nx,A.aH 79 vs H nx=none)
  {m s:Nat} (hm:m≤1024) (hs:s < m) :
  WF A f [.int .i64 (m:Int),.int .i64 (s:Int)] H nx fun v H' nx'=>∃qb bb bc fb fc,v=.agg #[.slice (some ⟨qb,0,some 1⟩) 1 (2 * 1 + 1),.slice (some ⟨bb,0,some 1⟩) m bc,.slice (some ⟨fb,0,some 1⟩) m fc,.slice none 0 0]∧
   ao H' (at_ qb)=some (.cells [.int .i64 (s:Int)])∧au H' bb (List.replicate m (-1))∧au H' fb ((List.replicate m (-1)).set s 0)∧nx≤qb∧qb < bb∧bb < fb∧fb < nx'∧an H H' nx:=by
 refine WF.enter (hh _ _ _) hf ?_
 repeat' (first|((first|refine WO.n rfl ?_|refine WO.k rfl ?_);(first|refine uw ?_|refine iu ?_))|with_reducible (first|refine WO.nil ?_|refine WC.aa ?_|refine WC.seq ?_|refine aA ?_))
 refine WO.cn rfl ?_
 refine (mS J1 uO (m:=m) (x:=-1) (by omega)).of ?_
 rintro _ H1 aY ⟨bb,bc,rfl,hbc,aa5,aa6,hbi,aS⟩
 refine WO.cn rfl ?_
 refine (mS J1 uO (m:=m) (x:=-1) (by omega)).of ?_
 rintro _ H2 nx2 ⟨fb,fc,rfl,Ef,aa7,aa8,Kw,bI⟩
 have aa9:ao H2 (at_ nx)=some (.cells [.slice none 0 0,.slice none 0 0,.slice none 0 0,.slice none 0 0]):=(bI nx (by omega)).trans ((aS nx (by omega)).trans (by rw [ak,if_neg (by omega)];exact aw))
 have ZK:ao H2 (at_ (nx + 1))=some (.cells [.int .i64 (s:Int)]):=(bI _ (by omega)).trans ((aS _ (by omega)).trans aw)
 have ZL:ao H2 (at_ bb)=some (.cells ((List.replicate m (-1)).map (.int .i64))):=(bI bb (by omega)).trans hbi
 have aba:ao H2 (at_ fb)=some (.cells ((List.replicate m (-1)).map (.int .i64))):=Kw
 have fV:∀b,b < nx→ao H2 (at_ b)=ao H (at_ b):=fun b hb=>(bI b (by omega)).trans ((aS b (by omega)).trans (by rw [ak,if_neg (by omega),ak,if_neg (by omega)]))
 have Gb:s < ((List.replicate m (-1:Int)).map (Value.int .i64)).length:=by simpa using hs
 repeat' (first|((first|refine WO.n rfl ?_|refine WO.k rfl ?_);(first|refine cI ?_|refine uw ?_|refine FG ?_|refine aJ ?_|refine aZ ?_|refine ep ?_|refine iQ ?_))|with_reducible (first|refine WO.nil ?_|refine WC.aa ?_|refine WC.seq ?_|refine WC.ret ?_|refine aA ?_))
 refine kP rfl (by first|exact aw|(with_reducible (first|exact aw|assumption|((repeat ((apply cy);(with_unfolding_all omega)));first|exact aw|assumption)))) rfl ⟨nx + 1,bb,bc,fb,fc,rfl,?_,?_,?_,by omega,by omega,by omega,by omega,fun b hb=>?_⟩
 ·repeat (first|exact ZK|(apply cy (by omega)))
 ·show ao _ _=_
  repeat (first|exact ZL|(apply cy (by omega)))
 ·show ao _ _=_
  refine cy (by omega) ?_
  first
   | (rw [aw,List.map_set];congr 3;first|done|rfl|omega)
 ·repeat (first|exact fV b hb|(apply cy (by omega)))
end Go.Eng

namespace Go.Eng
variable {A:aG} {H H':Heap} {nx nx':Nat} {σ:aP} {L:List Value} {Q:cw}
set_option maxRecDepth 100000
theorem aM.UZ {lo by_ q c':Nat} {zero:List Value} {s x:Od} {v:Value} {xs:List Int} {y:Int} {K:Value→Heap→Nat→Prop} (hs:ev σ L s=some v) (hx:ev σ L x=some (.slice (some ⟨q,0,some 1⟩) 1 c')) (hq:Rd H q [.int .i64 y]) (hg:pQ H lo nx v xs) (vp:lo≤nx)
  (h2:(xs.length + 1) * by_≤small) (h3:xs.length + 1≤small)
  (h:∀v' H' nx',nx≤nx'→pQ H' lo nx' v' (xs++[y])→(∀b,b < nx→cf v≠some b→ao H' (at_ b)=ao H (at_ b))→(cf v'=cf v∨cf v'=some nx)→K v' H' nx'):aM A (.app 1 by_ zero s x false) σ L H nx K:=by
 obtain ⟨b,c,cs,rfl,wN,dJ,hr,nu,lO,ht⟩:=hg
 by_cases hc:xs.length + 1≤aE c
 ·have u3:lM cs (0 + xs.length * 1) [.int .i64 y]=some (cs.take xs.length++[.int .i64 y]++cs.drop (xs.length + 1)):=by
   unfold lM
   rw [Nat.zero_add,Nat.mul_one,xV _ _ _ (by show xs.length + 1≤_;omega)]
   rfl
  refine .of (.q7 hs hx (cN hq rfl) (by omega) (by omega) rfl hr hc u3) (h _ _ _ (Nat.le_refl _) ⟨b,c,_,by simp,wN,dJ,aw,?_,by simpa using hc,?_⟩ (fun d _ hd=>by rw [ak,if_neg (fun e=>hd (by rw [e];rfl))]) (.inl rfl))
  ·simp only [List.length_append,List.length_take,List.length_drop,List.length_cons,List.length_nil];omega
  ·rw [ht,List.map_append,List.length_append]
   have e:(xs.map (Value.int .i64)++[Value.int .i64 y]).length=xs.length + [y].length:=by simp
   rw [← e,List.take_left];rfl
 ·have hold:take? (xs.length * 1) (cs.drop 0)=some (xs.map (.int .i64)):=by
   rw [Nat.mul_one,List.drop_zero,take?_of _ _ (by omega),ht]
  have mA:∀H1:Heap,ao H1 (at_ nx)=some (.cells (xs.map (.int .i64)++[.int .i64 y]))→pQ H1 lo (nx + 1) (.slice (some ⟨nx,0,some 1⟩) (xs.length + 1) (2 * (xs.length + 1))) (xs++[y]):=fun H1 hH=>⟨nx,2 * (xs.length + 1),_,by simp,vp,by omega,hH,by rw [dD];simp,by rw [dD];simp,by
   rw [List.map_append,List.length_append]
   have e:(xs.map (Value.int .i64)++[Value.int .i64 y]).length=xs.length + [y].length:=by simp
   rw [← e,List.take_length];rfl⟩
  cases he:exact c with
  | false=>exact .of (.kY hs hx (cN hq rfl) (by omega) (by omega) rfl hr hold (by omega) he h2 h3) (h _ _ _ (Nat.le_succ _) (mA _ aw) (fun d hd hn=>by rw [ak,if_neg (by omega),jw,if_neg (fun e=>hn (by rw [e];rfl))]) (.inr rfl))
  | true=>exact .of (.Au hs hx (cN hq rfl) (by omega) (by omega) rfl hr hold (by omega) he h2 h3) (h _ _ _ (Nat.le_succ _) (mA _ aw) (fun d hd hn=>by rw [ak,if_neg (by omega)]) (.inr rfl))
theorem pQ.own {lo:Nat} {v:Value} {xs:List Int} (h:pQ H lo nx v xs) (hs:∀b,cf v=some b→ao H' (at_ b)=ao H (at_ b)) (hn:nx≤nx'):pQ H' lo nx' v xs:=by
 obtain ⟨b,c,cs,rfl,h2,h3,h4,h5⟩:=h
 exact ⟨b,c,cs,rfl,h2,by omega,(hs b rfl).trans h4,h5⟩
structure TS (H:Heap) (lo nx tb bb fb:Nat) (bc fc m:Nat) (ov:Value) (xs by_ far:List Int):Prop where
 rd:ao H (at_ tb)=some (.cells [ov,.slice (some ⟨bb,0,some 1⟩) m bc,.slice (some ⟨fb,0,some 1⟩) m fc,.slice none 0 0])
 ord:pQ H lo nx ov xs
 RK:au H bb by_
 uP:au H fb far
 bl:by_.length=m
 fl:far.length=m
 d1:cf ov≠some tb
 d2:cf ov≠some bb
 d3:cf ov≠some fb
 d4:bb < fb
 d5:fb < tb
 d6:tb < nx
 d7:lo≤bb
theorem find_spec {f:FuncId} (hf:A.funcs f=some rK) (hh:∀vs H nx,A.aH f vs H nx=none) (pS:A.funcs 103=some yh) (j2:∀vs H nx,A.aH 103 vs H nx=none)
  {n:Int} {pb h nb w lo tb bb fb bc fc m:Nat} {d:Int} {base:Option Addr} {ec:Nat} {ZM ov:Value} {es:List Ed} {xs by_ far:List Int} {H0:Heap} (he:bP H0 nb 2 bH (.slice base es.length ec) es) (hs:an H0 H nb)
  (jJ:Rd H pb [.int .i64 n,.slice base es.length ec,ZM]) (hl:h < 2 * es.length) (eB:es.length≤4000) (hw:ct es (bT h)=(w:Int)) (Mt:w < m)
  (ts:TS H lo nx tb bb fb bc fc m ov xs by_ far) (hx:xs.length≤1048576) :
  WF A f [.pointer (some ⟨pb,0,none⟩),.pointer (some ⟨tb,0,none⟩),.int .i64 (h:Int),.int .i64 d] H nx fun _ H' nx'=>∃U0,TS H' lo nx' tb bb fb bc fc m U0 (xs++[(w:Int)]) (by_.set w (h:Int)) (far.set w d)∧(∀b,b < lo→ao H' (at_ b)=ao H (at_ b))∧nx≤nx':=by
 obtain ⟨t1,t2,t3,t4,t5,t6,d1,d2,d3,d4,d5,d6,d7⟩:=ts
 have u3:=t2
 obtain ⟨ob,oc,ocs,rfl,Wo,CT,_⟩:=u3
 refine WF.enter (hh _ _ _) hf ?_
 repeat' (first|with_reducible (first|refine WC.aa ?_|refine WC.seq ?_))
 refine WO.cn rfl ?_
 refine (AY pS j2 he hs jJ hl eB).of ?_
 rintro _ H1 aY ⟨rfl,rfl,rfl⟩
 rw [hw]
 have RM:Rd H1 tb _:=.inl t1
 repeat' (first|((first|refine WO.n rfl ?_|refine WO.k rfl ?_);(first|refine aK ?_|refine cI ?_|refine aJ ?_|refine iu ?_|refine lD ?_))|with_reducible (first|refine WO.nil ?_|refine WC.aa ?_|refine WC.seq ?_|refine aA ?_))
 refine WO.n rfl ?_
 have yC:=t2.frame (H':=aI H1 aY [.int .i64 (w:Int)]) (nx':=aY + 1) (fun b _ hb=>by rw [ak,if_neg (by omega)]) (Nat.le_succ _)
 refine aM.UZ (lo:=lo) rfl rfl Rd.self yC (by omega) (by unfold small;omega) (by unfold small;omega) ?_
 intro ov2 H2 nx2 fq Wm hk oa
 have gC:∀b,b < aY→b≠ob→ao H2 (at_ b)=ao H1 (at_ b):=fun b hb cG=>(hk b (by omega) (fun e=>cG (by cases e;rfl))).trans (by rw [ak,if_neg (by omega)])
 have e1:ob≠tb:=fun e=>d1 (by rw [e];rfl)
 have e2:ob≠bb:=fun e=>d2 (by rw [e];rfl)
 have e3:ob≠fb:=fun e=>d3 (by rw [e];rfl)
 have VP:=(gC tb d6 (fun e=>e1 e.symm)).trans t1
 have t1R:Rd H2 tb _:=.inl VP
 have t3':ao H2 (at_ bb)=some (.cells (by_.map (.int .i64))):=(gC bb (by omega) (fun e=>e2 e.symm)).trans t3
 have t4':ao H2 (at_ fb)=some (.cells (far.map (.int .i64))):=(gC fb (by omega) (fun e=>e3 e.symm)).trans t4
 have st6:=Wm
 obtain ⟨o2,oc2,abb,EV,_⟩:=Wm
 subst EV
 have NT:o2=ob∨o2=aY + 1:=by
  rcases oa with e|e
  ·cases e;exact .inl rfl
  ·cases e;exact .inr rfl
 have q1:o2≠tb:=by omega
 have q2:o2≠bb:=by omega
 have q3:o2≠fb:=by omega
 have hwb:w < (by_.map (Value.int .i64)).length:=by rw [List.length_map];omega
 repeat' (first|(refine WO.n rfl ?_;(first|refine cI ?_|refine aJ ?_|refine aZ ?_|refine ep ?_|refine lD ?_))|with_reducible (first|refine WO.nil ?_|refine WC.drawn ?_|refine aA ?_|refine nD ?_))
 refine ui (vs:=[]) rfl ⟨_,⟨cy (by omega) (cy (by omega) aw),st6.own (fun b hb=>?_) (Nat.le_refl _),cy (by omega) ?_,?_,by rw [List.length_set];exact t5,by rw [List.length_set];exact t6,fun e=>q1 (by cases e;rfl),fun e=>q2 (by cases e;rfl),fun e=>q3 (by cases e;rfl),d4,d5,by omega,d7⟩,fun b hb=>?_,by omega⟩
 ·cases hb
  rw [ak,if_neg q3,ak,if_neg q2,ak,if_neg q1]
 ·rw [aw,List.map_set,Nat.zero_add,Nat.mul_one]
 ·show ao _ _=_
  rw [aw,List.map_set,Nat.zero_add,Nat.mul_one]
 ·rw [ak,if_neg (by omega),ak,if_neg (by omega),ak,if_neg (by omega)]
  exact gC b (by omega) (by omega)
end Go.Eng

namespace Go.Eng
variable {A:aG} {H H':Heap} {nx nx':Nat} {σ:aP} {L:List Value} {Q:cw}
set_option maxRecDepth 100000
structure Bf (es:List Ed) (m s i:Nat) (P:Nat→Nat→Prop) (far xs:List Int):Prop where
 len:far.length=m
 RN:∀w,Mk far w↔(w:Int)∈xs
 IJ:∀x∈xs,∃q:Nat,x=(q:Int)∧q < m∧Reach es s q
 me:(s:Int)∈xs
 Eb:∀j u w,j < i→xs[j]?=some ((u:Nat):Int)→G6 es u w→Mk far w∨P u w
 NP:xs.length + left far≤m
 U1:∀x∈far,-1≤x∧x < (xs.length:Int)
section
variable {es:List Ed} {m s i:Nat} {P P':Nat→Nat→Prop} {far xs:List Int}
theorem Bf.skip {w:Nat} (h:Bf es m s i P far xs) (hw:Mk far w) (hP:∀u w',P u w'→w'=w∨P' u w'):Bf es m s i P' far xs:=
 ⟨h.len,h.RN,h.IJ,h.me,fun j u w' hj hu ha=>by
  rcases h.Eb j u w' hj hu ha with h1|h1
  ·exact .inl h1
  ·rcases hP u w' h1 with rfl|h2
   ·exact .inl hw
   ·exact .inr h2,h.NP,h.U1⟩
theorem Bf.mark {w:Nat} {x y:Int} (h:Bf es m s i P far xs) (hi:i≤xs.length) (hg:far[w]?=some y) (hy:y < 0) (hw:w < m) (hx:0≤x) (hb:x < (xs.length:Int) + 1) (hr:Reach es s w) (hP:∀u w',P u w'→w'=w∨P' u w'):Bf es m s i P' (far.set w x) (xs++[(w:Int)]):=by
 have yt:w < far.length:=by rw [h.len];exact hw
 have UC:=pP hg hy hx
 refine ⟨by rw [List.length_set];exact h.len,fun u=>?_,fun z hz=>?_,by simp [h.me],fun j u w' hj hu ha=>?_,?_,fun z hz=>?_⟩
 ·rw [Mk.set yt hx,h.RN u,List.mem_append,List.mem_singleton]
  constructor
  ·rintro (rfl|h1)
   ·exact .inr rfl
   ·exact .inl h1
  ·rintro (h1|h1)
   ·exact .inr h1
   ·exact .inl (by omega)
 ·rcases List.mem_append.1 hz with hz|hz
  ·exact h.IJ z hz
  ·exact ⟨w,List.mem_singleton.1 hz,hw,hr⟩
 ·rw [List.getElem?_append_left (by omega)] at hu
  rcases h.Eb j u w' hj hu ha with h1|h1
  ·exact .inl ((Mk.set yt hx).2 (.inr h1))
  ·rcases hP u w' h1 with rfl|h2
   ·exact .inl ((Mk.set yt hx).2 (.inl rfl))
   ·exact .inr h2
 ·rw [List.length_append];show _ + 1 + _≤_
  have:=h.NP
  omega
 ·rw [List.length_append]
  show -1≤z∧z < ((xs.length + 1:Nat):Int)
  rcases List.mem_or_eq_of_mem_set hz with h1|rfl
  ·have:=h.U1 z h1;omega
  ·omega
theorem Bf.QB {v:Nat} (h:Bf es m s i (fun _ _=>False) far xs) (hv:xs[i]?=some (v:Int)):Bf es m s (i + 1) (PK es v 0) far xs:=
 ⟨h.len,h.RN,h.IJ,h.me,fun j u w hj hu ha=>by
  rcases Nat.lt_or_ge j i with h1|h1
  ·rcases h.Eb j u w h1 hu ha with h2|h2
   ·exact .inl h2
   ·exact h2.elim
  ·have:j=i:=by omega
   subst this
   rw [hv] at hu
   have:v=u:=by have:=Option.some.inj hu;omega
   subst this
   exact .inr (PK.all ha),h.NP,h.U1⟩
theorem Bf.none (h:Bf es m s i P far xs) (hP:∀u w,P u w→False):Bf es m s i (fun _ _=>False) far xs:=
 ⟨h.len,h.RN,h.IJ,h.me,fun j u w hj hu ha=>by
  rcases h.Eb j u w hj hu ha with h1|h1
  ·exact .inl h1
  ·exact (hP u w h1).elim,h.NP,h.U1⟩
theorem Bf.done (h:Bf es m s xs.length (fun _ _=>False) far xs) {w:Nat}:(w:Int)∈xs↔Reach es s w:=by
 constructor
 ·intro hw
  obtain ⟨q,h1,_,h2⟩:=h.IJ _ hw
  rw [show w=q by omega];exact h2
 ·intro hr
  induction hr with
  | here=>exact h.me
  | @step u v _ ha ih=>
   obtain ⟨j,hj,e⟩:=List.getElem_of_mem ih
   rcases h.Eb j u v hj (by rw [List.getElem?_eq_getElem hj,e]) ha with h1|h1
   ·exact (h.RN v).1 h1
   ·exact h1.elim
theorem J2 (m:Nat):left (List.replicate m (-1))=m:=by
 unfold left
 rw [List.filter_replicate]
 simp
theorem Bf.start (hs:s < m):Bf es m s 0 (fun _ _=>False) ((List.replicate m (-1)).set s 0) [(s:Int)]:=by
 have hg:(List.replicate m (-1:Int))[s]?=some (-1):=by rw [List.getElem?_replicate,if_pos hs]
 refine ⟨by simp,fun w=>?_,fun x hx=>⟨s,List.mem_singleton.1 hx,hs,.here⟩,by simp,fun j u w hj=>by omega,?_,fun x hx=>?_⟩
 ·rw [Mk.set (by simpa using hs) (by omega),List.mem_singleton]
  constructor
  ·rintro (rfl|⟨x,h1,h2⟩)
   ·rfl
   ·rw [List.getElem?_replicate] at h1
    split at h1
    ·cases h1;omega
    ·cases h1
  ·intro h;exact .inl (by omega)
 ·have:=pP hg (by omega) (show (0:Int)≤0 by omega)
  have h2:=J2 m
  show 1 + _≤m
  omega
 ·rcases List.mem_or_eq_of_mem_set hx with h1|rfl
  ·have:=(List.mem_replicate.1 h1).2
   subst this
   exact ⟨by omega,by show (-1:Int) < 1;omega⟩
  ·exact ⟨by omega,by show (0:Int) < 1;omega⟩
end
end Go.Eng

namespace Go.Eng
variable {A:aG} {H H':Heap} {nx nx':Nat} {σ:aP} {L:List Value} {Q:cw}
set_option maxRecDepth 100000
theorem bfI {n:Int} {m s i v pb rb tb bb fb bc fc lo uc:Nat} {ub:Option Addr} {es:List Ed} {base:Option Addr} {ec:Nat} {ZM ov:Value} {Hs:Heap} {far by_ xs:List Int} (pS:A.funcs 103=some yh) (j2:∀vs H nx,A.aH 103 vs H nx=none) (uQ:A.funcs 104=some rK) (mT:∀vs H nx,A.aH 104 vs H nx=none)
  (hm:kp n es) (ee:n=(m:Int)) (he:bP Hs lo 2 bH (.slice base es.length ec) es) (jJ:Rd Hs pb [.int .i64 n,.slice base es.length ec,ZM]) (K6:pb < lo) (hv:v < m) (XM:Reach es s v)
  (vf:bM Hs (pb + 1) lo 1 (.slice ub (cg es (2 * es.length) v).length uc) (cg es (2 * es.length) v).length ((cg es (2 * es.length) v).map (.int .i64)))
  (hs:an Hs H lo) (ts:TS H lo nx tb bb fb bc fc m ov xs by_ far) (bf:Bf es m s (i + 1) (PK es v 0) far xs) (hi:i < xs.length) (Qw:Mk far v)
  (aC:∀σ H' nx' U0 QC Qf J3,aT [([],.pointer (some ⟨pb,0,none⟩)),(S4,.pointer (some ⟨rb,0,none⟩)),(S5,.pointer (some ⟨tb,0,none⟩)),(S6,.int .i64 ((i:Nat):Int))] σ→
   an Hs H' lo→TS H' lo nx' tb bb fb bc fc m U0 QC Qf J3→Bf es m s (i + 1) (fun _ _=>False) J3 QC→i < QC.length→nx≤nx'→Q (.exit 2) σ H' nx') :
  WC A (.loop PU) [([],.pointer (some ⟨pb,0,none⟩)),(S4,.pointer (some ⟨rb,0,none⟩)),(S5,.pointer (some ⟨tb,0,none⟩)),(S6,.int .i64 ((i:Nat):Int)),(S7,.int .i64 ((v:Nat):Int)),(GY,.slice ub (cg es (2 * es.length) v).length uc),(RD,.int .i64 (((cg es (2 * es.length) v).length:Nat):Int)),(KH,.int .i64 0)] H nx Q:=by
 have eB:=hm.2.2.1
 have b9:=hm.2.1
 refine WC.loop (α:=Nat×Value×List Int×List Int×List Int) (fun k=>[([],.pointer (some ⟨pb,0,none⟩)),(S4,.pointer (some ⟨rb,0,none⟩)),(S5,.pointer (some ⟨tb,0,none⟩)),(S6,.int .i64 ((i:Nat):Int)),(S7,.int .i64 ((v:Nat):Int)),(GY,.slice ub (cg es (2 * es.length) v).length uc),(RD,.int .i64 (((cg es (2 * es.length) v).length:Nat):Int)),(KH,.int .i64 ((k.1:Nat):Int))])
  (fun k H' nx'=>k.1≤(cg es (2 * es.length) v).length∧nx≤nx'∧an Hs H' lo∧TS H' lo nx' tb bb fb bc fc m k.2.1 k.2.2.1 k.2.2.2.1 k.2.2.2.2∧Bf es m s (i + 1) (PK es v k.1) k.2.2.2.2 k.2.2.1∧i < k.2.2.1.length∧Mk k.2.2.2.2 v) (fun k=>(cg es (2 * es.length) v).length - k.1)
  ?_ (0,ov,xs,by_,far) aN ⟨Nat.zero_le _,Nat.le_refl _,hs,ts,bf,hi,Qw⟩
 rintro ⟨k,Wp,Mv,RK,uP⟩ H1 aY ⟨hk,jB,aS,Gi,Eg,RO,CS⟩
 simp only at hk Gi Eg RO CS ⊢
 have AW:=fm (es:=es) (k:=2 * es.length) (v:=v)
 have RM:Rd H1 tb _:=.inl Gi.rd
 have zD:=Eg.len
 have hfw:=Eg.NP
 have Kw:ao H1 (at_ fb)=some (.cells (uP.map (.int .i64))):=Gi.uP
 unfold PU
 repeat' (first|((first|refine WO.n rfl ?_|refine WO.k rfl ?_);(refine dt (fun h=>?_) (fun h=>?_)<;>(try simp only [Int.ofNat_eq_natCast] at h)))|with_reducible (first|refine WO.nil ?_|refine WC.aa ?_|refine WC.seq ?_|refine WC.skip ?_|refine WC.exit ?_|refine WC.block ?_)|refine WC.ax rfl ?_|refine WC.ay rfl ?_|with_reducible (first|refine aA ?_|refine ef ?_))
 ·have bF:k < (cg es (2 * es.length) v).length:=by omega
  obtain ⟨q,hq,KJ,ZD,Ms⟩:=Ec bF
  obtain ⟨rb',rc,iD,ZE,UU,iP,hrx⟩:=vf.cell hq
  cases iD
  have ZF:Rd H1 rb' _:=aS.rd UU (.inl iP)
  obtain ⟨w,hw,hwn⟩:=kk hm (de KJ)
  have Mt:w < m:=by omega
  have Mu:G6 es v w:=⟨q,KJ,ZD,hw⟩
  have yB:=aS.rd K6 jJ
  repeat' (first|((first|refine WO.n rfl ?_|refine WO.k rfl ?_);(first|refine aK ?_|refine cI ?_|refine aJ ?_|refine bj ?_|refine aZ ?_))|with_reducible (first|refine WO.nil ?_|refine WC.drawn ?_|refine WC.seq ?_|refine aA ?_))
  refine WO.ca rfl ?_
  refine (AY pS j2 he aS yB KJ (by omega)).of ?_
  rintro _ H2 nx2 ⟨rfl,rfl,rfl⟩
  refine ⟨bk.look rfl RM rfl rfl (by simp [km,fa]) .nil,?_⟩
  rw [hw] at Ms ⊢
  have w8:=List.getElem?_eq_getElem (show w < uP.length by omega)
  generalize uP[w]=x at w8
  have tX:=au.cell w8
  obtain ⟨y,Wq,V4⟩:=CS
  have Wr:=au.cell Wq
  have hyb:=(Eg.U1 y (List.mem_of_getElem? Wq)).2
  repeat' (first|((first|refine WO.n rfl ?_|refine WO.k rfl ?_);(first|refine aK ?_|refine cI ?_|refine aJ ?_|refine bj ?_|refine aZ ?_|(refine dt (fun h=>?_) (fun h=>?_)<;>(try simp only [Int.ofNat_eq_natCast] at h))|refine ba ?_|refine qO ?_))|with_reducible (first|refine WO.nil ?_|refine WC.aa ?_|refine WC.skip ?_)|refine WC.ax rfl ?_|refine WC.ay rfl ?_|with_reducible (first|refine aA ?_|refine dY ?_|refine nD ?_))
  ·refine WO.cn rfl ?_
   refine (find_spec (d:=y + 1) uQ mT pS j2 he aS yB KJ (by omega) hw Mt Gi (by omega)).of ?_
   rintro _ H3 iY ⟨ZN,RP,ZI,se⟩
   repeat' (first|((first|refine WO.n rfl ?_|refine WO.k rfl ?_);(first|refine aK ?_|refine ba ?_))|with_reducible (first|refine WO.nil ?_|refine WC.aa ?_|refine aA ?_|refine dY ?_))
   refine ⟨(k + 1,ZN,Mv++[(w:Int)],RK.set w (q:Int),uP.set w (y + 1)),by show (cg es (2 * es.length) v).length - (k + 1) < (cg es (2 * es.length) v).length - k;omega,.cons rfl aN,by show k + 1≤_;omega,by omega,fun b hb=>(ZI b hb).trans (aS b hb),RP,Eg.mark (by omega) w8 (by omega) Mt (by omega) (by omega) (.step XM Mu) (fun _ _ h=>h.next Ms.symm),by show i < (Mv++[(w:Int)]).length;rw [List.length_append];omega,(Mk.set (by omega) (by omega)).2 (.inr ⟨y,Wq,V4⟩)⟩
  ·exact ⟨(k + 1,Wp,Mv,RK,uP),by show (cg es (2 * es.length) v).length - (k + 1) < (cg es (2 * es.length) v).length - k;omega,.cons rfl aN,by show k + 1≤_;omega,by omega,aS,Gi,Eg.skip ⟨x,w8,by omega⟩ (fun _ _ h=>h.next Ms.symm),RO,⟨y,Wq,V4⟩⟩
 ·have:k=(cg es (2 * es.length) v).length:=by omega
  subst this
  exact aC _ _ _ Wp Mv RK uP aN aS Gi (Eg.none fun _ _ h=>h.none) RO jB
theorem pQ.cell {lo i:Nat} {v:Value} {xs:List Int} {x:Int} (h:pQ H lo nx v xs) (hx:xs[i]?=some x):∃b c cs,v=.slice (some ⟨b,0,some 1⟩) xs.length c∧lo≤b∧b < nx∧ao H (at_ b)=some (.cells cs)∧cs[0 + i * 1]?=some (.int .i64 x):=by
 obtain ⟨b,c,cs,rfl,wN,dJ,hr,nu,lO,ht⟩:=h
 have hi:=(List.getElem?_eq_some_iff.1 hx).1
 refine ⟨b,c,cs,rfl,wN,dJ,hr,?_⟩
 have h1:(cs.take xs.length)[i]?=some (.int .i64 x):=by rw [ht,List.getElem?_map,hx];rfl
 rw [List.getElem?_take_of_lt hi] at h1
 rw [Nat.zero_add,Nat.mul_one];exact h1
theorem bfO {n:Int} {m s pb rb tb bb fb bc fc lo ob oc:Nat} {es:List Ed} {base:Option Addr} {ec:Nat} {ov:Value} {Hs:Heap} {far by_ xs:List Int} (pS:A.funcs 103=some yh) (j2:∀vs H nx,A.aH 103 vs H nx=none) (uQ:A.funcs 104=some rK) (mT:∀vs H nx,A.aH 104 vs H nx=none)
  (hm:kp n es) (ee:n=(m:Int)) (he:bP Hs lo 2 bH (.slice base es.length ec) es) (jJ:Rd Hs pb [.int .i64 n,.slice base es.length ec,.slice (some ⟨ob,0,some 1⟩) m oc]) (K6:pb < lo) (Ge:ob < lo) (hg:GS Hs (pb + 1) lo ob (fY es m (2 * es.length)))
  (hs:an Hs H lo) (ts:TS H lo nx tb bb fb bc fc m ov xs by_ far) (bf:Bf es m s 0 (fun _ _=>False) far xs)
  (aC:∀σ H' nx' U0 QC Qf J3,aT [(S4,.pointer (some ⟨rb,0,none⟩)),(S5,.pointer (some ⟨tb,0,none⟩))] σ→
   an Hs H' lo→TS H' lo nx' tb bb fb bc fc m U0 QC Qf J3→Bf es m s QC.length (fun _ _=>False) J3 QC→nx≤nx'→Q (.exit 0) σ H' nx') :
  WC A (.loop PV) [([],.pointer (some ⟨pb,0,none⟩)),(S4,.pointer (some ⟨rb,0,none⟩)),(S5,.pointer (some ⟨tb,0,none⟩)),(S6,.int .i64 0)] H nx Q:=by
 have eB:=hm.2.2.1
 have b9:=hm.2.1
 refine WC.loop (α:=Nat×Value×List Int×List Int×List Int) (fun k=>[([],.pointer (some ⟨pb,0,none⟩)),(S4,.pointer (some ⟨rb,0,none⟩)),(S5,.pointer (some ⟨tb,0,none⟩)),(S6,.int .i64 ((k.1:Nat):Int))])
  (fun k H' nx'=>k.1≤k.2.2.1.length∧nx≤nx'∧an Hs H' lo∧TS H' lo nx' tb bb fb bc fc m k.2.1 k.2.2.1 k.2.2.2.1 k.2.2.2.2∧Bf es m s k.1 (fun _ _=>False) k.2.2.2.2 k.2.2.1) (fun k=>m - k.1)
  ?_ (0,ov,xs,by_,far) aN ⟨Nat.zero_le _,Nat.le_refl _,hs,ts,bf⟩
 rintro ⟨i,Wp,Mv,RK,uP⟩ H1 aY ⟨hi,jB,aS,Gi,Eg⟩
 simp only at hi Gi Eg ⊢
 have RM:Rd H1 tb _:=.inl Gi.rd
 have hfw:=Eg.NP
 obtain ⟨qb,qc,qcs,u3,_⟩:=Gi.ord
 rw [u3] at RM
 unfold PV
 repeat' (first|((first|refine WO.n rfl ?_|refine WO.k rfl ?_);(first|refine cI ?_|refine cH ?_|refine aJ ?_|refine aZ ?_|(refine dt (fun h=>?_) (fun h=>?_)<;>(try simp only [Int.ofNat_eq_natCast] at h))))|with_reducible (first|refine WO.nil ?_|refine WC.aa ?_|refine WC.seq ?_|refine WC.skip ?_|refine WC.exit ?_|refine WC.block ?_)|refine WC.ax rfl ?_|refine WC.ay rfl ?_|with_reducible (first|refine aA ?_|refine ef ?_))
 ·have sH:i < Mv.length:=by omega
  have iS:=List.getElem?_eq_getElem sH
  obtain ⟨v,hv,ve,Y5⟩:=Eg.IJ Mv[i] (List.getElem_mem sH)
  rw [hv] at iS
  obtain ⟨qb',qc',abc,zz,hq0,sE,ZO,hqx⟩:=Gi.ord.cell iS
  rw [u3] at zz
  cases zz
  have V0:Rd H1 qb _:=.inl ZO
  have yB:=aS.rd K6 jJ
  obtain ⟨us,u,yO,yQ,Qs,vf⟩:=hg.row (v:=v) (by rw [dH];exact ve)
  rw [dH] at yO
  rw [kO ve] at vf
  obtain ⟨ub,uc,hu⟩:=lJ vf
  have Qt:Rd H1 ob us:=aS.rd Ge (.inl yQ)
  rw [hu] at Qs vf
  have AW:=fm (es:=es) (k:=2 * es.length) (v:=v)
  have Qw:Mk uP v:=(Eg.RN v).2 (by rw [← hv];exact List.getElem_mem sH)
  repeat' (first|((first|refine WO.n rfl ?_|refine WO.k rfl ?_);(first|refine aK ?_|refine cI ?_|refine cH ?_|refine aJ ?_|refine bj ?_|refine aZ ?_|refine lD ?_))|with_reducible (first|refine WO.nil ?_|refine WC.aa ?_|refine WC.seq ?_|refine WC.block ?_|refine aA ?_))
  refine WC.sub aN (bfI (rb:=rb) pS j2 uQ mT hm ee he jJ K6 ve Y5 vf aS Gi (Eg.QB iS) sH Qw (fun σ H2 nx2 ov2 xs2 by2 ZP hσ bI ts2 bf2 Qm fq=>?_))
  refine ew (dY (aA (WC.sub hσ ?_)))
  repeat' (first|((first|refine WO.n rfl ?_|refine WO.k rfl ?_);(first|refine aK ?_|refine ba ?_))|with_reducible (first|refine WO.nil ?_|refine WC.aa ?_))
  exact ⟨(i + 1,ov2,xs2,by2,ZP),by show m - (i + 1) < m - i;omega,.cons rfl aN,by show i + 1≤xs2.length;omega,by omega,bI,ts2,bf2⟩
 ·have:i=Mv.length:=by omega
  subst this
  exact aC _ _ _ Wp Mv RK uP aN aS Gi Eg jB
theorem yE {f:FuncId} (hf:A.funcs f=some mJ) (hh:∀vs H nx,A.aH f vs H nx=none) (pS:A.funcs 103=some yh) (j2:∀vs H nx,A.aH 103 vs H nx=none) (uQ:A.funcs 104=some rK) (mT:∀vs H nx,A.aH 104 vs H nx=none)
  (CU:A.funcs 102=some wS) (uR:∀vs H nx,A.aH 102 vs H nx=none) (J1:A.funcs 79=some lG) (uO:∀vs H nx,A.aH 79 vs H nx=none)
  {n:Int} {m s pb ob oc:Nat} {es:List Ed} {base:Option Addr} {ec:Nat} (hm:kp n es) (ee:n=(m:Int)) (hs:s < m) (he:bP H nx 2 bH (.slice base es.length ec) es) (jJ:Rd H pb [.int .i64 n,.slice base es.length ec,.slice (some ⟨ob,0,some 1⟩) m oc]) (K6:pb < nx) (Ge:ob < nx) (hg:GS H (pb + 1) nx ob (fY es m (2 * es.length))) :
  WF A f [.pointer (some ⟨pb,0,none⟩),.int .i64 (s:Int)] H nx fun v H' nx'=>∃ov bv fv lv xs,v=.agg #[ov,bv,fv,lv]∧pQ H' nx nx' ov xs∧(∀w:Nat,(w:Int)∈xs↔Reach es s w)∧(∀x∈xs,∃q:Nat,x=(q:Int)∧q < m)∧xs.length≤m∧an H H' nx∧nx≤nx':=by
 have b9:=hm.2.1
 subst ee
 refine WF.enter (hh _ _ _) hf ?_
 repeat' (first|((first|refine WO.n rfl ?_|refine WO.k rfl ?_);(first|refine cI ?_|refine uw ?_|refine aJ ?_|refine lD ?_))|with_reducible (first|refine WO.nil ?_|refine WC.aa ?_|refine WC.seq ?_|refine aA ?_))
 have bg:an H (aI H nx [.slice none 0 0,.slice none 0 0,.slice none 0 0,.slice none 0 0]) nx:=an.refl.set (Nat.le_refl _)
 have ZQ:=bg.rd K6 jJ
 repeat' (fail)
 refine WO.cn rfl ?_
 refine (Gh CU uR J1 uO (m:=m) (by omega) hs).of ?_
 rintro _ H1 aY ⟨qb,bb,bc,fb,fc,rfl,g1,g2,g3,g4,g5,g6,g7,aS⟩
 repeat' (first|((first|refine WO.n rfl ?_|refine WO.k rfl ?_);(first|refine aK ?_|refine uw ?_|refine iQ ?_))|with_reducible (first|refine WO.nil ?_|refine WC.aa ?_|refine WC.seq ?_|refine WC.block ?_|refine aA ?_))
 refine WC.sub aN (bfO (rb:=nx) (tb:=aY) (lo:=nx + 1) (Hs:=aI H nx [.slice none 0 0,.slice none 0 0,.slice none 0 0,.slice none 0 0]) (ov:=.slice (some ⟨qb,0,some 1⟩) 1 (2 * 1 + 1)) (xs:=[(s:Int)]) (by_:=List.replicate m (-1)) (far:=(List.replicate m (-1)).set s 0) (bb:=bb) (fb:=fb) (bc:=bc) (fc:=fc) pS j2 uQ mT hm rfl ((he.same bg).up (Nat.le_succ _)) ZQ (by omega) (by omega)
  (hg.frame (by rw [ak,if_neg (by omega)]) (fun b _ hb=>by rw [ak,if_neg (by omega)]) (Nat.le_succ _)) ((aS.set (by omega)).set (by omega))
  ⟨aw,⟨qb,_,_,rfl,g4,by omega,cy (by omega) (cy (by omega) g1),rfl,(by show 1≤aE (2 * 1 + 1);decide),rfl⟩,cy (by omega) (cy (by omega) g2),cy (by omega) (cy (by omega) g3),by simp,by simp,fun e=>by cases e;omega,fun e=>by cases e;omega,fun e=>by cases e;omega,g6,g7,by omega,by omega⟩ (Bf.start hs)
  (fun σ H3 iY ZN xs3 by3 abd hσ eL RP ZR se=>?_))
 refine ew (aA (WC.sub hσ ?_))
 have jo:ao H3 (at_ nx)=some (.cells [.slice none 0 0,.slice none 0 0,.slice none 0 0,.slice none 0 0]):=(eL nx (by omega)).trans aw
 have RM:Rd H3 aY _:=.inl RP.rd
 have hof:=RP.ord
 obtain ⟨ob3,oc3,abe,U2,_⟩:=hof
 have d6:=RP.d6
 have ZS:=RP.ord
 rw [U2] at RM
 repeat' (first|(refine WO.n rfl ?_;(first|refine aJ ?_|refine iQ ?_))|with_reducible (first|refine WO.nil ?_|refine WC.aa ?_|refine WC.seq ?_|refine WC.ret ?_|refine aA ?_))
 refine kP rfl aw rfl ⟨ZN,_,_,_,xs3,by rw [U2];rfl,?_,fun w=>ZR.done,fun x hx=>?_,?_,fun b hb=>?_,by omega⟩
 ·obtain ⟨b,c,cs,e,h1,h2,h3,h4⟩:=ZS
  exact ⟨b,c,cs,e,by omega,h2,cy (by omega) h3,h4⟩
 ·obtain ⟨q,q1,q2,_⟩:=ZR.IJ x hx
  exact ⟨q,q1,q2⟩
 ·have:=ZR.NP;omega
 ·rw [ak,if_neg (by omega),eL b (by omega),ak,if_neg (by omega)]
end Go.Eng

namespace Go.Eng
variable {A:aG} {H H':Heap} {nx nx':Nat} {σ:aP} {L:List Value} {Q:cw}
set_option maxRecDepth 100000
def Eh (c:List Int) (N:Int) (l:List Int):List Int:=l.foldl (fun c x=>c.set x.toNat N) c
theorem J4 {c l:List Int} {N x:Int} {k:Nat} (h:l[k]?=some x):Eh c N (l.take (k + 1))=(Eh c N (l.take k)).set x.toNat N:=by
 unfold Eh
 rw [List.take_add_one,h,List.foldl_append];rfl
theorem Ei {N:Int}:∀{l c:List Int},(Eh c N l).length=c.length:=by
 intro l
 induction l with
 | nil=>intro c;rfl
 | cons x l ih=>
  intro c
  show (Eh (c.set x.toNat N) N l).length=_
  rw [ih,List.length_set]
theorem QD {N:Int} (hN:0≤N):∀{l c:List Int} {w:Nat},(∀x∈l,∃q:Nat,x=(q:Int)∧q < c.length)→(Mk (Eh c N l) w↔Mk c w∨(w:Int)∈l):=by
 intro l
 induction l with
 | nil=>intro c w _;exact ⟨.inl,fun h=>by rcases h with h|h;exact h;cases h⟩
 | cons x l ih=>
  intro c w hl
  obtain ⟨q,rfl,hq⟩:=hl x (by simp)
  show Mk (Eh (c.set (q:Int).toNat N) N l) w↔_
  rw [Int.toNat_natCast,ih (fun y hy=>by rw [List.length_set];exact hl y (by simp [hy])),Mk.set hq hN,List.mem_cons]
  constructor
  ·rintro ((rfl|h)|h)
   ·exact .inr (.inl rfl)
   ·exact .inl h
   ·exact .inr (.inr h)
  ·rintro (h|h|h)
   ·exact .inl (.inr h)
   ·exact .inl (.inl (by omega))
   ·exact .inr h
theorem wpI {m cb lo N v pb cc:Nat} {nv ov:Value} {c xs:List Int} {Hs:Heap} {nxb:Nat} (hN:N≤1048576) (nu:c.length=m) (hx:∀x∈xs,∃q:Nat,x=(q:Int)∧q < m) (ZT:xs.length≤1048576)
  (hc:au H cb c) (hs:an Hs H lo) (vp:lo≤cb) (zq:cb < nxb) (vn:nxb≤nx) (st:pQ H nxb nx ov xs)
  (aC:∀σ H' nx',aT [(S1,nv),(S5,.pointer (some ⟨pb,0,none⟩)),(S6,.slice (some ⟨cb,0,some 1⟩) m cc),(S7,.int .i64 ((N:Nat):Int)),(sM,.int .i64 ((m:Nat):Int)),(nF,.int .i64 ((v:Nat):Int))] σ→au H' cb (Eh c (N:Int) xs)→an Hs H' lo→nx≤nx'→Q (.exit 2) σ H' nx') :
  WC A (.loop PG) [(S1,nv),(S5,.pointer (some ⟨pb,0,none⟩)),(S6,.slice (some ⟨cb,0,some 1⟩) m cc),(S7,.int .i64 ((N:Nat):Int)),(sM,.int .i64 ((m:Nat):Int)),(nF,.int .i64 ((v:Nat):Int)),(AF,ov),(yd,.int .i64 ((xs.length:Nat):Int)),(G0,.int .i64 0)] H nx Q:=by
 refine WC.loop (α:=Nat) (fun k=>[(S1,nv),(S5,.pointer (some ⟨pb,0,none⟩)),(S6,.slice (some ⟨cb,0,some 1⟩) m cc),(S7,.int .i64 ((N:Nat):Int)),(sM,.int .i64 ((m:Nat):Int)),(nF,.int .i64 ((v:Nat):Int)),(AF,ov),(yd,.int .i64 ((xs.length:Nat):Int)),(G0,.int .i64 ((k:Nat):Int))])
  (fun k H' nx'=>k≤xs.length∧nx≤nx'∧au H' cb (Eh c (N:Int) (xs.take k))∧an Hs H' lo∧pQ H' nxb nx' ov xs) (fun k=>xs.length - k)
  ?_ 0 aN ⟨Nat.zero_le _,Nat.le_refl _,hc,hs,st⟩
 rintro k H1 aY ⟨hk,b9,iU,aS,dd⟩
 have Qx:ao H1 (at_ cb)=some (.cells ((Eh c (N:Int) (xs.take k)).map (.int .i64))):=iU
 have hlen:(Eh c (N:Int) (xs.take k)).length=m:=by rw [Ei];exact nu
 unfold PG
 repeat' (first|((first|refine WO.n rfl ?_|refine WO.k rfl ?_);(refine dt (fun h=>?_) (fun h=>?_)<;>(try simp only [Int.ofNat_eq_natCast] at h)))|with_reducible (first|refine WO.nil ?_|refine WC.aa ?_|refine WC.seq ?_|refine WC.skip ?_|refine WC.exit ?_|refine WC.block ?_)|refine WC.ax rfl ?_|refine WC.ay rfl ?_|with_reducible (first|refine aA ?_|refine ef ?_))
 ·have bF:k < xs.length:=by omega
  have iS:=List.getElem?_eq_getElem bF
  obtain ⟨w,hw,Mt⟩:=hx xs[k] (List.getElem_mem bF)
  rw [hw] at iS
  obtain ⟨qb,qc,qcs,rfl,hq0,sE,ZO,hqx⟩:=dd.cell iS
  have V0:Rd H1 qb _:=.inl ZO
  have bS:=J4 (c:=c) (N:=(N:Int)) iS
  rw [Int.toNat_natCast] at bS
  repeat' (first|((first|refine WO.n rfl ?_|refine WO.k rfl ?_);(first|refine aK ?_|refine bj ?_|refine aZ ?_|refine ep ?_|refine ba ?_))|with_reducible (first|refine WO.nil ?_|refine WC.aa ?_|refine aA ?_|refine dY ?_))
  refine ⟨k + 1,by omega,.cons rfl aN,by omega,by omega,?_,aS.set (by omega),dd.own (fun b hb=>by cases hb;rw [ak,if_neg (by omega)]) (Nat.le_refl _)⟩
  rw [bS]
  unfold au
  rw [aw,List.map_set,Nat.zero_add,Nat.mul_one]
 ·have:k=xs.length:=by omega
  subst this
  rw [List.take_length] at iU
  exact aC _ _ _ aN iU aS b9
theorem wpO {n:Int} {m cb lo pb ob oc cc:Nat} {nv:Value} {es:List Ed} {base:Option Addr} {ec:Nat} {c:List Int} {Hs:Heap} (U3:A.funcs 80=some mJ) (J5:∀vs H nx,A.aH 80 vs H nx=none) (pS:A.funcs 103=some yh) (j2:∀vs H nx,A.aH 103 vs H nx=none) (uQ:A.funcs 104=some rK) (mT:∀vs H nx,A.aH 104 vs H nx=none)
  (CU:A.funcs 102=some wS) (uR:∀vs H nx,A.aH 102 vs H nx=none) (J1:A.funcs 79=some lG) (uO:∀vs H nx,A.aH 79 vs H nx=none)
  (hm:kp n es) (ee:n=(m:Int)) (he:bP Hs lo 2 bH (.slice base es.length ec) es) (jJ:Rd Hs pb [.int .i64 n,.slice base es.length ec,.slice (some ⟨ob,0,some 1⟩) m oc]) (K6:pb < lo) (Ge:ob < lo) (hg:GS Hs (pb + 1) lo ob (fY es m (2 * es.length)))
  (nu:c.length=m) (hc0:∀w,w < m→(Mk c w↔Old es 0 w)) (hc:au H cb c) (hs:an Hs H lo) (vp:lo≤cb) (zq:cb < nx)
  (aC:∀σ H' nx',aT [(S6,.slice (some ⟨cb,0,some 1⟩) m cc),(S7,.int .i64 ((cE es m:Nat):Int))] σ→an Hs H' lo→nx≤nx'→Q (.exit 0) σ H' nx') :
  WC A (.loop PH) [(S1,nv),(S5,.pointer (some ⟨pb,0,none⟩)),(S6,.slice (some ⟨cb,0,some 1⟩) m cc),(S7,.int .i64 0),(sM,.int .i64 ((m:Nat):Int)),(nF,.int .i64 0)] H nx Q:=by
 have b9:=hm.2.1
 refine WC.loop (α:=Nat×List Int) (fun k=>[(S1,nv),(S5,.pointer (some ⟨pb,0,none⟩)),(S6,.slice (some ⟨cb,0,some 1⟩) m cc),(S7,.int .i64 ((cE es k.1:Nat):Int)),(sM,.int .i64 ((m:Nat):Int)),(nF,.int .i64 ((k.1:Nat):Int))])
  (fun k H' nx'=>k.1≤m∧nx≤nx'∧au H' cb k.2∧an Hs H' lo∧k.2.length=m∧∀w,w < m→(Mk k.2 w↔Old es k.1 w)) (fun k=>m - k.1)
  ?_ (0,c) aN ⟨Nat.zero_le _,Nat.le_refl _,hc,hs,nu,hc0⟩
 rintro ⟨s,c1⟩ H1 aY ⟨hk,jB,iU,aS,yD,D8⟩
 simp only at hk iU yD D8 ⊢
 have UX:=jc (es:=es) (k:=s)
 have Qx:ao H1 (at_ cb)=some (.cells (c1.map (.int .i64))):=iU
 subst ee
 unfold PH
 repeat' (first|((first|refine WO.n rfl ?_|refine WO.k rfl ?_);(first|refine aK ?_|refine aZ ?_|(refine dt (fun h=>?_) (fun h=>?_)<;>(try simp only [Int.ofNat_eq_natCast] at h))))|with_reducible (first|refine WO.nil ?_|refine WC.aa ?_|refine WC.seq ?_|refine WC.skip ?_|refine WC.exit ?_|refine WC.block ?_)|refine WC.ax rfl ?_|refine WC.ay rfl ?_|with_reducible (first|refine aA ?_|refine ef ?_))
 ·have oG:s < m:=by omega
  have w8:=List.getElem?_eq_getElem (show s < c1.length by omega)
  generalize c1[s]=x at w8
  have tX:=au.cell w8
  repeat' (first|((first|refine WO.n rfl ?_|refine WO.k rfl ?_);(first|refine aK ?_|refine bj ?_|(refine IU (fun h=>?_) (fun h=>?_)<;>(try simp only [Int.ofNat_eq_natCast] at h))|refine ba ?_))|with_reducible (first|refine WO.nil ?_|refine WC.aa ?_|refine WC.seq ?_|refine WC.skip ?_|refine WC.exit ?_)|refine WC.ax rfl ?_|refine WC.ay rfl ?_|with_reducible (first|refine aA ?_|refine ef ?_|refine ew ?_))
  ·have ho:Old es s s:=(D8 s oG).1 ⟨x,w8,by omega⟩
   refine ⟨(s + 1,c1),by show m - (s + 1) < m - s;omega,.cons rfl (.cons rfl (.cons rfl (.cons ?_ (.cons rfl (.cons rfl (.nil _)))))),by show s + 1≤m;omega,by omega,iU,aS,yD,fun w hw=>by rw [Old.same ho];exact D8 w hw⟩
   show some _=some _
   rw [lK ho]
  ·have mm:¬Old es s s:=fun ho=>Mk.not w8 (by omega) ((D8 s oG).2 ho)
   refine WO.cn rfl ?_
   refine (yE U3 J5 pS j2 uQ mT CU uR J1 uO hm rfl oG ((he.same aS).up (by omega)) (aS.rd K6 jJ) (by omega) (by omega) (hg.frame (aS ob Ge) (fun b _ hb=>aS b hb) (by omega))).of ?_
   rintro _ H2 nx2 ⟨ov,bv,fv,lv,xs,rfl,st,hxr,ZT,hxl,bI,fq⟩
   have qi:au H2 cb c1:=(bI cb (by omega)).trans iU
   have ZU:an Hs H2 lo:=aS.trans bI (by omega)
   obtain ⟨qb,qc,qcs,rfl,bS⟩:=id st
   repeat' (first|(refine WO.k rfl ?_;(first|refine aK ?_|refine wa2 ?_|refine cH ?_))|with_reducible (first|refine WO.nil ?_|refine WC.block ?_|refine aA ?_))
   refine WC.sub aN (wpI (v:=s) (pb:=pb) (nxb:=aY) (by omega) yD ZT (by omega) qi ZU vp (by omega) (by omega) st (fun σ H3 iY hσ w5 eL se=>?_))
   refine ew (aA (WC.sub hσ ?_))
   repeat' (first|((first|refine WO.n rfl ?_|refine WO.k rfl ?_);(first|refine aK ?_|refine ba ?_))|with_reducible (first|refine WO.nil ?_|refine WC.aa ?_|refine aA ?_|refine dY ?_))
   refine ⟨(s + 1,Eh c1 ((cE es s:Nat):Int) xs),by show m - (s + 1) < m - s;omega,.cons rfl (.cons rfl (.cons rfl (.cons ?_ (.cons rfl (.cons rfl (.nil _)))))),by show s + 1≤m;omega,by omega,w5,eL,by show (Eh _ _ _).length=m;rw [Ei];exact yD,fun w hw=>?_⟩
   ·show some _=some _
    rw [jD mm]
   ·show Mk (Eh c1 _ xs) w↔_
    rw [QD (by omega) (fun y hy=>by rw [yD];exact ZT y hy),Old.succ,D8 w hw,hxr w]
 ·have:s=m:=by omega
  subst this
  exact aC _ _ _ aN aS jB
theorem rO {f:FuncId} (hf:A.funcs f=some yi) (hh:∀vs H nx,A.aH f vs H nx=none) (G4:A.funcs 43=some rJ) (sg:∀vs H nx,A.aH 43 vs H nx=none) (ZV:A.funcs 78=some LV) (QE:∀vs H nx,A.aH 78 vs H nx=none) (U3:A.funcs 80=some mJ) (J5:∀vs H nx,A.aH 80 vs H nx=none) (pS:A.funcs 103=some yh) (j2:∀vs H nx,A.aH 103 vs H nx=none) (uQ:A.funcs 104=some rK) (mT:∀vs H nx,A.aH 104 vs H nx=none)
  (CU:A.funcs 102=some wS) (uR:∀vs H nx,A.aH 102 vs H nx=none) (J1:A.funcs 79=some lG) (uO:∀vs H nx,A.aH 79 vs H nx=none)
  {n:Int} {m:Nat} {ev:Value} {es:List Ed} (hm:kp n es) (ee:n=(m:Int)) (he:bP H nx 2 bH ev es) :
  WF A f [.agg #[.int .i64 n,ev]] H nx fun v H' nx'=>∃u,v=oneOf [u,.int .i64 ((cE es m:Nat):Int),.int .i64 0]∧an H H' nx∧nx≤nx':=by
 obtain ⟨base,ec,rfl⟩:=he.form
 have b9:=hm.2.1
 subst ee
 refine WF.enter (hh _ _ _) hf ?_
 repeat' (first|((first|refine WO.n rfl ?_|refine WO.k rfl ?_);(first|refine aK ?_|refine jL ?_|refine aJ ?_))|with_reducible (first|refine WO.nil ?_|refine WC.aa ?_|refine WC.seq ?_|refine aA ?_))
 have bg:an H (aI H nx [.int .i64 (m:Int),.slice base es.length ec]) nx:=an.refl.set (Nat.le_refl _)
 refine WO.cn rfl ?_
 refine (qT G4 sg ((he.same bg).up (Nat.le_succ _))).of ?_
 rintro _ H1 aY ⟨rfl,aS,jB⟩
 rw [decide_eq_true hm]
 have bn:an H H1 nx:=bg.trans aS (by omega)
 have dJ:Rd H1 nx [.int .i64 (m:Int),.slice base es.length ec]:=aS.rd (by omega) Rd.self
 repeat' (first|((first|refine WO.n rfl ?_|refine WO.k rfl ?_);(first|refine rH ?_|refine aJ ?_))|with_reducible (first|refine WO.nil ?_|refine WC.aa ?_|refine WC.seq ?_|refine WC.skip ?_)|refine WC.ay rfl ?_|with_reducible refine aA ?_)
 refine WO.cn rfl ?_
 refine (JW ZV QE hm rfl ((he.same bn).up (by omega))).of ?_
 rintro _ H2 nx2 ⟨ob,oc,pb,rfl,O0,QA,A1,ZW,jJ,hg,bI,fq⟩
 have bt:an H H2 nx:=bn.trans bI (by omega)
 have j8:Rd H2 nx [.int .i64 (m:Int),.slice base es.length ec]:=bI.rd (by omega) dJ
 repeat' (first|((first|refine WO.n rfl ?_|refine WO.k rfl ?_);(first|refine aK ?_|refine cI ?_|refine aJ ?_))|with_reducible (first|refine WO.nil ?_|refine WC.aa ?_|refine WC.seq ?_|refine aA ?_))
 refine WO.cn rfl ?_
 refine (mS J1 uO (m:=m) (x:=-1) (by omega)).of ?_
 rintro _ H3 iY ⟨cb,cc,rfl,K8,UY,Qz,Qx,eL⟩
 repeat' (first|(refine WO.k rfl ?_;(first|refine aK ?_|refine cH ?_))|with_reducible (first|refine WO.nil ?_|refine WC.aa ?_|refine WC.seq ?_|refine WC.block ?_|refine aA ?_))
 refine WC.sub aN (wpO (lo:=nx2) (Hs:=H2) (c:=List.replicate m (-1)) U3 J5 pS j2 uQ mT CU uR J1 uO hm rfl ((he.same bt).up (by omega)) jJ ZW (by omega) hg (by simp) (fun w hw=>⟨fun ⟨x,h1,h2⟩=>by rw [List.getElem?_replicate,if_pos hw] at h1;cases h1;omega,fun h=>(Old.zero h).elim⟩) Qx eL UY Qz (fun σ H4 J6 hσ rL G1=>?_))
 refine ew (aA (WC.sub hσ ?_))
 repeat' (first|(refine WO.k rfl ?_;refine aK ?_)|with_reducible (first|refine WO.nil ?_|refine WC.aa ?_|refine WC.seq ?_|refine WC.ret ?_|refine aA ?_))
 exact az (vs:=[_,_,_]) rfl ⟨_,rfl,bt.trans rL (by omega),by omega⟩
end Go.Eng

namespace Go.Eng
variable {A:aG} {H H':Heap} {nx nx':Nat} {σ:aP} {L:List Value} {Q:cw}
set_option maxRecDepth 100000
noncomputable def fB (es:List Ed) (r:List (List Int)) (m:Nat):Int:=
 IntKind.i64.wrap (Int.tdiv (((2 * cE es m:Nat):Int) - (m:Int) + ((es.length:Nat):Int) - (((aD es r).length:Nat):Int)) 2)
theorem A2 {f:FuncId} (hf:A.funcs f=some sP) (hh:∀vs H nx,A.aH f vs H nx=none) (RQ:A.funcs 24=some pF) (Gj:∀vs H nx,A.aH 24 vs H nx=none) (Ee:A.funcs 53=some LU) (pR:∀vs H nx,A.aH 53 vs H nx=none)
  (NR:A.funcs 51=some qR) (AZ:∀vs H nx,A.aH 51 vs H nx=none) (NS:A.funcs 52=some wR) (A0:∀vs H nx,A.aH 52 vs H nx=none)
  (si:A.funcs 33=some kL) (iF:∀vs H nx,A.aH 33 vs H nx=none)
  (Qr:A.funcs 12=some nf) (CQ:∀vs H nx,A.aH 12 vs H nx=none)
  (Mi:A.funcs 36=some uC) (yy:∀vs H nx,A.aH 36 vs H nx=none) (F8:A.funcs 35=some pE) (qW:∀vs H nx,A.aH 35 vs H nx=none)
  {n:Int} {m:Nat} {ev rv:Value} {es:List Ed} {r:List (List Int)} (g:bY n es r) (ok:dI (aD es r) (2 * es.length)) (ee:n=(m:Int)) (he:bP H nx 2 bH ev es) (hr:dZ H nx 1 aW rv r) (cD:bX r) :
  WF A f [.agg #[.int .i64 n,ev],rv] H nx fun v H' nx'=>v=.int .i64 (fB es r m)∧an H H' nx∧nx≤nx':=by
 have hm:=g.may
 obtain ⟨m0,m1,m2,_⟩:=g.may
 obtain ⟨base,ec,rfl⟩:=he.form
 obtain ⟨bu,rc,rfl⟩:=hr.form
 subst ee
 refine WF.enter (hh _ _ _) hf ?_
 repeat' (first|((first|refine WO.n rfl ?_|refine WO.k rfl ?_);(first|refine aK ?_|refine jL ?_|refine aJ ?_))|with_reducible (first|refine WO.nil ?_|refine WC.aa ?_|refine WC.seq ?_|refine aA ?_))
 have bg:an H (aI H nx [.int .i64 (m:Int),.slice base es.length ec]) nx:=an.refl.set (Nat.le_refl _)
 refine WO.cn rfl ?_
 refine (rM RQ Gj Ee pR NR AZ NS A0 si iF hm rfl ((he.same bg).up (Nat.le_succ _))).of ?_
 rintro _ H1 aY ⟨u,rfl,aS,b9⟩
 have bn:an H H1 nx:=bg.trans aS (by omega)
 have dJ:Rd H1 nx [.int .i64 (m:Int),.slice base es.length ec]:=aS.rd (by omega) Rd.self
 have UX:=jc (es:=es) (k:=m)
 have Ml:=ok.Bz
 repeat' (first|((first|refine WO.n rfl ?_|refine WO.k rfl ?_);(first|refine aK ?_|refine AA ?_|refine cI ?_|refine cH ?_|refine aJ ?_|refine qN ?_|refine qO ?_|refine pA ?_))|with_reducible (first|refine WO.nil ?_|refine WC.drawn ?_|refine WC.seq ?_|refine aA ?_))
 refine WO.ca rfl ?_
 refine (mQ Qr CQ Mi yy F8 qW g ((he.same bn).up (by omega)) ((hr.same bn).up (by omega)) cD (by omega)).of ?_
 rintro fv H2 nx2 ⟨nx0,r9,fq,hL,bI⟩
 obtain ⟨fb,fc,rfl⟩:=hL.form
 have j8:Rd H2 nx [.int .i64 (m:Int),.slice base es.length ec]:=bI.rd (by omega) dJ
 have NJ:km (.slice base es.length ec) (.slice base es.length ec)=true:=by
  obtain ⟨DQ,c',q1,q2,_⟩:=he
  cases q1
  cases base with
  | none=>obtain ⟨p1,rfl⟩:=q2 rfl;rw [p1];rfl
  | some a=>simp [km,fa]
 refine ⟨?_,?_⟩
 ·first
   | exact bk.look rfl j8 rfl rfl NJ (bk.look rfl j8 rfl rfl (by simp [km,fa]) .nil)
   | exact bk.look rfl j8 rfl rfl (by simp [km,fa]) (bk.look rfl j8 rfl rfl NJ .nil)
 repeat' (refine WO.n rfl ?_;(first|refine cH ?_|refine pA ?_))
 refine WO.n rfl ?_
 refine aM.of (Act.OQ rfl rfl (by decide)) ?_
 repeat' (first|(refine WO.k rfl ?_;refine aK ?_)|with_reducible (first|refine WO.nil ?_|refine WC.ret ?_|refine aA ?_|refine nD ?_))
 exact az (vs:=[_]) rfl ⟨rfl,bn.trans bI (by omega),by omega⟩
theorem CV {f:FuncId} (hf:A.funcs f=some Jz) (hh:∀vs H nx,A.aH f vs H nx=none)
  (UN:A.funcs 72=some pD) (JR:∀vs H nx,A.aH 72 vs H nx=none) (G4:A.funcs 43=some rJ) (sg:∀vs H nx,A.aH 43 vs H nx=none)
  (UO:A.funcs 73=some uD) (JS:∀vs H nx,A.aH 73 vs H nx=none) (CN:A.funcs 101=some qQ) (uJ:∀vs H nx,A.aH 101 vs H nx=none)
  (h56:A.funcs 56=some yi) (ZX:∀vs H nx,A.aH 56 vs H nx=none) (ZV:A.funcs 78=some LV) (QE:∀vs H nx,A.aH 78 vs H nx=none) (U3:A.funcs 80=some mJ) (J5:∀vs H nx,A.aH 80 vs H nx=none) (pS:A.funcs 103=some yh) (j2:∀vs H nx,A.aH 103 vs H nx=none) (uQ:A.funcs 104=some rK) (mT:∀vs H nx,A.aH 104 vs H nx=none)
  (CU:A.funcs 102=some wS) (uR:∀vs H nx,A.aH 102 vs H nx=none) (J1:A.funcs 79=some lG) (uO:∀vs H nx,A.aH 79 vs H nx=none)
  {n:Int} {ev rv:Value} {es:List Ed} {r:List (List Int)} (ok:bq n es r=0→dI (aD es r) (2 * es.length)) (he:bP H nx 2 bH ev es) (hr:dZ H nx 1 aW rv r) (cD:bX r) :
  WF A f [.agg #[.int .i64 n,ev],rv] H nx fun v H' nx'=>∃x,v=oneOf [x,.int .i64 (bq n es r)]∧(bq n es r=0→x=.int .i64 (fB es r n.toNat))∧an H H' nx∧nx≤nx':=by
 obtain ⟨base,ec,rfl⟩:=he.form
 obtain ⟨bu,rc,rfl⟩:=hr.form
 refine WF.enter (hh _ _ _) hf ?_
 repeat' (first|((first|refine WO.n rfl ?_|refine WO.k rfl ?_);(first|refine aK ?_|refine jL ?_|refine aJ ?_))|with_reducible (first|refine WO.nil ?_|refine WC.aa ?_|refine WC.seq ?_|refine aA ?_))
 have bg:an H (aI H nx [.int .i64 n,.slice base es.length ec]) nx:=an.refl.set (Nat.le_refl _)
 refine WO.cn rfl ?_
 refine (mN UN G4 JR sg ((he.same bg).up (Nat.le_succ _)) ((hr.same bg).up (Nat.le_succ _)) cD).of ?_
 rintro _ H1 aY ⟨rfl,aS,b9⟩
 have bn:an H H1 nx:=bg.trans aS (by omega)
 have dJ:Rd H1 nx [.int .i64 n,.slice base es.length ec]:=aS.rd (by omega) Rd.self
 repeat' (first|((first|refine WO.n rfl ?_|refine WO.k rfl ?_);(first|refine aK ?_|refine aJ ?_|(refine ke (fun h=>?_) (fun h=>?_)<;>(try simp only [Int.ofNat_eq_natCast] at h))))|with_reducible (first|refine WO.nil ?_|refine WC.aa ?_|refine WC.seq ?_|refine WC.skip ?_|refine WC.ret ?_)|refine WC.ax rfl ?_|refine WC.ay rfl ?_|with_reducible (first|refine aA ?_|refine dX ?_))
 ·have cG:=h
  exact az (vs:=[_,_]) rfl ⟨_,rfl,fun h0=>absurd h0 (by first|exact cG|omega),bn,by omega⟩
 have heq:=h
 have h0:bq n es r=0:=by omega
 have g:=cd h0
 have hm:=g.may
 obtain ⟨m0,m1,m2,_⟩:=g.may
 obtain ⟨m,rfl⟩:∃m:Nat,n=(m:Int):=⟨n.toNat,by omega⟩
 have Ml:=(ok h0).Bz
 have UX:=jc (es:=es) (k:=m)
 refine WO.cn rfl ?_
 refine (rO h56 ZX G4 sg ZV QE U3 J5 pS j2 uQ mT CU uR J1 uO hm rfl ((he.same bn).up (by omega))).of ?_
 rintro _ H2 nx2 ⟨u,rfl,bI,fq⟩
 have bt:an H H2 nx:=bn.trans bI (by omega)
 have j8:Rd H2 nx [.int .i64 (m:Int),.slice base es.length ec]:=bI.rd (by omega) dJ
 repeat' (first|((first|refine WO.n rfl ?_|refine WO.k rfl ?_);(first|refine aK ?_|refine AA ?_|refine cI ?_|refine cH ?_|refine aJ ?_|refine qN ?_|refine qO ?_|refine pA ?_))|with_reducible (first|refine WO.nil ?_|refine WC.drawn ?_|refine WC.seq ?_|refine aA ?_))
 refine WO.ca rfl ?_
 refine (oA UO JS CN uJ g ((he.same bt).up (by omega)) ((hr.same bt).up (by omega)) cD (by omega)).of ?_
 rintro fv H3 iY ⟨nx0,r9,se,hL,eL⟩
 obtain ⟨fb,fc,rfl⟩:=hL.form
 have yo:Rd H3 nx [.int .i64 (m:Int),.slice base es.length ec]:=eL.rd (by omega) j8
 have NJ:km (.slice base es.length ec) (.slice base es.length ec)=true:=by
  obtain ⟨DQ,c',q1,q2,_⟩:=he
  cases q1
  cases base with
  | none=>obtain ⟨p1,rfl⟩:=q2 rfl;rw [p1];rfl
  | some a=>simp [km,fa]
 refine ⟨?_,?_⟩
 ·first
   | exact bk.look rfl yo rfl rfl NJ (bk.look rfl yo rfl rfl (by simp [km,fa]) .nil)
   | exact bk.look rfl yo rfl rfl (by simp [km,fa]) (bk.look rfl yo rfl rfl NJ .nil)
 repeat' (refine WO.n rfl ?_;(first|refine cH ?_|refine pA ?_))
 refine WO.n rfl ?_
 refine aM.of (Act.OQ rfl rfl (by decide)) ?_
 repeat' (first|(refine WO.k rfl ?_;refine aK ?_)|with_reducible (first|refine WO.nil ?_|refine WC.ret ?_|refine aA ?_|refine nD ?_))
 rw [h0]
 exact az (vs:=[_,_]) rfl ⟨_,rfl,fun _=>rfl,bt.trans eL (by omega),by omega⟩
end Go.Eng

namespace Go.Eng
variable {A:aG} {H H':Heap} {nx nx':Nat} {σ:aP} {L:List Value} {Q:cw}
set_option maxRecDepth 100000
def fZ (es:List Ed) (m k:Nat):List Int:=(List.range m).map fun v=>((cg es k v).length:Int)
theorem fK {es:List Ed} {m k:Nat}:(fZ es m k).length=m:=by unfold fZ;simp
theorem fL {es:List Ed} {m k v:Nat} (hv:v < m):(fZ es m k)[v]?=some (((cg es k v).length:Nat):Int):=by
 unfold fZ
 rw [List.getElem?_map,List.getElem?_range hv];rfl
theorem w9 {es:List Ed} {m:Nat}:fZ es m 0=List.replicate m 0:=by
 apply List.ext_getElem?
 intro i
 by_cases hi:i < m
 ·rw [fL hi,List.getElem?_replicate,if_pos hi];rfl
 ·rw [List.getElem?_eq_none (by rw [fK];omega),List.getElem?_eq_none (by simp;omega)]
theorem qZ {es:List Ed} {m k v:Nat} (hv:v < m) (he:ct es k=(v:Int)):fZ es m (k + 1)=(fZ es m k).set v (((cg es k v).length + 1:Nat):Int):=by
 apply List.ext_getElem?
 intro i
 rw [List.getElem?_set]
 by_cases hi:i < m
 ·rw [fL hi,qX,fK]
  by_cases e:v=i
  ·subst e
   rw [if_pos rfl,if_pos hv,if_pos he,List.length_append];rfl
  ·rw [if_neg e,if_neg (by rw [he];omega),fL hi]
 ·rw [List.getElem?_eq_none (by rw [fK];omega)]
  by_cases e:v=i
  ·omega
  ·rw [if_neg e,List.getElem?_eq_none (by rw [fK];omega)]
theorem U4 {n:Int} {m nb lb lc:Nat} {es:List Ed} {base:Option Addr} {ec:Nat} {H0:Heap} (si:A.funcs 33=some kL) (iF:∀vs H nx,A.aH 33 vs H nx=none)
  (hm:kp n es) (ee:n=(m:Int)) (he:bP H0 nb 2 bH (.slice base es.length ec) es) (vn:nb < lb) (p5:lb < nx) (hs:an H0 H nb) (po:Rd H nb [.int .i64 n,.slice base es.length ec]) (hl:au H lb (fZ es m 0))
  (aC:∀σ H' nx',aT [(S3,.slice (some ⟨lb,0,some 1⟩) m lc)] σ→au H' lb (fZ es m (2 * es.length))→an H0 H' nb→nx≤nx'→Q (.exit 0) σ H' nx') :
  WC A (.loop Cv) [(S1,.pointer (some ⟨nb,0,none⟩)),(S3,.slice (some ⟨lb,0,some 1⟩) m lc),(S4,.int .i64 0)] H nx Q:=by
 have eB:=hm.2.2.1
 have b9:=hm.2.1
 refine WC.loop (α:=Nat) (fun k=>[(S1,.pointer (some ⟨nb,0,none⟩)),(S3,.slice (some ⟨lb,0,some 1⟩) m lc),(S4,.int .i64 ((k:Nat):Int))])
  (fun k H' nx'=>k≤2 * es.length∧nx≤nx'∧au H' lb (fZ es m k)∧an H0 H' nb∧Rd H' nb [.int .i64 n,.slice base es.length ec]) (fun k=>2 * es.length - k)
  ?_ 0 aN ⟨Nat.zero_le _,Nat.le_refl _,hl,hs,po⟩
 rintro q H1 aY ⟨hq,jB,gx,aS,hO⟩
 unfold Cv
 repeat' (first|((first|refine WO.n rfl ?_|refine WO.k rfl ?_);(first|refine cI ?_|refine cH ?_|refine aJ ?_|(refine dt (fun h=>?_) (fun h=>?_)<;>(try simp only [Int.ofNat_eq_natCast] at h))|refine qN ?_))|with_reducible (first|refine WO.nil ?_|refine WC.aa ?_|refine WC.seq ?_|refine WC.skip ?_|refine WC.exit ?_|refine WC.block ?_)|refine WC.ax rfl ?_|refine WC.ay rfl ?_|with_reducible (first|refine aA ?_|refine ef ?_))
 ·have bR:q < 2 * es.length:=by omega
  obtain ⟨v,hv,Wl⟩:=kk hm bR
  have ve:v < m:=by omega
  refine WO.cn rfl ?_
  refine (kN si iF ((he.same aS).up (show nb≤aY by omega)) bR (by omega)).of ?_
  rintro _ H2 nx2 ⟨rfl,bI,fq⟩
  have bt:an H0 H2 nb:=aS.trans bI (by omega)
  have pI:=bI.rd (by omega) hO
  have lX:ao H2 (at_ lb)=some (.cells ((fZ es m q).map (.int .i64))):=(bI lb (by omega)).trans gx
  have MZ:=fK (es:=es) (m:=m) (k:=q)
  have tX:=au.cell (fL (es:=es) (k:=q) ve)
  have AW:=fm (es:=es) (k:=q) (v:=v)
  rw [hv]
  repeat' (first|((first|refine WO.n rfl ?_|refine WO.k rfl ?_);(first|refine aK ?_|refine bj ?_|refine aZ ?_|refine ep ?_|refine ba ?_))|with_reducible (first|refine WO.nil ?_|refine WC.aa ?_|refine aA ?_|refine dY ?_))
  refine ⟨q + 1,by omega,.cons rfl aN,by omega,by omega,?_,bt.set (by omega),Rd.skip (by omega) pI⟩
  rw [qZ ve hv]
  unfold au
  rw [aw,List.map_set,Nat.zero_add,Nat.mul_one]
 ·have:q=2 * es.length:=by omega
  subst this
  exact aC _ _ _ aN gx aS jB
theorem xa {f:FuncId} (hf:A.funcs f=some JA) (hh:∀vs H nx,A.aH f vs H nx=none) (si:A.funcs 33=some kL) (iF:∀vs H nx,A.aH 33 vs H nx=none)
  {n:Int} {m:Nat} {ev:Value} {es:List Ed} (hm:kp n es) (ee:n=(m:Int)) (he:bP H nx 2 bH ev es) :
  WF A f [.agg #[.int .i64 n,ev]] H nx fun v H' nx'=>∃b c,v=.slice (some ⟨b,0,some 1⟩) m c∧m≤aE c∧nx≤b∧b < nx'∧au H' b (fZ es m (2 * es.length))∧an H H' nx∧nx≤nx':=by
 obtain ⟨base,ec,rfl⟩:=he.form
 have b9:=hm.2.1
 subst ee
 refine WF.enter (hh _ _ _) hf ?_
 repeat' (first|((first|refine WO.n rfl ?_|refine WO.k rfl ?_);(first|refine aK ?_|refine cI ?_|refine jL ?_|refine aJ ?_|refine mI ?_))|with_reducible (first|refine WO.nil ?_|refine WC.aa ?_|refine WC.seq ?_|refine WC.block ?_|refine aA ?_))
 have bg:an H (aI H nx [.int .i64 (m:Int),.slice base es.length ec]) nx:=an.refl.set (Nat.le_refl _)
 refine WC.sub aN (U4 (nb:=nx) (lb:=nx + 1) si iF hm rfl he (by omega) (by omega) (bg.set (by omega)) (Rd.skip (by omega) Rd.self) (by rw [w9];exact er aw) (fun σ H2 nx2 hσ hl bI fq=>?_))
 refine ew (aA (WC.sub hσ ?_))
 repeat' (first|(refine WO.k rfl ?_;refine aK ?_)|with_reducible (first|refine WO.nil ?_|refine WC.aa ?_|refine WC.seq ?_|refine WC.ret ?_|refine aA ?_))
 exact az (vs:=[_]) rfl ⟨nx + 1,_,rfl,by rw [dp];omega,by omega,by omega,hl,bI,by omega⟩
theorem ZY {n:Int} {m nb lb lc:Nat} {es:List Ed} {base:Option Addr} {ec:Nat} {H0:Heap}
  (hm:kp n es) (ee:n=(m:Int)) (he:bP H0 nb 2 bH (.slice base es.length ec) es) (vn:nb < lb) (p5:lb < nx) (hs:an H0 H nb) (hl:au H lb (fZ es m 0))
  (aC:∀σ H' nx',aT [(S3,.slice (some ⟨lb,0,some 1⟩) m lc)] σ→au H' lb (fZ es m (2 * es.length))→an H0 H' nb→nx≤nx'→Q (.exit 0) σ H' nx') :
  WC A (.loop Jv) [(S3,.slice (some ⟨lb,0,some 1⟩) m lc),(gu,.slice base es.length ec),(e8,.int .i64 ((es.length:Nat):Int)),(jM,.int .i64 0)] H nx Q:=by
 have eB:=hm.2.2.1
 have b9:=hm.2.1
 refine WC.loop (α:=Nat) (fun k=>[(S3,.slice (some ⟨lb,0,some 1⟩) m lc),(gu,.slice base es.length ec),(e8,.int .i64 ((es.length:Nat):Int)),(jM,.int .i64 ((k:Nat):Int))])
  (fun k H' nx'=>k≤es.length∧nx≤nx'∧au H' lb (fZ es m (2 * k))∧an H0 H' nb) (fun k=>es.length - k)
  ?_ 0 aN ⟨Nat.zero_le _,Nat.le_refl _,hl,hs⟩
 rintro e H1 aY ⟨hq,jB,gx,aS⟩
 unfold Jv
 repeat' (first|((first|refine WO.n rfl ?_|refine WO.k rfl ?_);(refine dt (fun h=>?_) (fun h=>?_)<;>(try simp only [Int.ofNat_eq_natCast] at h)))|with_reducible (first|refine WO.nil ?_|refine WC.aa ?_|refine WC.seq ?_|refine WC.skip ?_|refine WC.exit ?_|refine WC.block ?_)|refine WC.ax rfl ?_|refine WC.ay rfl ?_|with_reducible (first|refine aA ?_|refine ef ?_))
 ·have bR:e < es.length:=by omega
  obtain ⟨eb,eo,G2,rfl,mK,_,_,yS,vN⟩:=he.at (by intro e';rw [e'] at bR;simp at bR)
  have q3:=vN e _ (List.getElem?_eq_getElem bR)
  have F5:=aS.rd mK yS
  have kW:es.getD e (0,0)=es[e]:=by rw [List.getD_eq_getElem?_getD,List.getElem?_eq_getElem bR];rfl
  obtain ⟨v,hv,Wl⟩:=kk hm (show 2 * e < 2 * es.length by omega)
  obtain ⟨w,hw,hwn⟩:=kk hm (show 2 * e + 1 < 2 * es.length by omega)
  have ve:v < m:=by omega
  have Mt:w < m:=by omega
  have h1:es[e].1=(v:Int):=by
   rw [← hv];unfold ct;rw [if_pos (by omega),show (2 * e) / 2=e by omega,kW]
  have h2:es[e].2=(w:Int):=by
   rw [← hw];unfold ct;rw [if_neg (by omega),show (2 * e + 1) / 2=e by omega,kW]
  have ZZ:bH es[e]=[.int .i64 (v:Int),.int .i64 (w:Int)]:=by unfold bH;rw [h1,h2]
  rw [ZZ] at q3
  have lX:ao H1 (at_ lb)=some (.cells ((fZ es m (2 * e)).map (.int .i64))):=gx
  have MZ:=fK (es:=es) (m:=m) (k:=2 * e)
  have abf:=fK (es:=es) (m:=m) (k:=2 * e + 1)
  have tX:=au.cell (fL (es:=es) (k:=2 * e) ve)
  have Wr:=au.cell (fL (es:=es) (k:=2 * e + 1) Mt)
  have AW:=fm (es:=es) (k:=2 * e) (v:=v)
  have aaA:=fm (es:=es) (k:=2 * e + 1) (v:=w)
  have Iz:((fZ es m (2 * e)).map (Value.int .i64)).set (0 + v * 1) (.int .i64 (((cg es (2 * e) v).length + 1:Nat):Int))=(fZ es m (2 * e + 1)).map (.int .i64):=by
   rw [qZ ve hv,List.map_set,Nat.zero_add,Nat.mul_one]
  repeat' (first|((first|refine WO.n rfl ?_|refine WO.k rfl ?_);(first|refine uw ?_|refine aJ ?_|refine bj ?_|refine IT ?_|refine aZ ?_|refine ux ?_|refine ep ?_|refine iQ ?_|refine ba ?_))|with_reducible (first|refine WO.nil ?_|refine WC.aa ?_|refine WC.seq ?_|refine aA ?_))
  rw [Iz]
  repeat' (first|((first|refine WO.n rfl ?_|refine WO.k rfl ?_);(first|refine aK ?_|refine bj ?_|refine aZ ?_|refine ep ?_|refine ba ?_))|with_reducible (first|refine WO.nil ?_|refine WC.aa ?_|refine aA ?_|refine dY ?_))
  refine ⟨e + 1,by omega,.cons rfl aN,by omega,by omega,?_,((aS.set (by omega)).set (by omega)).set (by omega) |>.set (by omega)⟩
  rw [show 2 * (e + 1)=2 * e + 1 + 1 by omega,qZ Mt hw]
  unfold au
  rw [aw,List.map_set,Nat.zero_add,Nat.mul_one]
 ·have:e=es.length:=by omega
  subst this
  exact aC _ _ _ aN gx aS jB
theorem J7 {f:FuncId} (hf:A.funcs f=some P2) (hh:∀vs H nx,A.aH f vs H nx=none)
  {n:Int} {m:Nat} {ev:Value} {es:List Ed} (hm:kp n es) (ee:n=(m:Int)) (he:bP H nx 2 bH ev es) :
  WF A f [.agg #[.int .i64 n,ev]] H nx fun v H' nx'=>∃b c,v=.slice (some ⟨b,0,some 1⟩) m c∧m≤aE c∧nx≤b∧b < nx'∧au H' b (fZ es m (2 * es.length))∧an H H' nx∧nx≤nx':=by
 obtain ⟨base,ec,rfl⟩:=he.form
 have b9:=hm.2.1
 subst ee
 refine WF.enter (hh _ _ _) hf ?_
 repeat' (first|((first|refine WO.n rfl ?_|refine WO.k rfl ?_);(first|refine aK ?_|refine cI ?_|refine cH ?_|refine jL ?_|refine aJ ?_|refine mI ?_))|with_reducible (first|refine WO.nil ?_|refine WC.aa ?_|refine WC.seq ?_|refine WC.block ?_|refine aA ?_))
 have bg:an H (aI H nx [.int .i64 (m:Int),.slice base es.length ec]) nx:=an.refl.set (Nat.le_refl _)
 refine WC.sub aN (ZY (nb:=nx) (lb:=nx + 1) hm rfl he (by omega) (by omega) (bg.set (by omega)) (by rw [w9];exact er aw) (fun σ H2 nx2 hσ hl bI fq=>?_))
 refine ew (aA (WC.sub hσ ?_))
 repeat' (first|(refine WO.k rfl ?_;refine aK ?_)|with_reducible (first|refine WO.nil ?_|refine WC.aa ?_|refine WC.seq ?_|refine WC.ret ?_|refine aA ?_))
 exact az (vs:=[_]) rfl ⟨nx + 1,_,rfl,by rw [dp];omega,by omega,by omega,hl,bI,by omega⟩
end Go.Eng

namespace Go.Eng
variable {A:aG} {H H':Heap} {nx nx':Nat} {σ:aP} {L:List Value} {Q:cw}
set_option maxRecDepth 100000
noncomputable def dV (n:Int) (es:List Ed) (r:List (List Int)):Int:=if bq n es r=0 then (if fB es r n.toNat=0 then 0 else 5) else bq n es r
theorem A3 {f:FuncId} (hf:A.funcs f=some yj) (hh:∀vs H nx,A.aH f vs H nx=none) (Z0:A.funcs 49=some DY) (QF:∀vs H nx,A.aH 49 vs H nx=none) (UH:A.funcs 22=some Jy) (JL:∀vs H nx,A.aH 22 vs H nx=none)
  (Z1:A.funcs 50=some sP) (QG:∀vs H nx,A.aH 50 vs H nx=none) (RQ:A.funcs 24=some pF) (Gj:∀vs H nx,A.aH 24 vs H nx=none) (Ee:A.funcs 53=some LU) (pR:∀vs H nx,A.aH 53 vs H nx=none)
  (NR:A.funcs 51=some qR) (AZ:∀vs H nx,A.aH 51 vs H nx=none) (NS:A.funcs 52=some wR) (A0:∀vs H nx,A.aH 52 vs H nx=none)
  (si:A.funcs 33=some kL) (iF:∀vs H nx,A.aH 33 vs H nx=none)
  (Qr:A.funcs 12=some nf) (CQ:∀vs H nx,A.aH 12 vs H nx=none)
  (Mi:A.funcs 36=some uC) (yy:∀vs H nx,A.aH 36 vs H nx=none) (F8:A.funcs 35=some pE) (qW:∀vs H nx,A.aH 35 vs H nx=none)
  {n:Int} {ev rv:Value} {es:List Ed} {r:List (List Int)} (ok:bq n es r=0→dI (aD es r) (2 * es.length)) (he:bP H nx 2 bH ev es) (hr:dZ H nx 1 aW rv r) (cD:bX r) :
  WF A f [.agg #[.int .i64 n,ev],rv] H nx fun v H' nx'=>v=.int .i64 (dV n es r)∧an H H' nx∧nx≤nx':=by
 obtain ⟨base,ec,rfl⟩:=he.form
 obtain ⟨bu,rc,rfl⟩:=hr.form
 refine WF.enter (hh _ _ _) hf ?_
 repeat' (first|((first|refine WO.n rfl ?_|refine WO.k rfl ?_);(first|refine aK ?_|refine jL ?_|refine aJ ?_))|with_reducible (first|refine WO.nil ?_|refine WC.aa ?_|refine WC.seq ?_|refine aA ?_))
 have bg:an H (aI H nx [.int .i64 n,.slice base es.length ec]) nx:=an.refl.set (Nat.le_refl _)
 refine WO.cn rfl ?_
 refine (F6 Z0 UH si QF JL iF ((he.same bg).up (Nat.le_succ _)) ((hr.same bg).up (Nat.le_succ _)) cD).of ?_
 rintro _ H1 aY ⟨rfl,aS,b9⟩
 have bn:an H H1 nx:=bg.trans aS (by omega)
 have dJ:Rd H1 nx [.int .i64 n,.slice base es.length ec]:=aS.rd (by omega) Rd.self
 by_cases h0:bq n es r=0
 ·have g:=cd h0
  obtain ⟨m0,m1,m2,_⟩:=g.may
  obtain ⟨m,rfl⟩:∃m:Nat,n=(m:Int):=⟨n.toNat,by omega⟩
  have hp:dV (m:Int) es r=if fB es r m=0 then 0 else 5:=by unfold dV;rw [if_pos h0];rfl
  rw [h0]
  repeat' (first|((first|refine WO.n rfl ?_|refine WO.k rfl ?_);(first|refine aK ?_|refine fX ?_|refine aJ ?_|(refine sJ (fun h=>?_) (fun h=>?_)<;>(try simp only [Int.ofNat_eq_natCast] at h))))|refine WO.cB rfl ?_|refine WO.jH rfl ?_|with_reducible (first|refine WO.nil ?_|refine WC.aa ?_|refine WC.seq ?_|refine WC.skip ?_|refine WC.ret ?_)|refine WC.ay rfl ?_|with_reducible refine aA ?_)
  ·refine WO.cn rfl ?_
   refine (A2 Z1 QG RQ Gj Ee pR NR AZ NS A0 si iF Qr CQ Mi yy F8 qW g (ok h0) rfl ((he.same bn).up (by omega)) ((hr.same bn).up (by omega)) cD).of ?_
   rintro _ H2 nx2 ⟨rfl,bI,fq⟩
   have bt:an H H2 nx:=bn.trans bI (by omega)
   repeat' (first|((first|refine WO.n rfl ?_|refine WO.k rfl ?_);(first|refine aK ?_|refine fX ?_|(refine ke (fun h=>?_) (fun h=>?_)<;>(try simp only [Int.ofNat_eq_natCast] at h))))|refine WO.cB rfl ?_|with_reducible (first|refine WO.nil ?_|refine WC.aa ?_|refine WC.seq ?_|refine WC.skip ?_|refine WC.ret ?_)|refine WC.ax rfl ?_|refine WC.ay rfl ?_|with_reducible (first|refine aA ?_|refine dX ?_))
   ·have cG:=h
    refine az (vs:=[_]) rfl ⟨?_,bt,by omega⟩
    rw [hp,if_neg (by first|exact cG|omega)];rfl
   ·have cG:=h
    refine az (vs:=[_]) rfl ⟨?_,bt,by omega⟩
    rw [hp,if_pos (by omega)];rfl
  ·omega
 ·have hp:dV n es r=bq n es r:=by unfold dV;rw [if_neg h0]
  repeat' (first|((first|refine WO.n rfl ?_|refine WO.k rfl ?_);(first|refine aK ?_|refine fX ?_|refine aJ ?_|(refine sJ (fun h=>?_) (fun h=>?_)<;>(try simp only [Int.ofNat_eq_natCast] at h))))|refine WO.cB rfl ?_|refine WO.jH rfl ?_|with_reducible (first|refine WO.nil ?_|refine WC.aa ?_|refine WC.seq ?_|refine WC.skip ?_|refine WC.ret ?_)|refine WC.ay rfl ?_|with_reducible refine aA ?_)
  ·omega
  ·exact az (vs:=[_]) rfl ⟨by rw [hp];rfl,bn,by omega⟩
end Go.Eng

namespace Go.Eng
variable {A:aG} {H H':Heap} {nx nx':Nat} {σ:aP} {L:List Value} {Q:cw}
set_option maxRecDepth 100000
def A4 (es:List Ed) (m:Nat):Prop:=∀v,v < m→(cg es (2 * es.length) v).length≤4
open Classical in
noncomputable def bK (n:Int) (es:List Ed) (r:List (List Int)):Int:=
 if dV n es r≠0 then dV n es r else if n < 2 then 9 else if cE es n.toNat≠1 then 6 else if A4 es n.toNat then 0 else 10
theorem adL {m nb lb lc:Nat} {es:List Ed} {ev:Value} {H0:Heap} (eB:es.length≤4000) (hm:m≤1024)
  (hs:an H0 H nb) (po:Rd H nb [.int .i64 (m:Int),ev]) (hl:au H lb (fZ es m (2 * es.length)))
  (cO:∀σ,¬A4 es m→aT [(S4,.int .i64 10)] σ→Q .ret σ H nx)
  (aC:∀σ,A4 es m→Q (.exit 0) σ H nx) :
  WC A (.loop O8) [(S2,.pointer (some ⟨nb,0,none⟩)),(S8,.slice (some ⟨lb,0,some 1⟩) m lc),(S9,.int .i64 0)] H nx Q:=by
 refine WC.loop (α:=Nat) (fun k=>[(S2,.pointer (some ⟨nb,0,none⟩)),(S8,.slice (some ⟨lb,0,some 1⟩) m lc),(S9,.int .i64 ((k:Nat):Int))])
  (fun k H' nx'=>k≤m∧H'=H∧nx'=nx∧∀v,v < k→(cg es (2 * es.length) v).length≤4) (fun k=>m - k)
  ?_ 0 aN ⟨Nat.zero_le _,rfl,rfl,fun v h=>by omega⟩
 rintro k H1 aY ⟨hk,rfl,rfl,fV⟩
 have Ws:Rd H1 lb _:=.inl hl
 unfold O8
 repeat' (first|((first|refine WO.n rfl ?_|refine WO.k rfl ?_);(first|refine cI ?_|refine aJ ?_|refine aZ ?_|(refine dt (fun h=>?_) (fun h=>?_)<;>(try simp only [Int.ofNat_eq_natCast] at h))))|with_reducible (first|refine WO.nil ?_|refine WC.aa ?_|refine WC.seq ?_|refine WC.skip ?_|refine WC.exit ?_|refine WC.block ?_)|refine WC.ax rfl ?_|refine WC.ay rfl ?_|with_reducible (first|refine aA ?_|refine ef ?_))
 ·have tV:k < m:=by omega
  have tX:=au.cell (fL (es:=es) (k:=2 * es.length) tV)
  repeat' (first|((first|refine WO.n rfl ?_|refine WO.k rfl ?_);(first|refine aK ?_|refine bj ?_|(refine Bu (fun h=>?_) (fun h=>?_)<;>(try simp only [Int.ofNat_eq_natCast] at h))|refine ba ?_))|with_reducible (first|refine WO.nil ?_|refine WC.aa ?_|refine WC.seq ?_|refine WC.skip ?_|refine WC.ret ?_)|refine WC.ax rfl ?_|refine WC.ay rfl ?_|with_reducible (first|refine aA ?_|refine dX ?_|refine dY ?_|refine iA ?_))
  ·have TM:=h
   exact cO _ (fun hl4=>by have:=hl4 k tV;omega) aN
  ·have oG:=h
   exact ⟨k + 1,by omega,.cons rfl aN,by omega,rfl,rfl,fun v hv=>by
    rcases (show v < k∨v=k by omega) with h1|rfl
    ·exact fV v h1
    ·omega⟩
 ·have:k=m:=by omega
  subst this
  exact aC _ fV
theorem A5 {f:FuncId} (hf:A.funcs f=some DZ) (hh:∀vs H nx,A.aH f vs H nx=none) (Z0:A.funcs 49=some DY) (QF:∀vs H nx,A.aH 49 vs H nx=none) (UH:A.funcs 22=some Jy) (JL:∀vs H nx,A.aH 22 vs H nx=none)
  (Z1:A.funcs 50=some sP) (QG:∀vs H nx,A.aH 50 vs H nx=none) (RQ:A.funcs 24=some pF) (Gj:∀vs H nx,A.aH 24 vs H nx=none) (Ee:A.funcs 53=some LU) (pR:∀vs H nx,A.aH 53 vs H nx=none)
  (NR:A.funcs 51=some qR) (AZ:∀vs H nx,A.aH 51 vs H nx=none) (NS:A.funcs 52=some wR) (A0:∀vs H nx,A.aH 52 vs H nx=none)
  (si:A.funcs 33=some kL) (iF:∀vs H nx,A.aH 33 vs H nx=none)
  (Qr:A.funcs 12=some nf) (CQ:∀vs H nx,A.aH 12 vs H nx=none)
  (Mi:A.funcs 36=some uC) (yy:∀vs H nx,A.aH 36 vs H nx=none) (F8:A.funcs 35=some pE) (qW:∀vs H nx,A.aH 35 vs H nx=none)
  (h23:A.funcs 23=some yj) (Z2:∀vs H nx,A.aH 23 vs H nx=none) (h25:A.funcs 25=some JA) (Z3:∀vs H nx,A.aH 25 vs H nx=none)
  {n:Int} {ev rv:Value} {es:List Ed} {r:List (List Int)} (ok:bq n es r=0→dI (aD es r) (2 * es.length)) (he:bP H nx 2 bH ev es) (hr:dZ H nx 1 aW rv r) (cD:bX r) :
  WF A f [.agg #[.int .i64 n,ev],rv] H nx fun v H' nx'=>v=.int .i64 (bK n es r)∧an H H' nx∧nx≤nx':=by
 obtain ⟨base,ec,rfl⟩:=he.form
 obtain ⟨bu,rc,rfl⟩:=hr.form
 refine WF.enter (hh _ _ _) hf ?_
 repeat' (first|((first|refine WO.n rfl ?_|refine WO.k rfl ?_);(first|refine aK ?_|refine jL ?_|refine aJ ?_))|with_reducible (first|refine WO.nil ?_|refine WC.aa ?_|refine WC.seq ?_|refine aA ?_))
 have bg:an H (aI H nx [.int .i64 n,.slice base es.length ec]) nx:=an.refl.set (Nat.le_refl _)
 refine WO.cn rfl ?_
 refine (A3 h23 Z2 Z0 QF UH JL Z1 QG RQ Gj Ee pR NR AZ NS A0 si iF Qr CQ Mi yy F8 qW ok ((he.same bg).up (Nat.le_succ _)) ((hr.same bg).up (Nat.le_succ _)) cD).of ?_
 rintro _ H1 aY ⟨rfl,aS,b9⟩
 have bn:an H H1 nx:=bg.trans aS (by omega)
 have dJ:Rd H1 nx [.int .i64 n,.slice base es.length ec]:=aS.rd (by omega) Rd.self
 by_cases hp:dV n es r=0
 ·have h0:bq n es r=0:=by
   unfold dV at hp
   split at hp
   ·assumption
   ·omega
  have g:=cd h0
  have hm:=g.may
  obtain ⟨m0,m1,m2,_⟩:=g.may
  obtain ⟨m,rfl⟩:∃m:Nat,n=(m:Int):=⟨n.toNat,by omega⟩
  have ha:bK (m:Int) es r=if (m:Int) < 2 then 9 else if cE es m≠1 then 6 else (open Classical in if A4 es m then 0 else 10):=by
   unfold bK
   rw [if_neg (by omega)];rfl
  have UX:=jc (es:=es) (k:=m)
  rw [hp]
  repeat' (first|((first|refine WO.n rfl ?_|refine WO.k rfl ?_);(first|refine aK ?_|refine cI ?_|refine aJ ?_|(refine dt (fun h=>?_) (fun h=>?_)<;>(try simp only [Int.ofNat_eq_natCast] at h))|(refine ke (fun h=>?_) (fun h=>?_)<;>(try simp only [Int.ofNat_eq_natCast] at h))))|with_reducible (first|refine WO.nil ?_|refine WC.aa ?_|refine WC.seq ?_|refine WC.skip ?_|refine WC.ret ?_)|refine WC.ax rfl ?_|refine WC.ay rfl ?_|with_reducible (first|refine aA ?_|refine dX ?_))
  ·omega
  ·have bR:=h
   exact az (vs:=[_]) rfl ⟨by rw [ha,if_pos (by omega)];rfl,bn,by omega⟩
  have hge:=h
  rw [if_neg (by omega)] at ha
  refine WO.cn rfl ?_
  refine (rM RQ Gj Ee pR NR AZ NS A0 si iF hm rfl ((he.same bn).up (by omega))).of ?_
  rintro _ H2 nx2 ⟨u,rfl,bI,fq⟩
  have bt:an H H2 nx:=bn.trans bI (by omega)
  have j8:Rd H2 nx [.int .i64 (m:Int),.slice base es.length ec]:=bI.rd (by omega) dJ
  repeat' (first|((first|refine WO.n rfl ?_|refine WO.k rfl ?_);(first|refine aK ?_|refine AA ?_|refine aJ ?_|(refine ke (fun h=>?_) (fun h=>?_)<;>(try simp only [Int.ofNat_eq_natCast] at h))))|with_reducible (first|refine WO.nil ?_|refine WC.aa ?_|refine WC.seq ?_|refine WC.skip ?_|refine WC.ret ?_)|refine WC.ax rfl ?_|refine WC.ay rfl ?_|with_reducible (first|refine aA ?_|refine dX ?_))
  ·have bR:=h
   exact az (vs:=[_]) rfl ⟨by rw [ha,if_pos (by omega)];rfl,bt,by omega⟩
  have Ae:=h
  rw [if_neg (by omega)] at ha
  refine WO.cn rfl ?_
  refine (xa h25 Z3 si iF hm rfl ((he.same bt).up (by omega))).of ?_
  rintro _ H3 iY ⟨lb,lc,rfl,VO,UL,UM,hli,eL,se⟩
  have jC:an H H3 nx:=bt.trans eL (by omega)
  have yo:Rd H3 nx [.int .i64 (m:Int),.slice base es.length ec]:=eL.rd (by omega) j8
  repeat' (first|(refine WO.k rfl ?_;refine aK ?_)|with_reducible (first|refine WO.nil ?_|refine WC.aa ?_|refine WC.seq ?_|refine WC.block ?_|refine aA ?_))
  refine WC.sub aN (adL (nb:=nx) (m:=m) (H0:=H) (by omega) (by omega) jC yo hli (fun σ hl hσ=>?_) (fun σ hl=>?_))
  ·refine iA (dX ?_)
   exact cZ hσ (vs:=[_]) rfl ⟨by rw [ha,if_neg hl];rfl,jC,by omega⟩
  ·refine ew (aA ?_)
   repeat' (first|(refine WO.k rfl ?_;refine aK ?_)|with_reducible (first|refine WO.nil ?_|refine WC.aa ?_|refine WC.seq ?_|refine WC.ret ?_|refine aA ?_))
   exact az (vs:=[_]) rfl ⟨by rw [ha,if_pos hl];rfl,jC,by omega⟩
 ·have ha:bK n es r=dV n es r:=by unfold bK;rw [if_pos hp]
  repeat' (first|((first|refine WO.n rfl ?_|refine WO.k rfl ?_);(first|refine aK ?_|refine cI ?_|refine aJ ?_|(refine dt (fun h=>?_) (fun h=>?_)<;>(try simp only [Int.ofNat_eq_natCast] at h))|(refine ke (fun h=>?_) (fun h=>?_)<;>(try simp only [Int.ofNat_eq_natCast] at h))))|with_reducible (first|refine WO.nil ?_|refine WC.aa ?_|refine WC.seq ?_|refine WC.skip ?_|refine WC.ret ?_)|refine WC.ax rfl ?_|refine WC.ay rfl ?_|with_reducible (first|refine aA ?_|refine dX ?_))
  ·exact az (vs:=[_]) rfl ⟨by rw [ha];rfl,bn,by omega⟩
  all_goals (exfalso;omega)
end Go.Eng
