import Derived.Test.YtlffogombmhmfaaGreatWb
/- Walks over the program: part 3. -/

namespace Go.Eng
variable {A:aG} {H H':Heap} {nx nx':Nat} {σ:aP} {Q:ct}
set_option maxRecDepth 100000
def ff (m k:Nat) (x:Int):List Int:=List.replicate k x++List.replicate (m - k) 0
theorem xu {m k:Nat} {x:Int} (h:k < m):(ff m k x).set k x=ff m (k + 1) x:=by
 unfold ff
 rw [show m - k=(m - (k + 1)) + 1 by omega,List.replicate_succ,List.set_append_right _ _ (by simp)]
 rw [List.length_replicate,Nat.sub_self,List.set_cons_zero,List.replicate_succ',List.append_assoc]
 rfl
theorem BD {m k:Nat} {x:Int} (h:k≤m):(ff m k x).length=m:=by unfold ff;simp;omega
theorem Nv {m lb nb lc:Nat} {x:Int} {H0:Heap} (hm:m≤1048576) (hl:ay H lb (ff m 0 x)) (th:nb≤lb) (nG:lb < nx) (hs:an H0 H nb)
  (aN:∀σ H' nx',bg [(S5,.slice (some ⟨lb,0,some 1⟩) m lc)] σ→ay H' lb (List.replicate m x)→an H0 H' nb→nx≤nx'→Q (.exit 0) σ H' nx') :
  WC A (.loop pE) [(S1,.int .i64 x),(S5,.slice (some ⟨lb,0,some 1⟩) m lc),(dN,.int .i64 ((m:Nat):Int)),(fE,.int .i64 0)] H nx Q:=by
 refine WC.loop (α:=Nat) (fun k=>[(S1,.int .i64 x),(S5,.slice (some ⟨lb,0,some 1⟩) m lc),(dN,.int .i64 ((m:Nat):Int)),(fE,.int .i64 ((k:Nat):Int))])
  (fun k H' nx'=>k≤m∧nx≤nx'∧ay H' lb (ff m k x)∧an H0 H' nb) (fun k=>m - k)
  ?_ 0 aW ⟨Nat.zero_le _,Nat.le_refl _,hl,hs⟩
 rintro k H1 aT ⟨hk,cD,iA,a7⟩
 have GY:ak H1 (at_ lb)=some (.cells ((ff m k x).map (.int .i64))):=iA
 have hlen:=BD (x:=x) hk
 unfold pE
 repeat' (first|((first|refine WO.n rfl ?_|refine WO.k rfl ?_);(first|refine aK ?_|refine aZ ?_|refine fj ?_|(refine ei (fun h=>?_) (fun h=>?_)<;>(try simp only [Int.ofNat_eq_natCast] at h))|refine bO ?_))|with_reducible (first|refine WO.nil ?_|refine WC.aa ?_|refine WC.seq ?_|refine WC.skip ?_|refine WC.exit ?_|refine WC.block ?_)|refine WC.aB rfl ?_|refine WC.ax rfl ?_|with_reducible (first|refine aC ?_|refine dQ ?_|refine eT ?_))
 ·have wT:k < m:=by omega
  refine ⟨k + 1,by omega,.cons rfl aW,by omega,by omega,?_,a7.set (by omega)⟩
  rw [← xu wT]
  unfold ay
  rw [aq,List.map_set]
  congr 3
  first|done|rfl|omega
 ·have:k=m:=by omega
  subst this
  refine aN _ _ _ aW ?_ a7 cD
  have e:ff k k x=List.replicate k x:=by unfold ff;simp
  rw [← e];exact iA
theorem j4 {f:FuncId} (hf:A.funcs f=some iV) (hh:∀vs H nx,A.aF f vs H nx=none) {m:Nat} {x:Int} (hm:m≤1048576) :
  WF A f [.int .i64 (m:Int),.int .i64 x] H nx fun v H' nx'=>∃b c,v=.slice (some ⟨b,0,some 1⟩) m c∧m≤au c∧nx≤b∧b < nx'∧ay H' b (List.replicate m x)∧an H H' nx:=by
 refine WF.enter (hh _ _ _) hf ?_
 repeat' (first|((first|refine WO.n rfl ?_|refine WO.k rfl ?_);(first|refine aK ?_|refine cM ?_|refine mD ?_))|with_reducible (first|refine WO.nil ?_|refine WC.aa ?_|refine WC.seq ?_|refine WC.block ?_|refine aC ?_))
 refine WC.sub aW (Nv (nb:=nx) (lb:=nx) (by omega) (by have:=hO (H:=aw H nx (aU [.int .i64 0] m)) (b:=nx) aq;unfold ff;first|simpa using this|exact this) (by omega) (by omega) (an.refl.set (by omega)) (fun σ H2 nx2 hσ lR bL eW=>?_))
 refine eh (aC (WC.sub hσ ?_))
 repeat' (first|(refine WO.k rfl ?_;refine aK ?_)|with_reducible (first|refine WO.nil ?_|refine WC.aa ?_|refine WC.seq ?_|refine WC.ret ?_|refine aC ?_))
 exact az (vs:=[_]) rfl ⟨nx,_,rfl,by rw [cw];omega,by omega,by omega,lR,bL⟩
theorem Rj {m lb nb lc:Nat} {x:Int} {H0:Heap} (hm:m≤1048576) (hl:ay H lb (ff m 0 x)) (th:nb≤lb) (nG:lb < nx) (hs:an H0 H nb)
  (aN:∀σ H' nx',bg [(S5,.slice (some ⟨lb,0,some 1⟩) m lc)] σ→ay H' lb (List.replicate m x)→an H0 H' nb→nx≤nx'→Q (.exit 0) σ H' nx') :
  WC A (.loop yE) [([],.int .i64 (m:Int)),(S1,.int .i64 x),(S5,.slice (some ⟨lb,0,some 1⟩) m lc),(S6,.int .i64 0)] H nx Q:=by
 refine WC.loop (α:=Nat) (fun k=>[([],.int .i64 (m:Int)),(S1,.int .i64 x),(S5,.slice (some ⟨lb,0,some 1⟩) m lc),(S6,.int .i64 ((k:Nat):Int))])
  (fun k H' nx'=>k≤m∧nx≤nx'∧ay H' lb (ff m k x)∧an H0 H' nb) (fun k=>m - k)
  ?_ 0 aW ⟨Nat.zero_le _,Nat.le_refl _,hl,hs⟩
 rintro k H1 aT ⟨hk,cD,iA,a7⟩
 have GY:ak H1 (at_ lb)=some (.cells ((ff m k x).map (.int .i64))):=iA
 have hlen:=BD (x:=x) hk
 unfold yE
 repeat' (first|((first|refine WO.n rfl ?_|refine WO.k rfl ?_);(first|refine aK ?_|refine aZ ?_|refine fj ?_|(refine ei (fun h=>?_) (fun h=>?_)<;>(try simp only [Int.ofNat_eq_natCast] at h))|refine bO ?_))|with_reducible (first|refine WO.nil ?_|refine WC.aa ?_|refine WC.seq ?_|refine WC.skip ?_|refine WC.exit ?_|refine WC.block ?_)|refine WC.aB rfl ?_|refine WC.ax rfl ?_|with_reducible (first|refine aC ?_|refine dQ ?_|refine eT ?_))
 ·have wT:k < m:=by omega
  refine ⟨k + 1,by omega,.cons rfl aW,by omega,by omega,?_,a7.set (by omega)⟩
  rw [← xu wT]
  unfold ay
  rw [aq,List.map_set]
  congr 3
  first|done|rfl|omega
 ·have:k=m:=by omega
  subst this
  refine aN _ _ _ aW ?_ a7 cD
  have e:ff k k x=List.replicate k x:=by unfold ff;simp
  rw [← e];exact iA
theorem uL {f:FuncId} (hf:A.funcs f=some qN) (hh:∀vs H nx,A.aF f vs H nx=none) {m:Nat} {x:Int} (hm:m≤1048576) :
  WF A f [.int .i64 (m:Int),.int .i64 x] H nx fun v H' nx'=>∃b c,v=.slice (some ⟨b,0,some 1⟩) m c∧m≤au c∧nx≤b∧b < nx'∧ay H' b (List.replicate m x)∧an H H' nx:=by
 refine WF.enter (hh _ _ _) hf ?_
 repeat' (first|((first|refine WO.n rfl ?_|refine WO.k rfl ?_);(first|refine aK ?_|refine mD ?_))|with_reducible (first|refine WO.nil ?_|refine WC.aa ?_|refine WC.seq ?_|refine WC.block ?_|refine aC ?_))
 refine WC.sub aW (Rj (nb:=nx) (lb:=nx) (by omega) (by have:=hO (H:=aw H nx (aU [.int .i64 0] m)) (b:=nx) aq;unfold ff;first|simpa using this|exact this) (by omega) (by omega) (an.refl.set (by omega)) (fun σ H2 nx2 hσ lR bL eW=>?_))
 refine eh (aC (WC.sub hσ ?_))
 repeat' (first|(refine WO.k rfl ?_;refine aK ?_)|with_reducible (first|refine WO.nil ?_|refine WC.aa ?_|refine WC.seq ?_|refine WC.ret ?_|refine aC ?_))
 exact az (vs:=[_]) rfl ⟨nx,_,rfl,by rw [cw];omega,by omega,by omega,lR,bL⟩
theorem BE {f:FuncId} (hf:A.funcs f=some ui) (hh:∀vs H nx,A.aF f vs H nx=none) {n:Int} {pb h nb:Nat} {base:Option Addr} {ec:Nat} {ov:Value} {es:List Ed} {H0:Heap} (he:bS H0 nb 2 a5 (.slice base es.length ec) es) (hs:an H0 H nb)
  (lX:Rd H pb [.int .i64 n,.slice base es.length ec,ov]) (hl:h < 2 * es.length) (dP:es.length≤4000) :
  WF A f [.pointer (some ⟨pb,0,none⟩),.int .i64 (h:Int)] H nx fun v H' nx'=>v=.int .i64 (cq es (da h))∧H'=H∧nx'=nx:=by
 have Dr:h / 2 < es.length:=by omega
 obtain ⟨eb,eo,Q7,rfl,Br,_,_,Nl,xk⟩:=he.at (by intro e;rw [e] at Dr;simp at Dr)
 have q3:=pL Dr xk (q:=1 - h % 2) (by omega)
 rw [← sM] at q3
 have VL:=hs.rd Br Nl
 refine WF.enter (hh _ _ _) hf ?_
 repeat' (first|((first|refine WO.n rfl ?_|refine WO.k rfl ?_);(first|refine aK ?_|refine dD ?_|refine aJ ?_|refine bu ?_|refine aZ ?_|refine GA ?_|refine Bb ?_|refine MU ?_|refine Bc ?_|refine jC ?_))|with_reducible (first|refine WO.nil ?_|refine WC.aa ?_|refine WC.seq ?_|refine WC.ret ?_|refine aC ?_))
 exact az (vs:=[_]) rfl ⟨rfl,rfl,rfl⟩
end Go.Eng

namespace Go.Eng
def B7 (es:List Ed) (u v:Nat):Prop:=∃h,h < 2 * es.length∧cq es h=(u:Int)∧cq es (da h)=(v:Int)
theorem B7.symm {es:List Ed} {u v:Nat} (h:B7 es u v):B7 es v u:=by
 obtain ⟨q,h1,h2,h3⟩:=h
 exact ⟨da q,eI h1,h3,by rw [hM];exact h2⟩
inductive Reach (es:List Ed) (s:Nat):Nat→Prop
 | here:Reach es s s
 | step {u v:Nat}:Reach es s u→B7 es u v→Reach es s v
theorem Reach.trans {es:List Ed} {a b c:Nat} (h:Reach es a b) (h':Reach es b c):Reach es a c:=by
 induction h' with
 | here=>exact h
 | step _ ha ih=>exact .step ih ha
theorem Reach.symm {es:List Ed} {a b:Nat} (h:Reach es a b):Reach es b a:=by
 induction h with
 | here=>exact .here
 | step _ ha ih=>exact Reach.trans (.step .here ha.symm) ih
def Old (es:List Ed) (k w:Nat):Prop:=∃s,s < k∧Reach es s w
theorem Old.zero {es:List Ed} {w:Nat}:¬Old es 0 w:=fun ⟨s,h,_⟩=>by omega
theorem Old.DG {es:List Ed} {k u v:Nat} (h:Old es k u) (ha:B7 es u v):Old es k v:=let ⟨s,h1,h2⟩:=h;⟨s,h1,.step h2 ha⟩
theorem Old.succ {es:List Ed} {k w:Nat}:Old es (k + 1) w↔Old es k w∨Reach es k w:=by
 constructor
 ·rintro ⟨s,h1,h2⟩
  rcases Nat.lt_or_ge s k with h|h
  ·exact .inl ⟨s,h,h2⟩
  ·rw [show s=k by omega] at h2;exact .inr h2
 ·rintro (⟨s,h1,h2⟩|h)
  ·exact ⟨s,by omega,h2⟩
  ·exact ⟨k,by omega,h⟩
theorem Old.same {es:List Ed} {k w:Nat} (h:Old es k k):Old es (k + 1) w↔Old es k w:=by
 rw [Old.succ]
 constructor
 ·rintro (h1|h1)
  ·exact h1
  ·obtain ⟨s,h2,h3⟩:=h
   exact ⟨s,h2,h3.trans h1⟩
 ·exact .inl
theorem Old.next {es:List Ed} {k w:Nat} {M:Nat→Prop} (h1:∀w,Old es k w→M w) (h2:M k) (h3:∀u v,M u→B7 es u v→M v) (h4:∀w,M w→Old es k w∨Reach es k w):M w↔Old es (k + 1) w:=by
 rw [Old.succ]
 constructor
 ·exact h4 w
 ·rintro (h|h)
  ·exact h1 w h
  ·induction h with
   | here=>exact h2
   | step _ ha ih=>exact h3 _ _ ih ha
open Classical in
noncomputable def aE (es:List Ed):Nat→Nat
 | 0=>0
 | k + 1=>if Old es k k then aE es k else aE es k + 1
theorem fY {es:List Ed} {k:Nat} (h:Old es k k):aE es (k + 1)=aE es k:=by rw [aE];exact if_pos h
theorem eJ {es:List Ed} {k:Nat} (h:¬Old es k k):aE es (k + 1)=aE es k + 1:=by rw [aE];exact if_neg h
theorem ed {es:List Ed}:∀{k:Nat},aE es k≤k:=by
 intro k
 induction k with
 | zero=>exact Nat.le_refl _
 | succ k ih=>
  by_cases h:Old es k k
  ·rw [fY h];omega
  ·rw [eJ h];omega
def Mk (c:List Int) (w:Nat):Prop:=∃x:Int,c[w]?=some x∧0≤x
theorem Mk.set {c:List Int} {v w:Nat} {x:Int} (hv:v < c.length) (hx:0≤x):Mk (c.set v x) w↔w=v∨Mk c w:=by
 unfold Mk
 rw [List.getElem?_set]
 by_cases e:v=w
 ·subst e
  rw [if_pos rfl,if_pos hv]
  exact ⟨fun _=>.inl rfl,fun _=>⟨x,rfl,hx⟩⟩
 ·rw [if_neg e]
  exact ⟨.inr,fun h=>by
   rcases h with h|h
   ·exact absurd h.symm e
   ·exact h⟩
theorem Mk.not {c:List Int} {w:Nat} {x:Int} (h:c[w]?=some x) (hx:x < 0):¬Mk c w:=fun ⟨y,h1,h2⟩=>by rw [h] at h1;cases h1;omega
def left (c:List Int):Nat:=(c.filter (· < 0)).length
theorem Fc {c:List Int}:left c≤c.length:=List.length_filter_le _ _
theorem kL {c:List Int} {v:Nat} {x y:Int} (h:c[v]?=some y) (hy:y < 0) (hx:0≤x):left (c.set v x) + 1=left c:=by
 unfold left
 induction c generalizing v with
 | nil=>simp at h
 | cons a c ih=>
  cases v with
  | zero=>
   cases (show some a=some y from h)
   rw [List.set_cons_zero,List.filter_cons_of_neg (by simpa using hx),List.filter_cons_of_pos (by simpa using hy)];rfl
  | succ v=>
   have:=ih (v:=v) h
   rw [List.set_cons_succ,List.filter_cons,List.filter_cons]
   split
   ·simp only [List.length_cons];omega
   ·exact this
def mM (H:Heap) (lo nx:Nat) (v:Value) (xs:List Int):Prop:=
 ∃b c cs,v=.slice (some ⟨b,0,some 1⟩) xs.length c∧lo≤b∧b < nx∧ak H (at_ b)=some (.cells cs)∧cs.length=au c∧xs.length≤au c∧cs.take xs.length=xs.map (.int .i64)
section
variable {A:aG} {H H':Heap} {nx nx':Nat} {σ:aP} {L:List Value}
theorem mM.frame {lo:Nat} {v:Value} {xs:List Int} (h:mM H lo nx v xs) (hs:cT H H' lo nx) (hn:nx≤nx'):mM H' lo nx' v xs:=by
 obtain ⟨b,c,cs,h1,h2,h3,h4,h5⟩:=h
 exact ⟨b,c,cs,h1,h2,by omega,(hs b h2 h3).trans h4,h5⟩
theorem mM.one {lo:Nat} {x:Int} (hl:lo≤nx):mM (aw H nx [.int .i64 x]) lo (nx + 1) (.slice (some ⟨nx,0,some 1⟩) 1 (2 * 1 + 1)) [x]:=
 ⟨nx,2 * 1 + 1,[.int .i64 x],rfl,hl,by omega,aq,rfl,(by show 1≤au (2 * 1 + 1);decide),rfl⟩
theorem aH.O3 {lo by_ q c':Nat} {zero:List Value} {s x:Od} {v:Value} {xs:List Int} {y:Int} {K:Value→Heap→Nat→Prop} (hs:ev σ L s=some v) (hx:ev σ L x=some (.slice (some ⟨q,0,some 1⟩) 1 c')) (hq:Rd H q [.int .i64 y]) (hg:mM H lo nx v xs) (pW:lo≤nx)
  (h2:(xs.length + 1) * by_≤small) (h3:xs.length + 1≤small)
  (h:∀v' H' nx',nx≤nx'→mM H' lo nx' v' (xs++[y])→(∀b,b < lo→ak H' (at_ b)=ak H (at_ b))→K v' H' nx'):aH A (.app 1 by_ zero s x false) σ L H nx K:=by
 obtain ⟨b,c,cs,rfl,yr,dB,hr,iP,lE,ht⟩:=hg
 by_cases hc:xs.length + 1≤au c
 ·have ve:lB cs (0 + xs.length * 1) [.int .i64 y]=some (cs.take xs.length++[.int .i64 y]++cs.drop (xs.length + 1)):=by
   unfold lB
   rw [Nat.zero_add,Nat.mul_one,yp _ _ _ (by show xs.length + 1≤_;omega)]
   rfl
  refine .of (.oJ hs hx (dT hq rfl) (by omega) (by omega) rfl hr hc ve) (h _ _ _ (Nat.le_refl _) ⟨b,c,_,by simp,yr,dB,aq,?_,by simpa using hc,?_⟩ (fun d hd=>by rw [ai,if_neg (by omega)]))
  ·simp only [List.length_append,List.length_take,List.length_drop,List.length_cons,List.length_nil];omega
  ·rw [ht,List.map_append,List.length_append]
   have e:(xs.map (Value.int .i64)++[Value.int .i64 y]).length=xs.length + [y].length:=by simp
   rw [← e,List.take_left];rfl
 ·have hold:take? (xs.length * 1) (cs.drop 0)=some (xs.map (.int .i64)):=by
   rw [Nat.mul_one,List.drop_zero,take?_of _ _ (by omega),ht]
  have k6:∀H1:Heap,ak H1 (at_ nx)=some (.cells (xs.map (.int .i64)++[.int .i64 y]))→mM H1 lo (nx + 1) (.slice (some ⟨nx,0,some 1⟩) (xs.length + 1) (2 * (xs.length + 1))) (xs++[y]):=fun H1 hH=>⟨nx,2 * (xs.length + 1),_,by simp,pW,by omega,hH,by rw [bK];simp,by rw [bK];simp,by
   rw [List.map_append,List.length_append]
   have e:(xs.map (Value.int .i64)++[Value.int .i64 y]).length=xs.length + [y].length:=by simp
   rw [← e,List.take_length];rfl⟩
  cases he:exact c with
  | false=>exact .of (.kO hs hx (dT hq rfl) (by omega) (by omega) rfl hr hold (by omega) he h2 h3) (h _ _ _ (Nat.le_succ _) (k6 _ aq) (fun d hd=>by rw [ai,if_neg (by omega),dX,if_neg (by omega)]))
  | true=>exact .of (.tX hs hx (dT hq rfl) (by omega) (by omega) rfl hr hold (by omega) he h2 h3) (h _ _ _ (Nat.le_succ _) (k6 _ aq) (fun d hd=>by rw [ai,if_neg (by omega)]))
theorem mM.last {lo:Nat} {v:Value} {xs:List Int} {x:Int} (h:mM H lo nx v (xs++[x])):∃b c cs,v=.slice (some ⟨b,0,some 1⟩) (xs.length + 1) c∧xs.length + 1≤au c∧ak H (at_ b)=some (.cells cs)∧cs[0 + xs.length * 1]?=some (.int .i64 x)∧mM H lo nx (.slice (some ⟨b,0 + 0 * 1,some 1⟩) (xs.length - 0) (c - 2 * 0)) xs:=by
 obtain ⟨b,c,cs,rfl,yr,dB,hr,iP,lE,ht⟩:=h
 rw [List.length_append] at lE ht
 refine ⟨b,c,cs,by rw [List.length_append];rfl,lE,hr,?_,⟨b,c,cs,rfl,yr,dB,hr,iP,by simp at lE;omega,?_⟩⟩
 ·have h1:(cs.take (xs.length + [x].length))[xs.length]?=some (.int .i64 x):=by
   rw [ht,List.map_append,List.getElem?_append_right (by simp)]
   simp
  rw [List.getElem?_take_of_lt (by simp)] at h1
  rw [Nat.zero_add,Nat.mul_one];exact h1
 ·have h1:(cs.take (xs.length + [x].length)).take xs.length=xs.map (.int .i64):=by
   rw [ht,List.map_append]
   have e:(xs.map (Value.int .i64)).length=xs.length:=by simp
   rw [← e,List.take_left]
  rw [List.take_take] at h1
  rwa [Nat.min_eq_left (by omega)] at h1
end
end Go.Eng

namespace Go.Eng
def toAt (es:List Ed) (v j:Nat):Int:=cq es (da ((di es (2 * es.length) v).getD j 0).toNat)
def PK (es:List Ed) (v k u w:Nat):Prop:=u=v∧∃j,k≤j∧j < (di es (2 * es.length) v).length∧(w:Int)=toAt es v j
theorem yW {es:List Ed} {v j:Nat} (hj:j < (di es (2 * es.length) v).length):∃h:Nat,(di es (2 * es.length) v)[j]?=some (h:Int)∧h < 2 * es.length∧cq es h=(v:Int)∧toAt es v j=cq es (da h):=by
 obtain ⟨h,h1,h2,h3⟩:=BB.1 (List.getElem_mem hj)
 have h4:(di es (2 * es.length) v)[j]?=some (h:Int):=by rw [List.getElem?_eq_getElem hj,h1]
 refine ⟨h,h4,h2,h3,?_⟩
 unfold toAt
 rw [List.getD_eq_getElem?_getD,h4];rfl
theorem PK.all {es:List Ed} {v w:Nat} (h:B7 es v w):PK es v 0 v w:=by
 obtain ⟨q,h1,h2,h3⟩:=h
 obtain ⟨j,hj,e⟩:=List.getElem_of_mem (BB.2 ⟨q,rfl,h1,h2⟩:(q:Int)∈di es (2 * es.length) v)
 refine ⟨rfl,j,Nat.zero_le _,hj,?_⟩
 unfold toAt
 rw [List.getD_eq_getElem?_getD,List.getElem?_eq_getElem hj,e]
 exact h3.symm
theorem PK.next {es:List Ed} {v k u w w':Nat} (hw:(w:Int)=toAt es v k) (h:PK es v k u w'):w'=w∨PK es v (k + 1) u w':=by
 obtain ⟨e,j,h1,h2,h3⟩:=h
 rcases (show j=k∨k + 1≤j by omega) with rfl|h4
 ·exact .inl (by omega)
 ·exact .inr ⟨e,j,h4,h2,h3⟩
theorem PK.none {es:List Ed} {v u w:Nat} (h:PK es v (di es (2 * es.length) v).length u w):False:=by
 obtain ⟨_,j,h1,h2,_⟩:=h;omega
structure Inv (es:List Ed) (m s:Nat) (P:Nat→Nat→Prop) (c todo:List Int):Prop where
 len:c.length=m
 old:∀w,Old es s w→w < m→Mk c w
 me:Mk c s
 only:∀w,Mk c w→Old es s w∨Reach es s w
 Rk:∀x∈todo,∃q:Nat,x=(q:Int)∧q < m∧Mk c q
 DG:∀u w,Mk c u→B7 es u w→Mk c w∨(u:Int)∈todo∨P u w
section
variable {es:List Ed} {m s:Nat} {P P':Nat→Nat→Prop} {c todo:List Int}
theorem Inv.mark {w:Nat} {x:Int} (h:Inv es m s P c todo) (hw:w < m) (hx:0≤x) (hr:Old es s w∨Reach es s w) (hP:∀u w',P u w'→w'=w∨P' u w'):Inv es m s P' (c.set w x) (todo++[(w:Int)]):=by
 have yQ:w < c.length:=by rw [h.len];exact hw
 refine ⟨by rw [List.length_set];exact h.len,fun u hu hm=>(Mk.set yQ hx).2 (.inr (h.old u hu hm)),(Mk.set yQ hx).2 (.inr h.me),fun u hu=>?_,fun y hy=>?_,fun u w' hu ha=>?_⟩
 ·rcases (Mk.set yQ hx).1 hu with rfl|hu
  ·exact hr
  ·exact h.only u hu
 ·rcases List.mem_append.1 hy with hy|hy
  ·obtain ⟨q,q1,q2,q3⟩:=h.Rk y hy
   exact ⟨q,q1,q2,(Mk.set yQ hx).2 (.inr q3)⟩
  ·exact ⟨w,List.mem_singleton.1 hy,hw,(Mk.set yQ hx).2 (.inl rfl)⟩
 ·rcases (Mk.set yQ hx).1 hu with rfl|hu
  ·exact .inr (.inl (by simp))
  ·rcases h.DG u w' hu ha with h1|h1|h1
   ·exact .inl ((Mk.set yQ hx).2 (.inr h1))
   ·exact .inr (.inl (by simp [h1]))
   ·rcases hP u w' h1 with rfl|h2
    ·exact .inl ((Mk.set yQ hx).2 (.inl rfl))
    ·exact .inr (.inr h2)
theorem Inv.skip {w:Nat} (h:Inv es m s P c todo) (hw:Mk c w) (hP:∀u w',P u w'→w'=w∨P' u w'):Inv es m s P' c todo:=by
 refine ⟨h.len,h.old,h.me,h.only,h.Rk,fun u w' hu ha=>?_⟩
 rcases h.DG u w' hu ha with h1|h1|h1
 ·exact .inl h1
 ·exact .inr (.inl h1)
 ·rcases hP u w' h1 with rfl|h2
  ·exact .inl hw
  ·exact .inr (.inr h2)
theorem Inv.none (h:Inv es m s P c todo) (hP:∀u w,P u w→False):Inv es m s (fun _ _=>False) c todo:=
 ⟨h.len,h.old,h.me,h.only,h.Rk,fun u w hu ha=>by
  rcases h.DG u w hu ha with h1|h1|h1
  ·exact .inl h1
  ·exact .inr (.inl h1)
  ·exact (hP u w h1).elim⟩
theorem Inv.pop {v:Nat} (h:Inv es m s (fun _ _=>False) c (todo++[(v:Int)])):Inv es m s (PK es v 0) c todo∧v < m∧Mk c v:=by
 obtain ⟨q,q1,q2,q3⟩:=h.Rk (v:Int) (by simp)
 have:q=v:=by omega
 subst this
 refine ⟨⟨h.len,h.old,h.me,h.only,fun x hx=>h.Rk x (by simp [hx]),fun u w hu ha=>?_⟩,q2,q3⟩
 rcases h.DG u w hu ha with h1|h1|h1
 ·exact .inl h1
 ·rcases List.mem_append.1 h1 with h1|h1
  ·exact .inr (.inl h1)
  ·have:u=q:=by have:=List.mem_singleton.1 h1;omega
   subst this
   exact .inr (.inr (PK.all ha))
 ·exact h1.elim
theorem K4 {n:Int} (hm:jF n es) (fB:n=(m:Int)) {u w:Nat} (ha:B7 es u w):w < m:=by
 obtain ⟨q,h1,h2,h3⟩:=ha
 obtain ⟨v,e1,e2⟩:=qU hm (eI h1)
 rw [h3] at e1
 omega
theorem Mk.lt {w:Nat} (h:Mk c w):w < c.length:=let ⟨_,h1,_⟩:=h;(List.getElem?_eq_some_iff.1 h1).1
theorem Inv.done {n:Int} (hm:jF n es) (fB:n=(m:Int)) (h:Inv es m s (fun _ _=>False) c []) (hs:s < m) {w:Nat} (hw:w < m):Mk c w↔Old es (s + 1) w:=by
 have hb:∀w,Reach es s w→w < m:=by
  intro w hr
  induction hr with
  | here=>exact hs
  | step _ ha _=>exact K4 hm fB ha
 rw [Old.succ]
 constructor
 ·exact h.only w
 ·rintro (h1|h1)
  ·exact h.old w h1 hw
  ·clear hw
   induction h1 with
   | here=>exact h.me
   | step _ ha ih=>
    rcases h.DG _ _ ih ha with h2|h2|h2
    ·exact h2
    ·cases h2
    ·exact h2.elim
theorem Inv.start {n:Int} (hm:jF n es) (fB:n=(m:Int)) {x:Int} (hl:c.length=m) (hs:s < m) (hx:0≤x) (hc:∀w,w < m→(Mk c w↔Old es s w)):Inv es m s (fun _ _=>False) (c.set s x) [(s:Int)]:=by
 have si:s < c.length:=by omega
 have cf:∀w,Mk c w→w < m:=fun w hw=>by rw [← hl];exact hw.lt
 refine ⟨by rw [List.length_set];exact hl,fun w hw hm=>(Mk.set si hx).2 (.inr ((hc w hm).2 hw)),(Mk.set si hx).2 (.inl rfl),fun w hw=>?_,fun y hy=>⟨s,List.mem_singleton.1 hy,hs,(Mk.set si hx).2 (.inl rfl)⟩,fun u w hu ha=>?_⟩
 ·rcases (Mk.set si hx).1 hw with rfl|hw
  ·exact .inr .here
  ·exact .inl ((hc w (cf w hw)).1 hw)
 ·rcases (Mk.set si hx).1 hu with rfl|hu
  ·exact .inr (.inl (by simp))
  ·have hw:=K4 hm fB ha
   exact .inl ((Mk.set si hx).2 (.inr ((hc w hw).2 (((hc u (cf u hu)).1 hu).DG ha))))
end
end Go.Eng

namespace Go.Eng
variable {A:aG} {H H':Heap} {nx nx':Nat} {σ:aP} {Q:ct}
set_option maxRecDepth 100000
structure PS (H0 H:Heap) (nb cb ob nxo:Nat) (n:Int) (ev:Value) (es:List Ed) (m:Nat) (c:List Int):Prop where
 same:an H0 H nb
 rd:Rd H nb [.int .i64 n,ev]
 gs:GS H (ob + 1) nxo ob (fM es m (2 * es.length))
 ci:ay H cb c
 h1:nb < cb
 h2:cb < ob
 h3:ob < nxo
theorem PS.frame {H0 H2:Heap} {nb cb ob nxo:Nat} {n:Int} {ev:Value} {es:List Ed} {m:Nat} {c:List Int} (h:PS H0 H nb cb ob nxo n ev es m c) (hf:∀b,b < nxo→ak H2 (at_ b)=ak H (at_ b)):PS H0 H2 nb cb ob nxo n ev es m c:=by
 obtain ⟨a,b,g,d,h1,h2,h3⟩:=h
 refine ⟨fun b hb=>(hf b (by omega)).trans (a b hb),?_,g.frame (hf ob h3) (fun b _ hb=>hf b hb) (Nat.le_refl _),(hf cb (by omega)).trans d,h1,h2,h3⟩
 unfold Rd
 rw [hf nb (by omega)]
 exact b
theorem PS.mark {H0:Heap} {nb cb ob nxo v:Nat} {n x:Int} {ev:Value} {es:List Ed} {m:Nat} {c:List Int} (h:PS H0 H nb cb ob nxo n ev es m c):PS H0 (aw H cb ((c.map (Value.int .i64)).set (0 + v * 1) (.int .i64 x))) nb cb ob nxo n ev es m (c.set v x):=by
 obtain ⟨a,b,g,d,h1,h2,h3⟩:=h
 refine ⟨a.set (by omega),Rd.skip (by omega) b,g.frame (by rw [ai,if_neg (by omega)]) (fun b hb _=>by rw [ai,if_neg (by omega)]) (Nat.le_refl _),?_,h1,h2,h3⟩
 unfold ay
 rw [aq,List.map_set,Nat.zero_add,Nat.mul_one]
theorem ptK {n:Int} {m nb cb ob nxo s v:Nat} {es:List Ed} {base:Option Addr} {ec cc oc N:Nat} {H0:Heap} {c todo:List Int} {tv:Value} (yX:A.funcs 71=some HS) (ll:∀vs H nx,A.aF 71 vs H nx=none)
  (hm:jF n es) (fB:n=(m:Int)) (he:bS H0 nb 2 a5 (.slice base es.length ec) es) (hN:N≤1048576) (hv:v < m) (hs:s < m) (K5:Mk c v)
  (ps:PS H0 H nb cb ob nxo n (.slice base es.length ec) es m c) (st:mM H nxo nx tv todo) (hx:nxo≤nx) (iv:Inv es m s (PK es v 0) c todo) (hb:2 * left c + todo.length≤2 * m + 1)
  (aN:∀σ H' nx' c' uM VW,bg [(S1,.slice none 0 0),(S2,.slice none 0 0),(S3,.pointer (some ⟨nb,0,none⟩)),(S8,.slice (some ⟨cb,0,some 1⟩) m cc),(S9,.int .i64 ((N:Nat):Int)),(dN,.slice (some ⟨ob,0,some 1⟩) m oc),(fE,.int .i64 ((s:Nat):Int)),(iU,VW)] σ→
   PS H0 H' nb cb ob nxo n (.slice base es.length ec) es m c'→mM H' nxo nx' VW uM→Inv es m s (fun _ _=>False) c' uM→2 * left c' + uM.length≤2 * left c + todo.length→nx≤nx'→Q (.exit 4) σ H' nx') :
  WC A (.loop JW) [(S1,.slice none 0 0),(S2,.slice none 0 0),(S3,.pointer (some ⟨nb,0,none⟩)),(S8,.slice (some ⟨cb,0,some 1⟩) m cc),(S9,.int .i64 ((N:Nat):Int)),(dN,.slice (some ⟨ob,0,some 1⟩) m oc),(fE,.int .i64 ((s:Nat):Int)),(iU,tv),(nJ,.int .i64 ((v:Nat):Int)),(nK,.int .i64 0)] H nx Q:=by
 have dP:=hm.2.2.1
 have cD:=hm.2.1
 refine WC.loop (α:=Nat×List Int×List Int×Value) (fun k=>[(S1,.slice none 0 0),(S2,.slice none 0 0),(S3,.pointer (some ⟨nb,0,none⟩)),(S8,.slice (some ⟨cb,0,some 1⟩) m cc),(S9,.int .i64 ((N:Nat):Int)),(dN,.slice (some ⟨ob,0,some 1⟩) m oc),(fE,.int .i64 ((s:Nat):Int)),(iU,k.2.2.2),(nJ,.int .i64 ((v:Nat):Int)),(nK,.int .i64 ((k.1:Nat):Int))])
  (fun k H' nx'=>k.1≤(di es (2 * es.length) v).length∧nx≤nx'∧PS H0 H' nb cb ob nxo n (.slice base es.length ec) es m k.2.1∧mM H' nxo nx' k.2.2.2 k.2.2.1∧Inv es m s (PK es v k.1) k.2.1 k.2.2.1∧Mk k.2.1 v∧2 * left k.2.1 + k.2.2.1.length≤2 * left c + todo.length) (fun k=>(di es (2 * es.length) v).length - k.1)
  ?_ (0,c,todo,tv) aW ⟨Nat.zero_le _,Nat.le_refl _,ps,st,iv,K5,Nat.le_refl _⟩
 rintro ⟨k,c1,fN,Rl⟩ H1 aT ⟨hk,hU,iH,jf,uN,sj,dB⟩
 simp only at hk iH jf uN sj dB ⊢
 have K3:=kK (es:=es) (k:=2 * es.length) (v:=v)
 obtain ⟨us,u,kI,Bs,G6,rL⟩:=iH.gs.row (v:=v) (by rw [cU];exact hv)
 rw [cU] at kI
 rw [jg hv] at rL
 obtain ⟨ub,uc,hu⟩:=jG rL
 have Nu:Rd H1 ob us:=.inl Bs
 have o1:=iH.h1
 have o2:=iH.h2
 have o3:=iH.h3
 have eO:=iH.rd
 rw [hu] at G6
 have iP:=uN.len
 have Fe:ak H1 (at_ cb)=some (.cells (c1.map (.int .i64))):=iH.ci
 unfold JW
 repeat' (first|((first|refine WO.n rfl ?_|refine WO.k rfl ?_);(first|refine cM ?_|refine aJ ?_|refine bu ?_|refine aZ ?_|(refine ei (fun h=>?_) (fun h=>?_)<;>(try simp only [Int.ofNat_eq_natCast] at h))))|with_reducible (first|refine WO.nil ?_|refine WC.aa ?_|refine WC.drawn ?_|refine WC.seq ?_|refine WC.skip ?_|refine WC.exit ?_|refine WC.block ?_)|refine WC.aB rfl ?_|refine WC.ax rfl ?_|with_reducible (first|refine aC ?_|refine dQ ?_))
 ·have cI:k < (di es (2 * es.length) v).length:=by omega
  obtain ⟨q,hq,Fb,VX,K6⟩:=yW cI
  obtain ⟨rb,rc,qO,VY,Rm,oF,hrx⟩:=rL.cell hq
  rw [hu] at qO
  cases qO
  have VZ:Rd H1 rb _:=.inl oF
  repeat' (refine WO.n rfl ?_;(first|refine bu ?_|refine aZ ?_))
  refine WO.cn rfl ?_
  refine (E6 yX ll ((he.same iH.same).up (show nb≤aT by omega)) Fb (by omega)).of ?_
  rintro _ H2 nx2 ⟨rfl,bL,eW⟩
  have DH:=iH.frame (H2:=H2) (fun b hb=>bL b (by omega))
  have rK:=jf.frame (H':=H2) (nx':=nx2) (fun b _ hb=>bL b hb) eW
  have aaL:ak H2 (at_ cb)=some (.cells (c1.map (.int .i64))):=DH.ci
  obtain ⟨w,hw,hwn⟩:=qU hm (eI Fb)
  have O4:w < m:=by omega
  have DI:B7 es v w:=⟨q,Fb,VX,hw⟩
  rw [hw] at K6 ⊢
  have hwr:Old es s w∨Reach es s w:=by
   rcases uN.only v sj with h|h
   ·exact .inl (h.DG DI)
   ·exact .inr (.step h DI)
  have lJ:=List.getElem?_eq_getElem (show w < c1.length by omega)
  generalize c1[w]=x at lJ
  have AQ:=ay.cell lJ
  have hwc:w < (c1.map (Value.int .i64)).length:=by rw [List.length_map];omega
  repeat' (first|((first|refine WO.n rfl ?_|refine WO.k rfl ?_);(first|refine aK ?_|refine kg ?_|refine bu ?_|refine aZ ?_|refine gx ?_|refine fj ?_|(refine C9 (fun h=>?_) (fun h=>?_)<;>(try simp only [Int.ofNat_eq_natCast] at h))|refine bO ?_|refine JE ?_))|refine WO.dC rfl ?_|refine WO.nI rfl ?_|refine WO.P8 rfl ?_|with_reducible (first|refine WO.nil ?_|refine WC.aa ?_|refine WC.seq ?_|refine WC.skip ?_|refine WC.exit ?_)|refine WC.aB rfl ?_|refine WC.ax rfl ?_|with_reducible (first|refine aC ?_|refine dQ ?_|refine eh ?_|refine kf ?_))
  ·refine ⟨(k + 1,c1,fN,Rl),by show (di es (2 * es.length) v).length - (k + 1) < (di es (2 * es.length) v).length - k;omega,.cons rfl aW,by show k + 1≤_;omega,by omega,DH,rK,uN.skip ⟨x,lJ,by omega⟩ (fun _ _ h=>h.next K6.symm),sj,dB⟩
  ·refine WO.n rfl ?_
   have Rn:=DH.mark (v:=w) (x:=((N:Nat):Int))
   have GR:=rK.frame (H':=aw H2 cb ((c1.map (Value.int .i64)).set (0 + w * 1) (.int .i64 (N:Int)))) (nx':=nx2) (fun b hb _=>by rw [ai,if_neg (by omega)]) (Nat.le_refl _)
   have V0:=GR.frame (H':=aw (aw H2 cb ((c1.map (Value.int .i64)).set (0 + w * 1) (.int .i64 (N:Int)))) nx2 [.int .i64 (w:Int)]) (nx':=nx2 + 1) (fun b _ hb=>by rw [ai,if_neg (by omega)]) (Nat.le_succ _)
   have hlf:=kL lJ (by omega) (show (0:Int)≤(N:Int) by omega)
   have K7:=uN.mark O4 (show (0:Int)≤(N:Int) by omega) hwr (P':=PK es v (k + 1)) (fun _ _ h=>h.next K6.symm)
   refine aH.O3 (lo:=nxo) rfl rfl Rd.self V0 (by omega) (by unfold small;omega) (by unfold small;omega) ?_
   intro Rp H3 nx3 mG SV V1
   have ps4:=Rn.frame (H2:=H3) (fun b hb=>by rw [V1 b hb,ai,if_neg (by omega)])
   repeat' (first|((first|refine WO.n rfl ?_|refine WO.k rfl ?_);(first|refine aK ?_|refine bO ?_))|with_reducible (first|refine WO.nil ?_|refine WC.aa ?_|refine aC ?_|refine eT ?_))
   refine ⟨(k + 1,c1.set w (N:Int),fN++[(w:Int)],Rp),by show (di es (2 * es.length) v).length - (k + 1) < (di es (2 * es.length) v).length - k;omega,.cons rfl aW,by show k + 1≤_;omega,by omega,ps4,SV,K7,(Mk.set (by omega) (by omega)).2 (.inr sj),?_⟩
   show 2 * left (c1.set w (N:Int)) + (fN++[(w:Int)]).length≤_
   rw [List.length_append]
   show _ + (fN.length + 1)≤_
   omega
 ·have:k=(di es (2 * es.length) v).length:=by omega
  subst this
  exact aN _ _ _ c1 fN Rl aW iH jf (uN.none fun _ _ h=>h.none) dB hU
theorem ptD {n:Int} {m nb cb ob nxo s:Nat} {es:List Ed} {base:Option Addr} {ec cc oc N:Nat} {H0:Heap} {c todo:List Int} {tv:Value} (yX:A.funcs 71=some HS) (ll:∀vs H nx,A.aF 71 vs H nx=none)
  (hm:jF n es) (fB:n=(m:Int)) (he:bS H0 nb 2 a5 (.slice base es.length ec) es) (hN:N≤1048576) (hs:s < m)
  (ps:PS H0 H nb cb ob nxo n (.slice base es.length ec) es m c) (st:mM H nxo nx tv todo) (hx:nxo≤nx) (iv:Inv es m s (fun _ _=>False) c todo) (hb:2 * left c + todo.length≤2 * m + 1)
  (aN:∀σ H' nx' c',bg [(S1,.slice none 0 0),(S2,.slice none 0 0),(S3,.pointer (some ⟨nb,0,none⟩)),(S8,.slice (some ⟨cb,0,some 1⟩) m cc),(S9,.int .i64 ((N:Nat):Int)),(dN,.slice (some ⟨ob,0,some 1⟩) m oc),(fE,.int .i64 ((s:Nat):Int))] σ→
   PS H0 H' nb cb ob nxo n (.slice base es.length ec) es m c'→Inv es m s (fun _ _=>False) c' []→nx≤nx'→Q (.exit 2) σ H' nx') :
  WC A (.loop De) [(S1,.slice none 0 0),(S2,.slice none 0 0),(S3,.pointer (some ⟨nb,0,none⟩)),(S8,.slice (some ⟨cb,0,some 1⟩) m cc),(S9,.int .i64 ((N:Nat):Int)),(dN,.slice (some ⟨ob,0,some 1⟩) m oc),(fE,.int .i64 ((s:Nat):Int)),(iU,tv)] H nx Q:=by
 have cD:=hm.2.1
 refine WC.loop (α:=List Int×List Int×Value) (fun k=>[(S1,.slice none 0 0),(S2,.slice none 0 0),(S3,.pointer (some ⟨nb,0,none⟩)),(S8,.slice (some ⟨cb,0,some 1⟩) m cc),(S9,.int .i64 ((N:Nat):Int)),(dN,.slice (some ⟨ob,0,some 1⟩) m oc),(fE,.int .i64 ((s:Nat):Int)),(iU,k.2.2)])
  (fun k H' nx'=>nx≤nx'∧PS H0 H' nb cb ob nxo n (.slice base es.length ec) es m k.1∧mM H' nxo nx' k.2.2 k.2.1∧Inv es m s (fun _ _=>False) k.1 k.2.1∧2 * left k.1 + k.2.1.length≤2 * m + 1) (fun k=>2 * left k.1 + k.2.1.length)
  ?_ (c,todo,tv) aW ⟨Nat.le_refl _,ps,st,iv,hb⟩
 rintro ⟨c1,fN,Rl⟩ H1 aT ⟨hU,iH,jf,uN,dB⟩
 simp only at iH jf uN dB ⊢
 by_cases cy:fN=[]
 ·subst cy
  obtain ⟨b,tc,cs,rfl,_⟩:=jf
  unfold De
  repeat' (first|((first|refine WO.n rfl ?_|refine WO.k rfl ?_);(first|refine cM ?_|refine aZ ?_|(refine LQ (fun h=>?_) (fun h=>?_)<;>(try simp only [Int.ofNat_eq_natCast] at h))|refine Bb ?_))|with_reducible (first|refine WO.nil ?_|refine WC.aa ?_|refine WC.seq ?_|refine WC.skip ?_|refine WC.exit ?_|refine WC.block ?_)|refine WC.aB rfl ?_|refine WC.ax rfl ?_|with_reducible (first|refine aC ?_|refine dQ ?_))
  ·exact absurd h (by simp)
  exact aN _ _ _ c1 aW iH uN hU
 ·obtain ⟨xs,x,rfl⟩:∃xs x,fN=xs++[x]:=⟨fN.dropLast,fN.getLast cy,(List.dropLast_concat_getLast cy).symm⟩
  obtain ⟨v,rfl,_,_⟩:=uN.Rk x (by simp)
  obtain ⟨K7,hv,K5⟩:=uN.pop
  obtain ⟨b,tc,cs,rfl,C3,hr,bC,rK⟩:=jf.last
  have hrR:Rd H1 b cs:=.inl hr
  have DJ:cs[0 + (xs.length + 1 - 1) * 1]?=some (.int .i64 (v:Int)):=bC
  rw [List.length_append] at dB
  have kl:2 * left c1 + (xs.length + 1)≤2 * m + 1:=dB
  unfold De
  repeat' (first|((first|refine WO.n rfl ?_|refine WO.k rfl ?_);(first|refine aK ?_|refine cM ?_|refine bu ?_|refine aZ ?_|refine Ba ?_|(refine LQ (fun h=>?_) (fun h=>?_)<;>(try simp only [Int.ofNat_eq_natCast] at h))|refine Bb ?_))|with_reducible (first|refine WO.nil ?_|refine WC.aa ?_|refine WC.seq ?_|refine WC.skip ?_|refine WC.exit ?_|refine WC.block ?_)|refine WC.aB rfl ?_|refine WC.ax rfl ?_|with_reducible (first|refine aC ?_|refine dQ ?_))
  ·refine WC.sub aW (ptK yX ll hm fB he hN hv hs K5 iH rK (by omega) K7 (by omega) (fun σ H2 nx2 c2 uO Rp hσ DH GR Nw HT eW=>?_))
   refine eh (eT ⟨(c2,uO,Rp),?_,hσ,by omega,DH,GR,Nw,?_⟩)
   ·show 2 * left c2 + uO.length < 2 * left c1 + (xs++[(v:Int)]).length
    rw [List.length_append]
    show _ < _ + (xs.length + 1)
    omega
   ·show 2 * left c2 + uO.length≤2 * m + 1
    omega
  ·omega
theorem ptS {n:Int} {m nb cb ob nxo:Nat} {es:List Ed} {base:Option Addr} {ec cc oc:Nat} {H0:Heap} {c:List Int} (yX:A.funcs 71=some HS) (ll:∀vs H nx,A.aF 71 vs H nx=none)
  (hm:jF n es) (fB:n=(m:Int)) (he:bS H0 nb 2 a5 (.slice base es.length ec) es)
  (ps:PS H0 H nb cb ob nxo n (.slice base es.length ec) es m c) (hx:nxo≤nx) (iP:c.length=m) (hc:∀w,w < m→(Mk c w↔Old es 0 w))
  (aN:∀σ H' nx',bg [(S8,.slice (some ⟨cb,0,some 1⟩) m cc),(S9,.int .i64 ((aE es m:Nat):Int))] σ→an H0 H' nb→nx≤nx'→Q (.exit 0) σ H' nx') :
  WC A (.loop JX) [(S1,.slice none 0 0),(S2,.slice none 0 0),(S3,.pointer (some ⟨nb,0,none⟩)),(S8,.slice (some ⟨cb,0,some 1⟩) m cc),(S9,.int .i64 0),(dN,.slice (some ⟨ob,0,some 1⟩) m oc),(fE,.int .i64 0)] H nx Q:=by
 have cD:=hm.2.1
 refine WC.loop (α:=Nat×List Int) (fun k=>[(S1,.slice none 0 0),(S2,.slice none 0 0),(S3,.pointer (some ⟨nb,0,none⟩)),(S8,.slice (some ⟨cb,0,some 1⟩) m cc),(S9,.int .i64 ((aE es k.1:Nat):Int)),(dN,.slice (some ⟨ob,0,some 1⟩) m oc),(fE,.int .i64 ((k.1:Nat):Int))])
  (fun k H' nx'=>k.1≤m∧nx≤nx'∧PS H0 H' nb cb ob nxo n (.slice base es.length ec) es m k.2∧k.2.length=m∧∀w,w < m→(Mk k.2 w↔Old es k.1 w)) (fun k=>m - k.1)
  ?_ (0,c) aW ⟨Nat.zero_le _,Nat.le_refl _,ps,iP,hc⟩
 rintro ⟨s,c1⟩ H1 aT ⟨hs,hU,iH,oy,jT⟩
 simp only at hs iH oy jT ⊢
 have V2:=ed (es:=es) (k:=s)
 have o1:=iH.h1
 have o2:=iH.h2
 have o3:=iH.h3
 have eO:=iH.rd
 have Fe:ak H1 (at_ cb)=some (.cells (c1.map (.int .i64))):=iH.ci
 subst fB
 unfold JX
 repeat' (first|((first|refine WO.n rfl ?_|refine WO.k rfl ?_);(first|refine dD ?_|refine aJ ?_|refine aZ ?_|(refine ei (fun h=>?_) (fun h=>?_)<;>(try simp only [Int.ofNat_eq_natCast] at h))))|with_reducible (first|refine WO.nil ?_|refine WC.aa ?_|refine WC.seq ?_|refine WC.skip ?_|refine WC.exit ?_|refine WC.block ?_)|refine WC.aB rfl ?_|refine WC.ax rfl ?_|with_reducible (first|refine aC ?_|refine dQ ?_))
 ·have ml:s < m:=by omega
  have lJ:=List.getElem?_eq_getElem (show s < c1.length by omega)
  generalize c1[s]=x at lJ
  have AQ:=ay.cell lJ
  repeat' (first|((first|refine WO.n rfl ?_|refine WO.k rfl ?_);(first|refine aK ?_|refine kg ?_|refine bu ?_|refine aZ ?_|refine gx ?_|refine fj ?_|(refine C9 (fun h=>?_) (fun h=>?_)<;>(try simp only [Int.ofNat_eq_natCast] at h))|refine bO ?_|refine JE ?_))|refine WO.dC rfl ?_|refine WO.nI rfl ?_|refine WO.P8 rfl ?_|with_reducible (first|refine WO.nil ?_|refine WC.aa ?_|refine WC.seq ?_|refine WC.skip ?_|refine WC.exit ?_|refine WC.block ?_)|refine WC.aB rfl ?_|refine WC.ax rfl ?_|with_reducible (first|refine aC ?_|refine dQ ?_|refine eh ?_))
  ·have ho:Old es s s:=(jT s ml).1 ⟨x,lJ,by omega⟩
   refine ⟨(s + 1,c1),by show m - (s + 1) < m - s;omega,.cons rfl (.cons rfl (.cons rfl (.cons rfl (.cons ?_ (.cons rfl (.cons rfl (.nil _))))))),by show s + 1≤m;omega,by omega,iH,oy,fun w hw=>by rw [Old.same ho];exact jT w hw⟩
   show some _=some _
   rw [fY ho]
  ·have iQ:¬Old es s s:=fun ho=>Mk.not lJ (by omega) ((jT s ml).2 ho)
   have hlf:=kL lJ (by omega) (show (0:Int)≤((aE es s:Nat):Int) by omega)
   have Ds:=Fc (c:=c1)
   have DH:=(iH.frame (H2:=aw H1 aT [.int .i64 (s:Int)]) (fun b hb=>by rw [ai,if_neg (by omega)])).mark (v:=s) (x:=((aE es s:Nat):Int))
   have rK:=(mM.one (H:=H1) (x:=(s:Int)) (show nxo≤aT by omega)).frame (H':=aw (aw H1 aT [.int .i64 (s:Int)]) cb ((c1.map (Value.int .i64)).set (0 + s * 1) (.int .i64 ((aE es s:Nat):Int)))) (nx':=aT + 1) (fun b hb _=>by rw [ai,if_neg (by omega)]) (Nat.le_refl _)
   have K7:=Inv.start (x:=((aE es s:Nat):Int)) hm rfl oy ml (by omega) jT
   refine WC.sub aW (ptD yX ll hm rfl he (by omega) ml DH rK (by omega) K7 (by show 2 * left _ + 1≤_;omega) (fun σ H3 nx3 c3 hσ Rn Nw mG=>?_))
   refine eh (aC (WC.sub hσ ?_))
   repeat' (first|((first|refine WO.n rfl ?_|refine WO.k rfl ?_);(first|refine aK ?_|refine bO ?_))|with_reducible (first|refine WO.nil ?_|refine WC.aa ?_|refine aC ?_|refine eT ?_))
   refine ⟨(s + 1,c3),by show m - (s + 1) < m - s;omega,.cons rfl (.cons rfl (.cons rfl (.cons rfl (.cons ?_ (.cons rfl (.cons rfl (.nil _))))))),by show s + 1≤m;omega,by omega,Rn,Nw.len,fun w hw=>Nw.done hm rfl ml hw⟩
   show some _=some _
   rw [eJ iQ]
 ·have:s=m:=by omega
  subst this
  exact aN _ _ _ aW iH.same hU
theorem BF {f:FuncId} (hf:A.funcs f=some pI) (hh:∀vs H nx,A.aF f vs H nx=none) (yX:A.funcs 71=some HS) (ll:∀vs H nx,A.aF 71 vs H nx=none)
  (Rq:A.funcs 69=some qN) (DK:∀vs H nx,A.aF 69 vs H nx=none) (Rr:A.funcs 70=some xe) (DL:∀vs H nx,A.aF 70 vs H nx=none)
  (yS:A.funcs 60=some mF) (lh:∀vs H nx,A.aF 60 vs H nx=none)
  {n:Int} {m:Nat} {ev:Value} {es:List Ed} (hm:jF n es) (fB:n=(m:Int)) (he:bS H nx 2 a5 ev es) :
  WF A f [.agg #[.int .i64 n,ev],.slice none 0 0,.slice none 0 0] H nx fun v H' nx'=>∃u,v=oneOf [u,.int .i64 ((aE es m:Nat):Int)]∧an H H' nx∧nx≤nx':=by
 obtain ⟨base,ec,rfl⟩:=he.form
 have cD:=hm.2.1
 subst fB
 refine WF.enter (hh _ _ _) hf ?_
 repeat' (first|((first|refine WO.n rfl ?_|refine WO.k rfl ?_);(first|refine aK ?_|refine dD ?_|refine jN ?_|refine aJ ?_))|with_reducible (first|refine WO.nil ?_|refine WC.aa ?_|refine WC.seq ?_|refine aC ?_))
 have bM:an H (aw H nx [.int .i64 (m:Int),.slice base es.length ec]) nx:=an.refl.set (Nat.le_refl _)
 refine WO.cn rfl ?_
 refine (uL Rq DK (m:=m) (x:=-1) (by omega)).of ?_
 rintro _ H1 aT ⟨cb,cc,rfl,ss,K8,DM,Fe,a7⟩
 have bp:an H H1 nx:=bM.trans a7 (by omega)
 have dB:Rd H1 nx [.int .i64 (m:Int),.slice base es.length ec]:=a7.rd (by omega) Rd.self
 repeat' (first|((first|refine WO.n rfl ?_|refine WO.k rfl ?_);(first|refine aK ?_|refine aJ ?_))|with_reducible (first|refine WO.nil ?_|refine WC.aa ?_|refine WC.seq ?_|refine aC ?_))
 refine WO.cn rfl ?_
 refine (xr Rr DL yS lh hm rfl ((he.same bp).up (by omega))).of ?_
 rintro _ H2 nx2 ⟨ob,oc,rfl,JJ,Rs,K9,hg,bL,eW⟩
 repeat' (first|(refine WO.k rfl ?_;refine aK ?_)|with_reducible (first|refine WO.nil ?_|refine WC.aa ?_|refine WC.seq ?_|refine WC.block ?_|refine aC ?_))
 refine WC.sub aW (ptS (nb:=nx) (cb:=cb) (ob:=ob) (nxo:=nx2) (c:=List.replicate m (-1)) yX ll hm rfl he ⟨bp.trans bL (by omega),bL.rd (by omega) dB,hg,(bL cb DM).trans Fe,by omega,by omega,K9⟩ (Nat.le_refl _) (by simp) (fun w hw=>⟨fun ⟨x,h1,h2⟩=>by rw [List.getElem?_replicate,if_pos hw] at h1;cases h1;omega,fun h=>(Old.zero h).elim⟩) (fun σ H3 nx3 hσ fH mG=>?_))
 refine eh (aC (WC.sub hσ ?_))
 repeat' (first|(refine WO.k rfl ?_;refine aK ?_)|with_reducible (first|refine WO.nil ?_|refine WC.aa ?_|refine WC.seq ?_|refine WC.ret ?_|refine aC ?_))
 exact az (vs:=[_,_]) rfl ⟨_,rfl,fH,by omega⟩
end Go.Eng

namespace Go.Eng
variable {A:aG} {H H':Heap} {nx nx':Nat} {σ:aP} {Q:ct}
set_option maxRecDepth 100000
theorem iz {p:List Bool} {agg:Option Nat} {b o:Nat} {cs:List Value} {v:Value} {Q:Value→Heap→Nat→Prop} (h1:sl σ p=some (.pointer (some ⟨b,o,none⟩))) (h2:ak H (at_ b)=some (.cells cs)) (h3:partOf cs o agg=some v) (hq:Q (oneOf [v]) H nx):jc [(.var p,some agg)] Q .ret σ H nx:=by
 refine ⟨[v],?_,hq⟩
 have:A2 σ H (.var p,some agg)=some v:=by
  show (match sl σ p with
   | some (.pointer (some ⟨b,o,none⟩))=>match ak H (at_ b) with
    | some (.cells cs)=>partOf cs o agg
    | _=>none
   | _=>none)=_
  rw [h1]
  simp only [h2]
  exact h3
 unfold iu
 rw [this]
 rfl
theorem G8 {f:FuncId} (hf:A.funcs f=some rJ) (hh:∀vs H nx,A.aF f vs H nx=none) (B8:A.funcs 66=some iV) (ny:∀vs H nx,A.aF 66 vs H nx=none)
  {m s:Nat} (hm:m≤1024) (hs:s < m) :
  WF A f [.int .i64 (m:Int),.int .i64 (s:Int)] H nx fun v H' nx'=>∃qb bb bc fb fc,v=.agg #[.slice (some ⟨qb,0,some 1⟩) 1 (2 * 1 + 1),.slice (some ⟨bb,0,some 1⟩) m bc,.slice (some ⟨fb,0,some 1⟩) m fc,.slice none 0 0]∧
   ak H' (at_ qb)=some (.cells [.int .i64 (s:Int)])∧ay H' bb (List.replicate m (-1))∧ay H' fb ((List.replicate m (-1)).set s 0)∧nx≤qb∧qb < bb∧bb < fb∧fb < nx'∧an H H' nx:=by
 refine WF.enter (hh _ _ _) hf ?_
 repeat' (first|((first|refine WO.n rfl ?_|refine WO.k rfl ?_);(first|refine sE ?_|refine gx ?_))|with_reducible (first|refine WO.nil ?_|refine WC.aa ?_|refine WC.seq ?_|refine aC ?_))
 refine WO.cn rfl ?_
 refine (j4 B8 ny (m:=m) (x:=-1) (by omega)).of ?_
 rintro _ H1 aT ⟨bb,bc,rfl,hbc,abO,abP,hbi,a7⟩
 refine WO.cn rfl ?_
 refine (j4 B8 ny (m:=m) (x:=-1) (by omega)).of ?_
 rintro _ H2 nx2 ⟨fb,fc,rfl,hfc,abQ,abR,Su,bL⟩
 have abS:ak H2 (at_ nx)=some (.cells [.slice none 0 0,.slice none 0 0,.slice none 0 0,.slice none 0 0]):=(bL nx (by omega)).trans ((a7 nx (by omega)).trans (by rw [ai,if_neg (by omega)];exact aq))
 have aaM:ak H2 (at_ (nx + 1))=some (.cells [.int .i64 (s:Int)]):=(bL _ (by omega)).trans ((a7 _ (by omega)).trans aq)
 have aaN:ak H2 (at_ bb)=some (.cells ((List.replicate m (-1)).map (.int .i64))):=(bL bb (by omega)).trans hbi
 have abT:ak H2 (at_ fb)=some (.cells ((List.replicate m (-1)).map (.int .i64))):=Su
 have iT:∀b,b < nx→ak H2 (at_ b)=ak H (at_ b):=fun b hb=>(bL b (by omega)).trans ((a7 b (by omega)).trans (by rw [ai,if_neg (by omega),ai,if_neg (by omega)]))
 have si:s < ((List.replicate m (-1:Int)).map (Value.int .i64)).length:=by simpa using hs
 repeat' (first|((first|refine WO.n rfl ?_|refine WO.k rfl ?_);(first|refine dD ?_|refine sE ?_|refine r9 ?_|refine aJ ?_|refine aZ ?_|refine fj ?_|refine fL ?_))|with_reducible (first|refine WO.nil ?_|refine WC.aa ?_|refine WC.seq ?_|refine WC.ret ?_|refine aC ?_))
 refine iz rfl (by first|exact aq|(first|with_reducible apply aq|with_reducible assumption|((repeat ((with_reducible apply bz);omega));first|with_reducible apply aq|with_reducible assumption))) rfl ⟨nx + 1,bb,bc,fb,fc,rfl,?_,?_,?_,by omega,by omega,by omega,by omega,fun b hb=>?_⟩
 ·repeat (first|exact aaM|(apply bz (by omega)))
 ·show ak _ _=_
  repeat (first|exact aaN|(apply bz (by omega)))
 ·show ak _ _=_
  refine bz (by omega) ?_
  first
   | (rw [aq,List.map_set];congr 3;first|done|rfl|omega)
 ·repeat (first|exact iT b hb|(apply bz (by omega)))
end Go.Eng

namespace Go.Eng
variable {A:aG} {H H':Heap} {nx nx':Nat} {σ:aP} {L:List Value} {Q:ct}
set_option maxRecDepth 100000
theorem aH.V3 {lo by_ q c':Nat} {zero:List Value} {s x:Od} {v:Value} {xs:List Int} {y:Int} {K:Value→Heap→Nat→Prop} (hs:ev σ L s=some v) (hx:ev σ L x=some (.slice (some ⟨q,0,some 1⟩) 1 c')) (hq:Rd H q [.int .i64 y]) (hg:mM H lo nx v xs) (pW:lo≤nx)
  (h2:(xs.length + 1) * by_≤small) (h3:xs.length + 1≤small)
  (h:∀v' H' nx',nx≤nx'→mM H' lo nx' v' (xs++[y])→(∀b,b < nx→bj v≠some b→ak H' (at_ b)=ak H (at_ b))→(bj v'=bj v∨bj v'=some nx)→K v' H' nx'):aH A (.app 1 by_ zero s x false) σ L H nx K:=by
 obtain ⟨b,c,cs,rfl,yr,dB,hr,iP,lE,ht⟩:=hg
 by_cases hc:xs.length + 1≤au c
 ·have ve:lB cs (0 + xs.length * 1) [.int .i64 y]=some (cs.take xs.length++[.int .i64 y]++cs.drop (xs.length + 1)):=by
   unfold lB
   rw [Nat.zero_add,Nat.mul_one,yp _ _ _ (by show xs.length + 1≤_;omega)]
   rfl
  refine .of (.oJ hs hx (dT hq rfl) (by omega) (by omega) rfl hr hc ve) (h _ _ _ (Nat.le_refl _) ⟨b,c,_,by simp,yr,dB,aq,?_,by simpa using hc,?_⟩ (fun d _ hd=>by rw [ai,if_neg (fun e=>hd (by rw [e];rfl))]) (.inl rfl))
  ·simp only [List.length_append,List.length_take,List.length_drop,List.length_cons,List.length_nil];omega
  ·rw [ht,List.map_append,List.length_append]
   have e:(xs.map (Value.int .i64)++[Value.int .i64 y]).length=xs.length + [y].length:=by simp
   rw [← e,List.take_left];rfl
 ·have hold:take? (xs.length * 1) (cs.drop 0)=some (xs.map (.int .i64)):=by
   rw [Nat.mul_one,List.drop_zero,take?_of _ _ (by omega),ht]
  have k6:∀H1:Heap,ak H1 (at_ nx)=some (.cells (xs.map (.int .i64)++[.int .i64 y]))→mM H1 lo (nx + 1) (.slice (some ⟨nx,0,some 1⟩) (xs.length + 1) (2 * (xs.length + 1))) (xs++[y]):=fun H1 hH=>⟨nx,2 * (xs.length + 1),_,by simp,pW,by omega,hH,by rw [bK];simp,by rw [bK];simp,by
   rw [List.map_append,List.length_append]
   have e:(xs.map (Value.int .i64)++[Value.int .i64 y]).length=xs.length + [y].length:=by simp
   rw [← e,List.take_length];rfl⟩
  cases he:exact c with
  | false=>exact .of (.kO hs hx (dT hq rfl) (by omega) (by omega) rfl hr hold (by omega) he h2 h3) (h _ _ _ (Nat.le_succ _) (k6 _ aq) (fun d hd hn=>by rw [ai,if_neg (by omega),dX,if_neg (fun e=>hn (by rw [e];rfl))]) (.inr rfl))
  | true=>exact .of (.tX hs hx (dT hq rfl) (by omega) (by omega) rfl hr hold (by omega) he h2 h3) (h _ _ _ (Nat.le_succ _) (k6 _ aq) (fun d hd hn=>by rw [ai,if_neg (by omega)]) (.inr rfl))
theorem mM.own {lo:Nat} {v:Value} {xs:List Int} (h:mM H lo nx v xs) (hs:∀b,bj v=some b→ak H' (at_ b)=ak H (at_ b)) (hn:nx≤nx'):mM H' lo nx' v xs:=by
 obtain ⟨b,c,cs,rfl,h2,h3,h4,h5⟩:=h
 exact ⟨b,c,cs,rfl,h2,by omega,(hs b rfl).trans h4,h5⟩
structure TS (H:Heap) (lo nx tb bb fb:Nat) (bc fc m:Nat) (ov:Value) (xs by_ far:List Int):Prop where
 rd:ak H (at_ tb)=some (.cells [ov,.slice (some ⟨bb,0,some 1⟩) m bc,.slice (some ⟨fb,0,some 1⟩) m fc,.slice none 0 0])
 ord:mM H lo nx ov xs
 SW:ay H bb by_
 uP:ay H fb far
 bl:by_.length=m
 fl:far.length=m
 d1:bj ov≠some tb
 d2:bj ov≠some bb
 d3:bj ov≠some fb
 d4:bb < fb
 d5:fb < tb
 d6:tb < nx
 d7:lo≤bb
theorem find_spec {f:FuncId} (hf:A.funcs f=some nL) (hh:∀vs H nx,A.aF f vs H nx=none) (lT:A.funcs 89=some ui) (gO:∀vs H nx,A.aF 89 vs H nx=none)
  {n:Int} {pb h nb w lo tb bb fb bc fc m:Nat} {d:Int} {base:Option Addr} {ec:Nat} {ov0 ov:Value} {es:List Ed} {xs by_ far:List Int} {H0:Heap} (he:bS H0 nb 2 a5 (.slice base es.length ec) es) (hs:an H0 H nb)
  (lX:Rd H pb [.int .i64 n,.slice base es.length ec,ov0]) (hl:h < 2 * es.length) (dP:es.length≤4000) (hw:cq es (da h)=(w:Int)) (O4:w < m)
  (ts:TS H lo nx tb bb fb bc fc m ov xs by_ far) (hx:xs.length≤1048576) :
  WF A f [.pointer (some ⟨pb,0,none⟩),.pointer (some ⟨tb,0,none⟩),.int .i64 (h:Int),.int .i64 d] H nx fun _ H' nx'=>∃V4,TS H' lo nx' tb bb fb bc fc m V4 (xs++[(w:Int)]) (by_.set w (h:Int)) (far.set w d)∧(∀b,b < lo→ak H' (at_ b)=ak H (at_ b))∧nx≤nx':=by
 obtain ⟨t1,t2,t3,t4,t5,t6,d1,d2,d3,d4,d5,d6,d7⟩:=ts
 have ve:=t2
 obtain ⟨ob,oc,ocs,rfl,ho0,Nx,_⟩:=ve
 refine WF.enter (hh _ _ _) hf ?_
 repeat' (first|with_reducible (first|refine WC.aa ?_|refine WC.seq ?_))
 refine WO.cn rfl ?_
 refine (BE lT gO he hs lX hl dP).of ?_
 rintro _ H1 aT ⟨rfl,rfl,rfl⟩
 rw [hw]
 have SX:Rd H1 tb _:=.inl t1
 repeat' (first|((first|refine WO.n rfl ?_|refine WO.k rfl ?_);(first|refine aK ?_|refine dD ?_|refine aJ ?_|refine gx ?_|refine jC ?_))|with_reducible (first|refine WO.nil ?_|refine WC.aa ?_|refine WC.seq ?_|refine aC ?_))
 refine WO.n rfl ?_
 have V0:=t2.frame (H':=aw H1 aT [.int .i64 (w:Int)]) (nx':=aT + 1) (fun b _ hb=>by rw [ai,if_neg (by omega)]) (Nat.le_succ _)
 refine aH.V3 (lo:=lo) rfl rfl Rd.self V0 (by omega) (by unfold small;omega) (by unfold small;omega) ?_
 intro ov2 H2 nx2 eW SV hk rZ
 have iE:∀b,b < aT→b≠ob→ak H2 (at_ b)=ak H1 (at_ b):=fun b hb cy=>(hk b (by omega) (fun e=>cy (by cases e;rfl))).trans (by rw [ai,if_neg (by omega)])
 have e1:ob≠tb:=fun e=>d1 (by rw [e];rfl)
 have e2:ob≠bb:=fun e=>d2 (by rw [e];rfl)
 have e3:ob≠fb:=fun e=>d3 (by rw [e];rfl)
 have W2:=(iE tb d6 (fun e=>e1 e.symm)).trans t1
 have t1R:Rd H2 tb _:=.inl W2
 have t3':ak H2 (at_ bb)=some (.cells (by_.map (.int .i64))):=(iE bb (by omega) (fun e=>e2 e.symm)).trans t3
 have t4':ak H2 (at_ fb)=some (.cells (far.map (.int .i64))):=(iE fb (by omega) (fun e=>e3 e.symm)).trans t4
 have st6:=SV
 obtain ⟨o2,oc2,abU,FV,_⟩:=SV
 subst FV
 have ho2:o2=ob∨o2=aT + 1:=by
  rcases rZ with e|e
  ·cases e;exact .inl rfl
  ·cases e;exact .inr rfl
 have q1:o2≠tb:=by omega
 have q2:o2≠bb:=by omega
 have q3:o2≠fb:=by omega
 have hwb:w < (by_.map (Value.int .i64)).length:=by rw [List.length_map];omega
 repeat' (first|(refine WO.n rfl ?_;(first|refine dD ?_|refine aJ ?_|refine aZ ?_|refine fj ?_|refine jC ?_))|with_reducible (first|refine WO.nil ?_|refine WC.drawn ?_|refine aC ?_|refine kf ?_))
 refine hC (vs:=[]) rfl ⟨_,⟨bz (by omega) (bz (by omega) aq),st6.own (fun b hb=>?_) (Nat.le_refl _),bz (by omega) ?_,?_,by rw [List.length_set];exact t5,by rw [List.length_set];exact t6,fun e=>q1 (by cases e;rfl),fun e=>q2 (by cases e;rfl),fun e=>q3 (by cases e;rfl),d4,d5,by omega,d7⟩,fun b hb=>?_,by omega⟩
 ·cases hb
  rw [ai,if_neg q3,ai,if_neg q2,ai,if_neg q1]
 ·rw [aq,List.map_set,Nat.zero_add,Nat.mul_one]
 ·show ak _ _=_
  rw [aq,List.map_set,Nat.zero_add,Nat.mul_one]
 ·rw [ai,if_neg (by omega),ai,if_neg (by omega),ai,if_neg (by omega)]
  exact iE b (by omega) (by omega)
end Go.Eng

namespace Go.Eng
variable {A:aG} {H H':Heap} {nx nx':Nat} {σ:aP} {L:List Value} {Q:ct}
set_option maxRecDepth 100000
structure Bf (es:List Ed) (m s i:Nat) (P:Nat→Nat→Prop) (far xs:List Int):Prop where
 len:far.length=m
 SY:∀w,Mk far w↔(w:Int)∈xs
 Jx:∀x∈xs,∃q:Nat,x=(q:Int)∧q < m∧Reach es s q
 me:(s:Int)∈xs
 DG:∀j u w,j < i→xs[j]?=some ((u:Nat):Int)→B7 es u w→Mk far w∨P u w
 O1:xs.length + left far≤m
 V5:∀x∈far,-1≤x∧x < (xs.length:Int)
section
variable {es:List Ed} {m s i:Nat} {P P':Nat→Nat→Prop} {far xs:List Int}
theorem Bf.skip {w:Nat} (h:Bf es m s i P far xs) (hw:Mk far w) (hP:∀u w',P u w'→w'=w∨P' u w'):Bf es m s i P' far xs:=
 ⟨h.len,h.SY,h.Jx,h.me,fun j u w' hj hu ha=>by
  rcases h.DG j u w' hj hu ha with h1|h1
  ·exact .inl h1
  ·rcases hP u w' h1 with rfl|h2
   ·exact .inl hw
   ·exact .inr h2,h.O1,h.V5⟩
theorem Bf.mark {w:Nat} {x y:Int} (h:Bf es m s i P far xs) (hi:i≤xs.length) (hg:far[w]?=some y) (hy:y < 0) (hw:w < m) (hx:0≤x) (hb:x < (xs.length:Int) + 1) (hr:Reach es s w) (hP:∀u w',P u w'→w'=w∨P' u w'):Bf es m s i P' (far.set w x) (xs++[(w:Int)]):=by
 have yQ:w < far.length:=by rw [h.len];exact hw
 have Q5:=kL hg hy hx
 refine ⟨by rw [List.length_set];exact h.len,fun u=>?_,fun z hz=>?_,by simp [h.me],fun j u w' hj hu ha=>?_,?_,fun z hz=>?_⟩
 ·rw [Mk.set yQ hx,h.SY u,List.mem_append,List.mem_singleton]
  constructor
  ·rintro (rfl|h1)
   ·exact .inr rfl
   ·exact .inl h1
  ·rintro (h1|h1)
   ·exact .inr h1
   ·exact .inl (by omega)
 ·rcases List.mem_append.1 hz with hz|hz
  ·exact h.Jx z hz
  ·exact ⟨w,List.mem_singleton.1 hz,hw,hr⟩
 ·rw [List.getElem?_append_left (by omega)] at hu
  rcases h.DG j u w' hj hu ha with h1|h1
  ·exact .inl ((Mk.set yQ hx).2 (.inr h1))
  ·rcases hP u w' h1 with rfl|h2
   ·exact .inl ((Mk.set yQ hx).2 (.inl rfl))
   ·exact .inr h2
 ·rw [List.length_append];show _ + 1 + _≤_
  have:=h.O1
  omega
 ·rw [List.length_append]
  show -1≤z∧z < ((xs.length + 1:Nat):Int)
  rcases List.mem_or_eq_of_mem_set hz with h1|rfl
  ·have:=h.V5 z h1;omega
  ·omega
theorem Bf.aaO {v:Nat} (h:Bf es m s i (fun _ _=>False) far xs) (hv:xs[i]?=some (v:Int)):Bf es m s (i + 1) (PK es v 0) far xs:=
 ⟨h.len,h.SY,h.Jx,h.me,fun j u w hj hu ha=>by
  rcases Nat.lt_or_ge j i with h1|h1
  ·rcases h.DG j u w h1 hu ha with h2|h2
   ·exact .inl h2
   ·exact h2.elim
  ·have:j=i:=by omega
   subst this
   rw [hv] at hu
   have:v=u:=by have:=Option.some.inj hu;omega
   subst this
   exact .inr (PK.all ha),h.O1,h.V5⟩
theorem Bf.none (h:Bf es m s i P far xs) (hP:∀u w,P u w→False):Bf es m s i (fun _ _=>False) far xs:=
 ⟨h.len,h.SY,h.Jx,h.me,fun j u w hj hu ha=>by
  rcases h.DG j u w hj hu ha with h1|h1
  ·exact .inl h1
  ·exact (hP u w h1).elim,h.O1,h.V5⟩
theorem Bf.done (h:Bf es m s xs.length (fun _ _=>False) far xs) {w:Nat}:(w:Int)∈xs↔Reach es s w:=by
 constructor
 ·intro hw
  obtain ⟨q,h1,_,h2⟩:=h.Jx _ hw
  rw [show w=q by omega];exact h2
 ·intro hr
  induction hr with
  | here=>exact h.me
  | @step u v _ ha ih=>
   obtain ⟨j,hj,e⟩:=List.getElem_of_mem ih
   rcases h.DG j u v hj (by rw [List.getElem?_eq_getElem hj,e]) ha with h1|h1
   ·exact (h.SY v).1 h1
   ·exact h1.elim
theorem La (m:Nat):left (List.replicate m (-1))=m:=by
 unfold left
 rw [List.filter_replicate]
 simp
theorem Bf.start (hs:s < m):Bf es m s 0 (fun _ _=>False) ((List.replicate m (-1)).set s 0) [(s:Int)]:=by
 have hg:(List.replicate m (-1:Int))[s]?=some (-1):=by rw [List.getElem?_replicate,if_pos hs]
 refine ⟨by simp,fun w=>?_,fun x hx=>⟨s,List.mem_singleton.1 hx,hs,.here⟩,by simp,fun j u w hj=>by omega,?_,fun x hx=>?_⟩
 ·rw [Mk.set (by simpa using hs) (by omega),List.mem_singleton]
  constructor
  ·rintro (rfl|⟨x,h1,h2⟩)
   ·rfl
   ·rw [List.getElem?_replicate] at h1
    split at h1
    ·cases h1;omega
    ·cases h1
  ·intro h;exact .inl (by omega)
 ·have:=kL hg (by omega) (show (0:Int)≤0 by omega)
  have h2:=La m
  show 1 + _≤m
  omega
 ·rcases List.mem_or_eq_of_mem_set hx with h1|rfl
  ·have:=(List.mem_replicate.1 h1).2
   subst this
   exact ⟨by omega,by show (-1:Int) < 1;omega⟩
  ·exact ⟨by omega,by show (0:Int) < 1;omega⟩
end
end Go.Eng

namespace Go.Eng
variable {A:aG} {H H':Heap} {nx nx':Nat} {σ:aP} {L:List Value} {Q:ct}
set_option maxRecDepth 100000
theorem bfI {n:Int} {m s i v pb rb tb bb fb bc fc lo uc:Nat} {ub:Option Addr} {es:List Ed} {base:Option Addr} {ec:Nat} {ov0 ov:Value} {Hs:Heap} {far by_ xs:List Int} (lT:A.funcs 89=some ui) (gO:∀vs H nx,A.aF 89 vs H nx=none) (oz:A.funcs 90=some nL) (jH:∀vs H nx,A.aF 90 vs H nx=none)
  (hm:jF n es) (fB:n=(m:Int)) (he:bS Hs lo 2 a5 (.slice base es.length ec) es) (lX:Rd Hs pb [.int .i64 n,.slice base es.length ec,ov0]) (sq:pb < lo) (hv:v < m) (Xc:Reach es s v)
  (rL:bA Hs (pb + 1) lo 1 (.slice ub (di es (2 * es.length) v).length uc) (di es (2 * es.length) v).length ((di es (2 * es.length) v).map (.int .i64)))
  (hs:an Hs H lo) (ts:TS H lo nx tb bb fb bc fc m ov xs by_ far) (bf:Bf es m s (i + 1) (PK es v 0) far xs) (hi:i < xs.length) (K5:Mk far v)
  (aN:∀σ H' nx' V4 Rt by' Lb,bg [([],.pointer (some ⟨pb,0,none⟩)),(S4,.pointer (some ⟨rb,0,none⟩)),(S5,.pointer (some ⟨tb,0,none⟩)),(S6,.int .i64 ((i:Nat):Int))] σ→
   an Hs H' lo→TS H' lo nx' tb bb fb bc fc m V4 Rt by' Lb→Bf es m s (i + 1) (fun _ _=>False) Lb Rt→i < Rt.length→nx≤nx'→Q (.exit 2) σ H' nx') :
  WC A (.loop Qw) [([],.pointer (some ⟨pb,0,none⟩)),(S4,.pointer (some ⟨rb,0,none⟩)),(S5,.pointer (some ⟨tb,0,none⟩)),(S6,.int .i64 ((i:Nat):Int)),(S7,.int .i64 ((v:Nat):Int)),(GG,.slice ub (di es (2 * es.length) v).length uc),(OG,.int .i64 (((di es (2 * es.length) v).length:Nat):Int)),(EO,.int .i64 0)] H nx Q:=by
 have dP:=hm.2.2.1
 have cD:=hm.2.1
 refine WC.loop (α:=Nat×Value×List Int×List Int×List Int) (fun k=>[([],.pointer (some ⟨pb,0,none⟩)),(S4,.pointer (some ⟨rb,0,none⟩)),(S5,.pointer (some ⟨tb,0,none⟩)),(S6,.int .i64 ((i:Nat):Int)),(S7,.int .i64 ((v:Nat):Int)),(GG,.slice ub (di es (2 * es.length) v).length uc),(OG,.int .i64 (((di es (2 * es.length) v).length:Nat):Int)),(EO,.int .i64 ((k.1:Nat):Int))])
  (fun k H' nx'=>k.1≤(di es (2 * es.length) v).length∧nx≤nx'∧an Hs H' lo∧TS H' lo nx' tb bb fb bc fc m k.2.1 k.2.2.1 k.2.2.2.1 k.2.2.2.2∧Bf es m s (i + 1) (PK es v k.1) k.2.2.2.2 k.2.2.1∧i < k.2.2.1.length∧Mk k.2.2.2.2 v) (fun k=>(di es (2 * es.length) v).length - k.1)
  ?_ (0,ov,xs,by_,far) aW ⟨Nat.zero_le _,Nat.le_refl _,hs,ts,bf,hi,K5⟩
 rintro ⟨k,Xy,Ny,SW,uP⟩ H1 aT ⟨hk,hU,a7,G9,Ff,zu,sj⟩
 simp only at hk G9 Ff zu sj ⊢
 have K3:=kK (es:=es) (k:=2 * es.length) (v:=v)
 have SX:Rd H1 tb _:=.inl G9.rd
 have B0:=Ff.len
 have L2:=Ff.O1
 have Su:ak H1 (at_ fb)=some (.cells (uP.map (.int .i64))):=G9.uP
 unfold Qw
 repeat' (first|((first|refine WO.n rfl ?_|refine WO.k rfl ?_);(refine ei (fun h=>?_) (fun h=>?_)<;>(try simp only [Int.ofNat_eq_natCast] at h)))|with_reducible (first|refine WO.nil ?_|refine WC.aa ?_|refine WC.seq ?_|refine WC.skip ?_|refine WC.exit ?_|refine WC.block ?_)|refine WC.aB rfl ?_|refine WC.ax rfl ?_|with_reducible (first|refine aC ?_|refine dQ ?_))
 ·have cI:k < (di es (2 * es.length) v).length:=by omega
  obtain ⟨q,hq,Fb,VX,K6⟩:=yW cI
  obtain ⟨rb',rc,qO,VY,Rm,oF,hrx⟩:=rL.cell hq
  cases qO
  have VZ:Rd H1 rb' _:=a7.rd Rm (.inl oF)
  obtain ⟨w,hw,hwn⟩:=qU hm (eI Fb)
  have O4:w < m:=by omega
  have DI:B7 es v w:=⟨q,Fb,VX,hw⟩
  have vX:=a7.rd sq lX
  repeat' (first|((first|refine WO.n rfl ?_|refine WO.k rfl ?_);(first|refine aK ?_|refine dD ?_|refine aJ ?_|refine bu ?_|refine aZ ?_))|with_reducible (first|refine WO.nil ?_|refine WC.drawn ?_|refine WC.seq ?_|refine aC ?_))
  refine WO.ca rfl ?_
  refine (BE lT gO he a7 vX Fb (by omega)).of ?_
  rintro _ H2 nx2 ⟨rfl,rfl,rfl⟩
  refine ⟨a6.look rfl SX rfl rfl (by simp [jK,ey]) .nil,?_⟩
  rw [hw] at K6 ⊢
  have lJ:=List.getElem?_eq_getElem (show w < uP.length by omega)
  generalize uP[w]=x at lJ
  have AQ:=ay.cell lJ
  obtain ⟨y,Xz,Xe⟩:=sj
  have XA:=ay.cell Xz
  have hyb:=(Ff.V5 y (List.mem_of_getElem? Xz)).2
  repeat' (first|((first|refine WO.n rfl ?_|refine WO.k rfl ?_);(first|refine aK ?_|refine dD ?_|refine aJ ?_|refine bu ?_|refine aZ ?_|(refine ei (fun h=>?_) (fun h=>?_)<;>(try simp only [Int.ofNat_eq_natCast] at h))|refine bO ?_|refine Da ?_))|with_reducible (first|refine WO.nil ?_|refine WC.aa ?_|refine WC.skip ?_)|refine WC.aB rfl ?_|refine WC.ax rfl ?_|with_reducible (first|refine aC ?_|refine eT ?_|refine kf ?_))
  ·refine WO.cn rfl ?_
   refine (find_spec (d:=y + 1) oz jH lT gO he a7 vX Fb (by omega) hw O4 G9 (by omega)).of ?_
   rintro _ H3 nx3 ⟨ov3,SZ,V1,mG⟩
   repeat' (first|((first|refine WO.n rfl ?_|refine WO.k rfl ?_);(first|refine aK ?_|refine bO ?_))|with_reducible (first|refine WO.nil ?_|refine WC.aa ?_|refine aC ?_|refine eT ?_))
   refine ⟨(k + 1,ov3,Ny++[(w:Int)],SW.set w (q:Int),uP.set w (y + 1)),by show (di es (2 * es.length) v).length - (k + 1) < (di es (2 * es.length) v).length - k;omega,.cons rfl aW,by show k + 1≤_;omega,by omega,fun b hb=>(V1 b hb).trans (a7 b hb),SZ,Ff.mark (by omega) lJ (by omega) O4 (by omega) (by omega) (.step Xc DI) (fun _ _ h=>h.next K6.symm),by show i < (Ny++[(w:Int)]).length;rw [List.length_append];omega,(Mk.set (by omega) (by omega)).2 (.inr ⟨y,Xz,Xe⟩)⟩
  ·exact ⟨(k + 1,Xy,Ny,SW,uP),by show (di es (2 * es.length) v).length - (k + 1) < (di es (2 * es.length) v).length - k;omega,.cons rfl aW,by show k + 1≤_;omega,by omega,a7,G9,Ff.skip ⟨x,lJ,by omega⟩ (fun _ _ h=>h.next K6.symm),zu,⟨y,Xz,Xe⟩⟩
 ·have:k=(di es (2 * es.length) v).length:=by omega
  subst this
  exact aN _ _ _ Xy Ny SW uP aW a7 G9 (Ff.none fun _ _ h=>h.none) zu hU
theorem mM.cell {lo i:Nat} {v:Value} {xs:List Int} {x:Int} (h:mM H lo nx v xs) (hx:xs[i]?=some x):∃b c cs,v=.slice (some ⟨b,0,some 1⟩) xs.length c∧lo≤b∧b < nx∧ak H (at_ b)=some (.cells cs)∧cs[0 + i * 1]?=some (.int .i64 x):=by
 obtain ⟨b,c,cs,rfl,yr,dB,hr,iP,lE,ht⟩:=h
 have hi:=(List.getElem?_eq_some_iff.1 hx).1
 refine ⟨b,c,cs,rfl,yr,dB,hr,?_⟩
 have h1:(cs.take xs.length)[i]?=some (.int .i64 x):=by rw [ht,List.getElem?_map,hx];rfl
 rw [List.getElem?_take_of_lt hi] at h1
 rw [Nat.zero_add,Nat.mul_one];exact h1
theorem bfO {n:Int} {m s pb rb tb bb fb bc fc lo ob oc:Nat} {es:List Ed} {base:Option Addr} {ec:Nat} {ov:Value} {Hs:Heap} {far by_ xs:List Int} (lT:A.funcs 89=some ui) (gO:∀vs H nx,A.aF 89 vs H nx=none) (oz:A.funcs 90=some nL) (jH:∀vs H nx,A.aF 90 vs H nx=none)
  (hm:jF n es) (fB:n=(m:Int)) (he:bS Hs lo 2 a5 (.slice base es.length ec) es) (lX:Rd Hs pb [.int .i64 n,.slice base es.length ec,.slice (some ⟨ob,0,some 1⟩) m oc]) (sq:pb < lo) (LZ:ob < lo) (hg:GS Hs (pb + 1) lo ob (fM es m (2 * es.length)))
  (hs:an Hs H lo) (ts:TS H lo nx tb bb fb bc fc m ov xs by_ far) (bf:Bf es m s 0 (fun _ _=>False) far xs)
  (aN:∀σ H' nx' V4 Rt by' Lb,bg [(S4,.pointer (some ⟨rb,0,none⟩)),(S5,.pointer (some ⟨tb,0,none⟩))] σ→
   an Hs H' lo→TS H' lo nx' tb bb fb bc fc m V4 Rt by' Lb→Bf es m s Rt.length (fun _ _=>False) Lb Rt→nx≤nx'→Q (.exit 0) σ H' nx') :
  WC A (.loop Qx) [([],.pointer (some ⟨pb,0,none⟩)),(S4,.pointer (some ⟨rb,0,none⟩)),(S5,.pointer (some ⟨tb,0,none⟩)),(S6,.int .i64 0)] H nx Q:=by
 have dP:=hm.2.2.1
 have cD:=hm.2.1
 refine WC.loop (α:=Nat×Value×List Int×List Int×List Int) (fun k=>[([],.pointer (some ⟨pb,0,none⟩)),(S4,.pointer (some ⟨rb,0,none⟩)),(S5,.pointer (some ⟨tb,0,none⟩)),(S6,.int .i64 ((k.1:Nat):Int))])
  (fun k H' nx'=>k.1≤k.2.2.1.length∧nx≤nx'∧an Hs H' lo∧TS H' lo nx' tb bb fb bc fc m k.2.1 k.2.2.1 k.2.2.2.1 k.2.2.2.2∧Bf es m s k.1 (fun _ _=>False) k.2.2.2.2 k.2.2.1) (fun k=>m - k.1)
  ?_ (0,ov,xs,by_,far) aW ⟨Nat.zero_le _,Nat.le_refl _,hs,ts,bf⟩
 rintro ⟨i,Xy,Ny,SW,uP⟩ H1 aT ⟨hi,hU,a7,G9,Ff⟩
 simp only at hi G9 Ff ⊢
 have SX:Rd H1 tb _:=.inl G9.rd
 have L2:=Ff.O1
 obtain ⟨qb,qc,qcs,ve,_⟩:=G9.ord
 rw [ve] at SX
 unfold Qx
 repeat' (first|((first|refine WO.n rfl ?_|refine WO.k rfl ?_);(first|refine dD ?_|refine cM ?_|refine aJ ?_|refine aZ ?_|(refine ei (fun h=>?_) (fun h=>?_)<;>(try simp only [Int.ofNat_eq_natCast] at h))))|with_reducible (first|refine WO.nil ?_|refine WC.aa ?_|refine WC.seq ?_|refine WC.skip ?_|refine WC.exit ?_|refine WC.block ?_)|refine WC.aB rfl ?_|refine WC.ax rfl ?_|with_reducible (first|refine aC ?_|refine dQ ?_))
 ·have tO:i < Ny.length:=by omega
  have DN:=List.getElem?_eq_getElem tO
  obtain ⟨v,hv,G5,hvr⟩:=Ff.Jx Ny[i] (List.getElem_mem tO)
  rw [hv] at DN
  obtain ⟨qb',qc',abV,Ac,hq0,wO,V6,hqx⟩:=G9.ord.cell DN
  rw [ve] at Ac
  cases Ac
  have UB:Rd H1 qb _:=.inl V6
  have vX:=a7.rd sq lX
  obtain ⟨us,u,kI,Bs,G6,rL⟩:=hg.row (v:=v) (by rw [cU];exact G5)
  rw [cU] at kI
  rw [jg G5] at rL
  obtain ⟨ub,uc,hu⟩:=jG rL
  have Nu:Rd H1 ob us:=a7.rd LZ (.inl Bs)
  rw [hu] at G6 rL
  have K3:=kK (es:=es) (k:=2 * es.length) (v:=v)
  have K5:Mk uP v:=(Ff.SY v).2 (by rw [← hv];exact List.getElem_mem tO)
  repeat' (first|((first|refine WO.n rfl ?_|refine WO.k rfl ?_);(first|refine aK ?_|refine dD ?_|refine cM ?_|refine aJ ?_|refine bu ?_|refine aZ ?_|refine jC ?_))|with_reducible (first|refine WO.nil ?_|refine WC.aa ?_|refine WC.seq ?_|refine WC.block ?_|refine aC ?_))
  refine WC.sub aW (bfI (rb:=rb) lT gO oz jH hm fB he lX sq G5 hvr rL a7 G9 (Ff.aaO DN) tO K5 (fun σ H2 nx2 ov2 xs2 by2 aaP hσ bL ts2 bf2 KP eW=>?_))
  refine eh (eT (aC (WC.sub hσ ?_)))
  repeat' (first|((first|refine WO.n rfl ?_|refine WO.k rfl ?_);(first|refine aK ?_|refine bO ?_))|with_reducible (first|refine WO.nil ?_|refine WC.aa ?_))
  exact ⟨(i + 1,ov2,xs2,by2,aaP),by show m - (i + 1) < m - i;omega,.cons rfl aW,by show i + 1≤xs2.length;omega,by omega,bL,ts2,bf2⟩
 ·have:i=Ny.length:=by omega
  subst this
  exact aN _ _ _ Xy Ny SW uP aW a7 G9 Ff hU
theorem pO {f:FuncId} (hf:A.funcs f=some jD) (hh:∀vs H nx,A.aF f vs H nx=none) (lT:A.funcs 89=some ui) (gO:∀vs H nx,A.aF 89 vs H nx=none) (oz:A.funcs 90=some nL) (jH:∀vs H nx,A.aF 90 vs H nx=none)
  (uQ:A.funcs 88=some rJ) (mN:∀vs H nx,A.aF 88 vs H nx=none) (B8:A.funcs 66=some iV) (ny:∀vs H nx,A.aF 66 vs H nx=none)
  {n:Int} {m s pb ob oc:Nat} {es:List Ed} {base:Option Addr} {ec:Nat} (hm:jF n es) (fB:n=(m:Int)) (hs:s < m) (he:bS H nx 2 a5 (.slice base es.length ec) es) (lX:Rd H pb [.int .i64 n,.slice base es.length ec,.slice (some ⟨ob,0,some 1⟩) m oc]) (sq:pb < nx) (LZ:ob < nx) (hg:GS H (pb + 1) nx ob (fM es m (2 * es.length))) :
  WF A f [.pointer (some ⟨pb,0,none⟩),.int .i64 (s:Int)] H nx fun v H' nx'=>∃ov bv fv lv xs,v=.agg #[ov,bv,fv,lv]∧mM H' nx nx' ov xs∧(∀w:Nat,(w:Int)∈xs↔Reach es s w)∧(∀x∈xs,∃q:Nat,x=(q:Int)∧q < m)∧xs.length≤m∧an H H' nx∧nx≤nx':=by
 have cD:=hm.2.1
 subst fB
 refine WF.enter (hh _ _ _) hf ?_
 repeat' (first|((first|refine WO.n rfl ?_|refine WO.k rfl ?_);(first|refine dD ?_|refine sE ?_|refine aJ ?_|refine jC ?_))|with_reducible (first|refine WO.nil ?_|refine WC.aa ?_|refine WC.seq ?_|refine aC ?_))
 have bM:an H (aw H nx [.slice none 0 0,.slice none 0 0,.slice none 0 0,.slice none 0 0]) nx:=an.refl.set (Nat.le_refl _)
 have aaQ:=bM.rd sq lX
 repeat' (fail)
 refine WO.cn rfl ?_
 refine (G8 uQ mN B8 ny (m:=m) (by omega) hs).of ?_
 rintro _ H1 aT ⟨qb,bb,bc,fb,fc,rfl,g1,g2,g3,g4,g5,g6,g7,a7⟩
 repeat' (first|((first|refine WO.n rfl ?_|refine WO.k rfl ?_);(first|refine aK ?_|refine sE ?_|refine fL ?_))|with_reducible (first|refine WO.nil ?_|refine WC.aa ?_|refine WC.seq ?_|refine WC.block ?_|refine aC ?_))
 refine WC.sub aW (bfO (rb:=nx) (tb:=aT) (lo:=nx + 1) (Hs:=aw H nx [.slice none 0 0,.slice none 0 0,.slice none 0 0,.slice none 0 0]) (ov:=.slice (some ⟨qb,0,some 1⟩) 1 (2 * 1 + 1)) (xs:=[(s:Int)]) (by_:=List.replicate m (-1)) (far:=(List.replicate m (-1)).set s 0) (bb:=bb) (fb:=fb) (bc:=bc) (fc:=fc) lT gO oz jH hm rfl ((he.same bM).up (Nat.le_succ _)) aaQ (by omega) (by omega)
  (hg.frame (by rw [ai,if_neg (by omega)]) (fun b _ hb=>by rw [ai,if_neg (by omega)]) (Nat.le_succ _)) ((a7.set (by omega)).set (by omega))
  ⟨aq,⟨qb,_,_,rfl,g4,by omega,bz (by omega) (bz (by omega) g1),rfl,(by show 1≤au (2 * 1 + 1);decide),rfl⟩,bz (by omega) (bz (by omega) g2),bz (by omega) (bz (by omega) g3),by simp,by simp,fun e=>by cases e;omega,fun e=>by cases e;omega,fun e=>by cases e;omega,g6,g7,by omega,by omega⟩ (Bf.start hs)
  (fun σ H3 nx3 ov3 xs3 by3 abW hσ fH SZ bf3 mG=>?_))
 refine eh (aC (WC.sub hσ ?_))
 have rV:ak H3 (at_ nx)=some (.cells [.slice none 0 0,.slice none 0 0,.slice none 0 0,.slice none 0 0]):=(fH nx (by omega)).trans aq
 have SX:Rd H3 aT _:=.inl SZ.rd
 have hof:=SZ.ord
 obtain ⟨ob3,oc3,abX,V7,_⟩:=hof
 have d6:=SZ.d6
 have aaR:=SZ.ord
 rw [V7] at SX
 repeat' (first|(refine WO.n rfl ?_;(first|refine aJ ?_|refine fL ?_))|with_reducible (first|refine WO.nil ?_|refine WC.aa ?_|refine WC.seq ?_|refine WC.ret ?_|refine aC ?_))
 refine iz rfl aq rfl ⟨ov3,_,_,_,xs3,by rw [V7];rfl,?_,fun w=>bf3.done,fun x hx=>?_,?_,fun b hb=>?_,by omega⟩
 ·obtain ⟨b,c,cs,e,h1,h2,h3,h4⟩:=aaR
  exact ⟨b,c,cs,e,by omega,h2,bz (by omega) h3,h4⟩
 ·obtain ⟨q,q1,q2,_⟩:=bf3.Jx x hx
  exact ⟨q,q1,q2⟩
 ·have:=bf3.O1;omega
 ·rw [ai,if_neg (by omega),fH b (by omega),ai,if_neg (by omega)]
end Go.Eng

namespace Go.Eng
variable {A:aG} {H H':Heap} {nx nx':Nat} {σ:aP} {L:List Value} {Q:ct}
set_option maxRecDepth 100000
def vY (c:List Int) (N:Int) (l:List Int):List Int:=l.foldl (fun c x=>c.set x.toNat N) c
theorem Lc {c l:List Int} {N x:Int} {k:Nat} (h:l[k]?=some x):vY c N (l.take (k + 1))=(vY c N (l.take k)).set x.toNat N:=by
 unfold vY
 rw [List.take_add_one,h,List.foldl_append];rfl
theorem yY {N:Int}:∀{l c:List Int},(vY c N l).length=c.length:=by
 intro l
 induction l with
 | nil=>intro c;rfl
 | cons x l ih=>
  intro c
  show (vY (c.set x.toNat N) N l).length=_
  rw [ih,List.length_set]
theorem Ru {N:Int} (hN:0≤N):∀{l c:List Int} {w:Nat},(∀x∈l,∃q:Nat,x=(q:Int)∧q < c.length)→(Mk (vY c N l) w↔Mk c w∨(w:Int)∈l):=by
 intro l
 induction l with
 | nil=>intro c w _;exact ⟨.inl,fun h=>by rcases h with h|h;exact h;cases h⟩
 | cons x l ih=>
  intro c w hl
  obtain ⟨q,rfl,hq⟩:=hl x (by simp)
  show Mk (vY (c.set (q:Int).toNat N) N l) w↔_
  rw [Int.toNat_natCast,ih (fun y hy=>by rw [List.length_set];exact hl y (by simp [hy])),Mk.set hq hN,List.mem_cons]
  constructor
  ·rintro ((rfl|h)|h)
   ·exact .inr (.inl rfl)
   ·exact .inl h
   ·exact .inr (.inr h)
  ·rintro (h|h|h)
   ·exact .inl (.inr h)
   ·exact .inl (.inl (by omega))
   ·exact .inr h
theorem wpI {m cb lo N v pb cc:Nat} {nv ov:Value} {c xs:List Int} {Hs:Heap} {nxb:Nat} (hN:N≤1048576) (iP:c.length=m) (hx:∀x∈xs,∃q:Nat,x=(q:Int)∧q < m) (Rv:xs.length≤1048576)
  (hc:ay H cb c) (hs:an Hs H lo) (pW:lo≤cb) (LM:cb < nxb) (th:nxb≤nx) (st:mM H nxb nx ov xs)
  (aN:∀σ H' nx',bg [(S1,nv),(S5,.pointer (some ⟨pb,0,none⟩)),(S6,.slice (some ⟨cb,0,some 1⟩) m cc),(S7,.int .i64 ((N:Nat):Int)),(pD,.int .i64 ((m:Nat):Int)),(lf,.int .i64 ((v:Nat):Int))] σ→ay H' cb (vY c (N:Int) xs)→an Hs H' lo→nx≤nx'→Q (.exit 2) σ H' nx') :
  WC A (.loop Qq) [(S1,nv),(S5,.pointer (some ⟨pb,0,none⟩)),(S6,.slice (some ⟨cb,0,some 1⟩) m cc),(S7,.int .i64 ((N:Nat):Int)),(pD,.int .i64 ((m:Nat):Int)),(lf,.int .i64 ((v:Nat):Int)),(EN,ov),(zn,.int .i64 ((xs.length:Nat):Int)),(GF,.int .i64 0)] H nx Q:=by
 refine WC.loop (α:=Nat) (fun k=>[(S1,nv),(S5,.pointer (some ⟨pb,0,none⟩)),(S6,.slice (some ⟨cb,0,some 1⟩) m cc),(S7,.int .i64 ((N:Nat):Int)),(pD,.int .i64 ((m:Nat):Int)),(lf,.int .i64 ((v:Nat):Int)),(EN,ov),(zn,.int .i64 ((xs.length:Nat):Int)),(GF,.int .i64 ((k:Nat):Int))])
  (fun k H' nx'=>k≤xs.length∧nx≤nx'∧ay H' cb (vY c (N:Int) (xs.take k))∧an Hs H' lo∧mM H' nxb nx' ov xs) (fun k=>xs.length - k)
  ?_ 0 aW ⟨Nat.zero_le _,Nat.le_refl _,hc,hs,st⟩
 rintro k H1 aT ⟨hk,cD,jT,a7,jf⟩
 have Fe:ak H1 (at_ cb)=some (.cells ((vY c (N:Int) (xs.take k)).map (.int .i64))):=jT
 have hlen:(vY c (N:Int) (xs.take k)).length=m:=by rw [yY];exact iP
 unfold Qq
 repeat' (first|((first|refine WO.n rfl ?_|refine WO.k rfl ?_);(refine ei (fun h=>?_) (fun h=>?_)<;>(try simp only [Int.ofNat_eq_natCast] at h)))|with_reducible (first|refine WO.nil ?_|refine WC.aa ?_|refine WC.seq ?_|refine WC.skip ?_|refine WC.exit ?_|refine WC.block ?_)|refine WC.aB rfl ?_|refine WC.ax rfl ?_|with_reducible (first|refine aC ?_|refine dQ ?_))
 ·have cI:k < xs.length:=by omega
  have DN:=List.getElem?_eq_getElem cI
  obtain ⟨w,hw,O4⟩:=hx xs[k] (List.getElem_mem cI)
  rw [hw] at DN
  obtain ⟨qb,qc,qcs,rfl,hq0,wO,V6,hqx⟩:=jf.cell DN
  have UB:Rd H1 qb _:=.inl V6
  have bP:=Lc (c:=c) (N:=(N:Int)) DN
  rw [Int.toNat_natCast] at bP
  repeat' (first|((first|refine WO.n rfl ?_|refine WO.k rfl ?_);(first|refine aK ?_|refine bu ?_|refine aZ ?_|refine fj ?_|refine bO ?_))|with_reducible (first|refine WO.nil ?_|refine WC.aa ?_|refine aC ?_|refine eT ?_))
  refine ⟨k + 1,by omega,.cons rfl aW,by omega,by omega,?_,a7.set (by omega),jf.own (fun b hb=>by cases hb;rw [ai,if_neg (by omega)]) (Nat.le_refl _)⟩
  rw [bP]
  unfold ay
  rw [aq,List.map_set,Nat.zero_add,Nat.mul_one]
 ·have:k=xs.length:=by omega
  subst this
  rw [List.take_length] at jT
  exact aN _ _ _ aW jT a7 cD
theorem wpO {n:Int} {m cb lo pb ob oc cc:Nat} {nv:Value} {es:List Ed} {base:Option Addr} {ec:Nat} {c:List Int} {Hs:Heap} (Nz:A.funcs 67=some jD) (yZ:∀vs H nx,A.aF 67 vs H nx=none) (lT:A.funcs 89=some ui) (gO:∀vs H nx,A.aF 89 vs H nx=none) (oz:A.funcs 90=some nL) (jH:∀vs H nx,A.aF 90 vs H nx=none)
  (uQ:A.funcs 88=some rJ) (mN:∀vs H nx,A.aF 88 vs H nx=none) (B8:A.funcs 66=some iV) (ny:∀vs H nx,A.aF 66 vs H nx=none)
  (hm:jF n es) (fB:n=(m:Int)) (he:bS Hs lo 2 a5 (.slice base es.length ec) es) (lX:Rd Hs pb [.int .i64 n,.slice base es.length ec,.slice (some ⟨ob,0,some 1⟩) m oc]) (sq:pb < lo) (LZ:ob < lo) (hg:GS Hs (pb + 1) lo ob (fM es m (2 * es.length)))
  (iP:c.length=m) (hc0:∀w,w < m→(Mk c w↔Old es 0 w)) (hc:ay H cb c) (hs:an Hs H lo) (pW:lo≤cb) (LM:cb < nx)
  (aN:∀σ H' nx',bg [(S6,.slice (some ⟨cb,0,some 1⟩) m cc),(S7,.int .i64 ((aE es m:Nat):Int))] σ→an Hs H' lo→nx≤nx'→Q (.exit 0) σ H' nx') :
  WC A (.loop JT) [(S1,nv),(S5,.pointer (some ⟨pb,0,none⟩)),(S6,.slice (some ⟨cb,0,some 1⟩) m cc),(S7,.int .i64 0),(pD,.int .i64 ((m:Nat):Int)),(lf,.int .i64 0)] H nx Q:=by
 have cD:=hm.2.1
 refine WC.loop (α:=Nat×List Int) (fun k=>[(S1,nv),(S5,.pointer (some ⟨pb,0,none⟩)),(S6,.slice (some ⟨cb,0,some 1⟩) m cc),(S7,.int .i64 ((aE es k.1:Nat):Int)),(pD,.int .i64 ((m:Nat):Int)),(lf,.int .i64 ((k.1:Nat):Int))])
  (fun k H' nx'=>k.1≤m∧nx≤nx'∧ay H' cb k.2∧an Hs H' lo∧k.2.length=m∧∀w,w < m→(Mk k.2 w↔Old es k.1 w)) (fun k=>m - k.1)
  ?_ (0,c) aW ⟨Nat.zero_le _,Nat.le_refl _,hc,hs,iP,hc0⟩
 rintro ⟨s,c1⟩ H1 aT ⟨hk,hU,jT,a7,oy,zt⟩
 simp only at hk jT oy zt ⊢
 have V2:=ed (es:=es) (k:=s)
 have Fe:ak H1 (at_ cb)=some (.cells (c1.map (.int .i64))):=jT
 subst fB
 unfold JT
 repeat' (first|((first|refine WO.n rfl ?_|refine WO.k rfl ?_);(first|refine aK ?_|refine aZ ?_|(refine ei (fun h=>?_) (fun h=>?_)<;>(try simp only [Int.ofNat_eq_natCast] at h))))|with_reducible (first|refine WO.nil ?_|refine WC.aa ?_|refine WC.seq ?_|refine WC.skip ?_|refine WC.exit ?_|refine WC.block ?_)|refine WC.aB rfl ?_|refine WC.ax rfl ?_|with_reducible (first|refine aC ?_|refine dQ ?_))
 ·have ml:s < m:=by omega
  have lJ:=List.getElem?_eq_getElem (show s < c1.length by omega)
  generalize c1[s]=x at lJ
  have AQ:=ay.cell lJ
  repeat' (first|((first|refine WO.n rfl ?_|refine WO.k rfl ?_);(first|refine aK ?_|refine bu ?_|(refine C9 (fun h=>?_) (fun h=>?_)<;>(try simp only [Int.ofNat_eq_natCast] at h))|refine bO ?_))|with_reducible (first|refine WO.nil ?_|refine WC.aa ?_|refine WC.seq ?_|refine WC.skip ?_|refine WC.exit ?_)|refine WC.aB rfl ?_|refine WC.ax rfl ?_|with_reducible (first|refine aC ?_|refine dQ ?_|refine eh ?_))
  ·have ho:Old es s s:=(zt s ml).1 ⟨x,lJ,by omega⟩
   refine ⟨(s + 1,c1),by show m - (s + 1) < m - s;omega,.cons rfl (.cons rfl (.cons rfl (.cons ?_ (.cons rfl (.cons rfl (.nil _)))))),by show s + 1≤m;omega,by omega,jT,a7,oy,fun w hw=>by rw [Old.same ho];exact zt w hw⟩
   show some _=some _
   rw [fY ho]
  ·have iQ:¬Old es s s:=fun ho=>Mk.not lJ (by omega) ((zt s ml).2 ho)
   refine WO.cn rfl ?_
   refine (pO Nz yZ lT gO oz jH uQ mN B8 ny hm rfl ml ((he.same a7).up (by omega)) (a7.rd sq lX) (by omega) (by omega) (hg.frame (a7 ob LZ) (fun b _ hb=>a7 b hb) (by omega))).of ?_
   rintro _ H2 nx2 ⟨ov,bv,fv,lv,xs,rfl,st,XB,Rv,hxl,bL,eW⟩
   have sr:ay H2 cb c1:=(bL cb (by omega)).trans jT
   have mO:an Hs H2 lo:=a7.trans bL (by omega)
   obtain ⟨qb,qc,qcs,rfl,bP⟩:=id st
   repeat' (first|(refine WO.k rfl ?_;(first|refine aK ?_|refine wa2 ?_|refine cM ?_))|with_reducible (first|refine WO.nil ?_|refine WC.block ?_|refine aC ?_))
   refine WC.sub aW (wpI (v:=s) (pb:=pb) (nxb:=aT) (by omega) oy Rv (by omega) sr mO pW (by omega) (by omega) st (fun σ H3 nx3 hσ sQ fH mG=>?_))
   refine eh (aC (WC.sub hσ ?_))
   repeat' (first|((first|refine WO.n rfl ?_|refine WO.k rfl ?_);(first|refine aK ?_|refine bO ?_))|with_reducible (first|refine WO.nil ?_|refine WC.aa ?_|refine aC ?_|refine eT ?_))
   refine ⟨(s + 1,vY c1 ((aE es s:Nat):Int) xs),by show m - (s + 1) < m - s;omega,.cons rfl (.cons rfl (.cons rfl (.cons ?_ (.cons rfl (.cons rfl (.nil _)))))),by show s + 1≤m;omega,by omega,sQ,fH,by show (vY _ _ _).length=m;rw [yY];exact oy,fun w hw=>?_⟩
   ·show some _=some _
    rw [eJ iQ]
   ·show Mk (vY c1 _ xs) w↔_
    rw [Ru (by omega) (fun y hy=>by rw [oy];exact Rv y hy),Old.succ,zt w hw,XB w]
 ·have:s=m:=by omega
  subst this
  exact aN _ _ _ aW a7 hU
theorem BG {f:FuncId} (hf:A.funcs f=some sI) (hh:∀vs H nx,A.aF f vs H nx=none) (HV:A.funcs 46=some rH) (sg:∀vs H nx,A.aF 46 vs H nx=none) (V8:A.funcs 65=some J9) (Ld:∀vs H nx,A.aF 65 vs H nx=none) (Nz:A.funcs 67=some jD) (yZ:∀vs H nx,A.aF 67 vs H nx=none) (lT:A.funcs 89=some ui) (gO:∀vs H nx,A.aF 89 vs H nx=none) (oz:A.funcs 90=some nL) (jH:∀vs H nx,A.aF 90 vs H nx=none)
  (uQ:A.funcs 88=some rJ) (mN:∀vs H nx,A.aF 88 vs H nx=none) (B8:A.funcs 66=some iV) (ny:∀vs H nx,A.aF 66 vs H nx=none)
  {n:Int} {m:Nat} {ev:Value} {es:List Ed} (hm:jF n es) (fB:n=(m:Int)) (he:bS H nx 2 a5 ev es) :
  WF A f [.agg #[.int .i64 n,ev]] H nx fun v H' nx'=>∃u,v=oneOf [u,.int .i64 ((aE es m:Nat):Int),.int .i64 0]∧an H H' nx∧nx≤nx':=by
 obtain ⟨base,ec,rfl⟩:=he.form
 have cD:=hm.2.1
 subst fB
 refine WF.enter (hh _ _ _) hf ?_
 repeat' (first|((first|refine WO.n rfl ?_|refine WO.k rfl ?_);(first|refine aK ?_|refine jN ?_|refine aJ ?_))|with_reducible (first|refine WO.nil ?_|refine WC.aa ?_|refine WC.seq ?_|refine aC ?_))
 have bM:an H (aw H nx [.int .i64 (m:Int),.slice base es.length ec]) nx:=an.refl.set (Nat.le_refl _)
 refine WO.cn rfl ?_
 refine (qP HV sg ((he.same bM).up (Nat.le_succ _))).of ?_
 rintro _ H1 aT ⟨rfl,a7,hU⟩
 rw [decide_eq_true hm]
 have bp:an H H1 nx:=bM.trans a7 (by omega)
 have dB:Rd H1 nx [.int .i64 (m:Int),.slice base es.length ec]:=a7.rd (by omega) Rd.self
 repeat' (first|((first|refine WO.n rfl ?_|refine WO.k rfl ?_);(first|refine pA ?_|refine aJ ?_))|with_reducible (first|refine WO.nil ?_|refine WC.aa ?_|refine WC.seq ?_|refine WC.skip ?_)|refine WC.ax rfl ?_|with_reducible refine aC ?_)
 refine WO.cn rfl ?_
 refine (BC V8 Ld hm rfl ((he.same bp).up (by omega))).of ?_
 rintro _ H2 nx2 ⟨ob,oc,pb,rfl,JJ,Rs,K9,Rw,lX,hg,bL,eW⟩
 have df:an H H2 nx:=bp.trans bL (by omega)
 have kl:Rd H2 nx [.int .i64 (m:Int),.slice base es.length ec]:=bL.rd (by omega) dB
 repeat' (first|((first|refine WO.n rfl ?_|refine WO.k rfl ?_);(first|refine aK ?_|refine dD ?_|refine aJ ?_))|with_reducible (first|refine WO.nil ?_|refine WC.aa ?_|refine WC.seq ?_|refine aC ?_))
 refine WO.cn rfl ?_
 refine (j4 B8 ny (m:=m) (x:=-1) (by omega)).of ?_
 rintro _ H3 nx3 ⟨cb,cc,rfl,ss,K8,DM,Fe,fH⟩
 repeat' (first|(refine WO.k rfl ?_;(first|refine aK ?_|refine cM ?_))|with_reducible (first|refine WO.nil ?_|refine WC.aa ?_|refine WC.seq ?_|refine WC.block ?_|refine aC ?_))
 refine WC.sub aW (wpO (lo:=nx2) (Hs:=H2) (c:=List.replicate m (-1)) Nz yZ lT gO oz jH uQ mN B8 ny hm rfl ((he.same df).up (by omega)) lX Rw (by omega) hg (by simp) (fun w hw=>⟨fun ⟨x,h1,h2⟩=>by rw [List.getElem?_replicate,if_pos hw] at h1;cases h1;omega,fun h=>(Old.zero h).elim⟩) Fe fH K8 DM (fun σ H4 fZ hσ lU xl=>?_))
 refine eh (aC (WC.sub hσ ?_))
 repeat' (first|(refine WO.k rfl ?_;refine aK ?_)|with_reducible (first|refine WO.nil ?_|refine WC.aa ?_|refine WC.seq ?_|refine WC.ret ?_|refine aC ?_))
 exact az (vs:=[_,_,_]) rfl ⟨_,rfl,df.trans lU (by omega),by omega⟩
end Go.Eng

namespace Go.Eng
variable {A:aG} {H H':Heap} {nx nx':Nat} {σ:aP} {L:List Value} {Q:ct}
set_option maxRecDepth 100000
noncomputable def m6 (es:List Ed) (r:List (List Int)) (m:Nat):Int:=
 IntKind.i64.wrap (Int.tdiv (((2 * aE es m:Nat):Int) - (m:Int) + ((es.length:Nat):Int) - (((dh es r).length:Nat):Int)) 2)
theorem BH {f:FuncId} (hf:A.funcs f=some yF) (hh:∀vs H nx,A.aF f vs H nx=none) (h24:A.funcs 35=some pI) (Rx:∀vs H nx,A.aF 35 vs H nx=none) (yX:A.funcs 71=some HS) (ll:∀vs H nx,A.aF 71 vs H nx=none)
  (Rq:A.funcs 69=some qN) (DK:∀vs H nx,A.aF 69 vs H nx=none) (Rr:A.funcs 70=some xe) (DL:∀vs H nx,A.aF 70 vs H nx=none)
  (yS:A.funcs 60=some mF) (lh:∀vs H nx,A.aF 60 vs H nx=none)
  (VT:A.funcs 61=some pH) (K2:∀vs H nx,A.aF 61 vs H nx=none)
  (Rf:A.funcs 84=some w9) (Dz:∀vs H nx,A.aF 84 vs H nx=none) (KQ:A.funcs 117=some rI) (uE:∀vs H nx,A.aF 117 vs H nx=none)
  {n:Int} {m:Nat} {ev rv:Value} {es:List Ed} {r:List (List Int)} (g:cJ n es r) (ok:fS (dh es r) (2 * es.length)) (fB:n=(m:Int)) (he:bS H nx 2 a5 ev es) (hr:eY H nx 1 bq rv r) (cj:b8 r) :
  WF A f [.agg #[.int .i64 n,ev],rv] H nx fun v H' nx'=>v=.int .i64 (m6 es r m)∧an H H' nx∧nx≤nx':=by
 have hm:=g.may
 obtain ⟨m0,m1,m2,_⟩:=g.may
 obtain ⟨base,ec,rfl⟩:=he.form
 obtain ⟨bW,rc,rfl⟩:=hr.form
 subst fB
 refine WF.enter (hh _ _ _) hf ?_
 repeat' (first|((first|refine WO.n rfl ?_|refine WO.k rfl ?_);(first|refine aK ?_|refine jN ?_|refine aJ ?_))|with_reducible (first|refine WO.nil ?_|refine WC.aa ?_|refine WC.seq ?_|refine aC ?_))
 have bM:an H (aw H nx [.int .i64 (m:Int),.slice base es.length ec]) nx:=an.refl.set (Nat.le_refl _)
 refine WO.cn rfl ?_
 refine (BF h24 Rx yX ll Rq DK Rr DL yS lh hm rfl ((he.same bM).up (Nat.le_succ _))).of ?_
 rintro _ H1 aT ⟨u,rfl,a7,cD⟩
 have bp:an H H1 nx:=bM.trans a7 (by omega)
 have dB:Rd H1 nx [.int .i64 (m:Int),.slice base es.length ec]:=a7.rd (by omega) Rd.self
 have V2:=ed (es:=es) (k:=m)
 have K0:=ok.Rh
 repeat' (first|((first|refine WO.n rfl ?_|refine WO.k rfl ?_);(first|refine aK ?_|refine w6 ?_|refine dD ?_|refine cM ?_|refine aJ ?_|refine qL ?_|refine Da ?_|refine Db ?_))|with_reducible (first|refine WO.nil ?_|refine WC.drawn ?_|refine WC.seq ?_|refine aC ?_))
 refine WO.ca rfl ?_
 refine (mK VT K2 Rf Dz KQ uE g ((he.same bp).up (by omega)) ((hr.same bp).up (by omega)) cj (by omega)).of ?_
 rintro fv H2 nx2 ⟨nx0,vS,eW,hL,bL⟩
 obtain ⟨fb,fc,rfl⟩:=hL.form
 have kl:Rd H2 nx [.int .i64 (m:Int),.slice base es.length ec]:=bL.rd (by omega) dB
 have Q4:jK (.slice base es.length ec) (.slice base es.length ec)=true:=by
  obtain ⟨EI,c',q1,q2,_⟩:=he
  cases q1
  cases base with
  | none=>obtain ⟨p1,rfl⟩:=q2 rfl;rw [p1];rfl
  | some a=>simp [jK,ey]
 refine ⟨?_,?_⟩
 ·first
   | exact a6.look rfl kl rfl rfl Q4 (a6.look rfl kl rfl rfl (by simp [jK,ey]) .nil)
   | exact a6.look rfl kl rfl rfl (by simp [jK,ey]) (a6.look rfl kl rfl rfl Q4 .nil)
 repeat' (refine WO.n rfl ?_;(first|refine cM ?_|refine Db ?_))
 refine WO.n rfl ?_
 refine aH.of (Act.P5 rfl rfl (by decide)) ?_
 repeat' (first|(refine WO.k rfl ?_;refine aK ?_)|with_reducible (first|refine WO.nil ?_|refine WC.ret ?_|refine aC ?_|refine kf ?_))
 exact az (vs:=[_]) rfl ⟨rfl,bp.trans bL (by omega),by omega⟩
theorem DO {f:FuncId} (hf:A.funcs f=some Ka) (hh:∀vs H nx,A.aF f vs H nx=none)
  (VP:A.funcs 85=some pG) (KW:∀vs H nx,A.aF 85 vs H nx=none) (HV:A.funcs 46=some rH) (sg:∀vs H nx,A.aF 46 vs H nx=none)
  (VQ:A.funcs 86=some uh) (KX:∀vs H nx,A.aF 86 vs H nx=none) (Dy:A.funcs 118=some qM) (uH:∀vs H nx,A.aF 118 vs H nx=none)
  (h56:A.funcs 29=some sI) (aaS:∀vs H nx,A.aF 29 vs H nx=none) (V8:A.funcs 65=some J9) (Ld:∀vs H nx,A.aF 65 vs H nx=none) (Nz:A.funcs 67=some jD) (yZ:∀vs H nx,A.aF 67 vs H nx=none) (lT:A.funcs 89=some ui) (gO:∀vs H nx,A.aF 89 vs H nx=none) (oz:A.funcs 90=some nL) (jH:∀vs H nx,A.aF 90 vs H nx=none)
  (uQ:A.funcs 88=some rJ) (mN:∀vs H nx,A.aF 88 vs H nx=none) (B8:A.funcs 66=some iV) (ny:∀vs H nx,A.aF 66 vs H nx=none)
  {n:Int} {ev rv:Value} {es:List Ed} {r:List (List Int)} (ok:aQ n es r=0→fS (dh es r) (2 * es.length)) (he:bS H nx 2 a5 ev es) (hr:eY H nx 1 bq rv r) (cj:b8 r) :
  WF A f [.agg #[.int .i64 n,ev],rv] H nx fun v H' nx'=>∃x,v=oneOf [x,.int .i64 (aQ n es r)]∧(aQ n es r=0→x=.int .i64 (m6 es r n.toNat))∧an H H' nx∧nx≤nx':=by
 obtain ⟨base,ec,rfl⟩:=he.form
 obtain ⟨bW,rc,rfl⟩:=hr.form
 refine WF.enter (hh _ _ _) hf ?_
 repeat' (first|((first|refine WO.n rfl ?_|refine WO.k rfl ?_);(first|refine aK ?_|refine jN ?_|refine aJ ?_))|with_reducible (first|refine WO.nil ?_|refine WC.aa ?_|refine WC.seq ?_|refine aC ?_))
 have bM:an H (aw H nx [.int .i64 n,.slice base es.length ec]) nx:=an.refl.set (Nat.le_refl _)
 refine WO.cn rfl ?_
 refine (j2 VP HV KW sg ((he.same bM).up (Nat.le_succ _)) ((hr.same bM).up (Nat.le_succ _)) cj).of ?_
 rintro _ H1 aT ⟨rfl,a7,cD⟩
 have bp:an H H1 nx:=bM.trans a7 (by omega)
 have dB:Rd H1 nx [.int .i64 n,.slice base es.length ec]:=a7.rd (by omega) Rd.self
 repeat' (first|((first|refine WO.n rfl ?_|refine WO.k rfl ?_);(first|refine aK ?_|refine aJ ?_|(refine om (fun h=>?_) (fun h=>?_)<;>(try simp only [Int.ofNat_eq_natCast] at h))))|with_reducible (first|refine WO.nil ?_|refine WC.aa ?_|refine WC.seq ?_|refine WC.skip ?_|refine WC.ret ?_)|refine WC.aB rfl ?_|refine WC.ax rfl ?_|with_reducible (first|refine aC ?_|refine gM ?_))
 ·have cy:=h
  exact az (vs:=[_,_]) rfl ⟨_,rfl,fun h0=>absurd h0 (by first|exact cy|omega),bp,by omega⟩
 have heq:=h
 have h0:aQ n es r=0:=by omega
 have g:=iy h0
 have hm:=g.may
 obtain ⟨m0,m1,m2,_⟩:=g.may
 obtain ⟨m,rfl⟩:∃m:Nat,n=(m:Int):=⟨n.toNat,by omega⟩
 have K0:=(ok h0).Rh
 have V2:=ed (es:=es) (k:=m)
 refine WO.cn rfl ?_
 refine (BG h56 aaS HV sg V8 Ld Nz yZ lT gO oz jH uQ mN B8 ny hm rfl ((he.same bp).up (by omega))).of ?_
 rintro _ H2 nx2 ⟨u,rfl,bL,eW⟩
 have df:an H H2 nx:=bp.trans bL (by omega)
 have kl:Rd H2 nx [.int .i64 (m:Int),.slice base es.length ec]:=bL.rd (by omega) dB
 repeat' (first|((first|refine WO.n rfl ?_|refine WO.k rfl ?_);(first|refine aK ?_|refine w6 ?_|refine dD ?_|refine cM ?_|refine aJ ?_|refine qL ?_|refine Da ?_|refine Db ?_))|with_reducible (first|refine WO.nil ?_|refine WC.drawn ?_|refine WC.seq ?_|refine aC ?_))
 refine WO.ca rfl ?_
 refine (ow VQ KX Dy uH g ((he.same df).up (by omega)) ((hr.same df).up (by omega)) cj (by omega)).of ?_
 rintro fv H3 nx3 ⟨nx0,vS,mG,hL,fH⟩
 obtain ⟨fb,fc,rfl⟩:=hL.form
 have HT:Rd H3 nx [.int .i64 (m:Int),.slice base es.length ec]:=fH.rd (by omega) kl
 have Q4:jK (.slice base es.length ec) (.slice base es.length ec)=true:=by
  obtain ⟨EI,c',q1,q2,_⟩:=he
  cases q1
  cases base with
  | none=>obtain ⟨p1,rfl⟩:=q2 rfl;rw [p1];rfl
  | some a=>simp [jK,ey]
 refine ⟨?_,?_⟩
 ·first
   | exact a6.look rfl HT rfl rfl Q4 (a6.look rfl HT rfl rfl (by simp [jK,ey]) .nil)
   | exact a6.look rfl HT rfl rfl (by simp [jK,ey]) (a6.look rfl HT rfl rfl Q4 .nil)
 repeat' (refine WO.n rfl ?_;(first|refine cM ?_|refine Db ?_))
 refine WO.n rfl ?_
 refine aH.of (Act.P5 rfl rfl (by decide)) ?_
 repeat' (first|(refine WO.k rfl ?_;refine aK ?_)|with_reducible (first|refine WO.nil ?_|refine WC.ret ?_|refine aC ?_|refine kf ?_))
 rw [h0]
 exact az (vs:=[_,_]) rfl ⟨_,rfl,fun _=>rfl,df.trans fH (by omega),by omega⟩
end Go.Eng

namespace Go.Eng
variable {A:aG} {H H':Heap} {nx nx':Nat} {σ:aP} {L:List Value} {Q:ct}
set_option maxRecDepth 100000
noncomputable def cK (n:Int) (es:List Ed) (r:List (List Int)):Int:=if aQ n es r=0 then (if m6 es r n.toNat=0 then 0 else 5) else aQ n es r
theorem BI {f:FuncId} (hf:A.funcs f=some ER) (hh:∀vs H nx,A.aF f vs H nx=none) (h49:A.funcs 25=some J8) (aaT:∀vs H nx,A.aF 25 vs H nx=none) (h22:A.funcs 24=some M3) (Q9:∀vs H nx,A.aF 24 vs H nx=none)
  (h50:A.funcs 26=some yF) (aaU:∀vs H nx,A.aF 26 vs H nx=none) (h24:A.funcs 35=some pI) (Rx:∀vs H nx,A.aF 35 vs H nx=none) (yX:A.funcs 71=some HS) (ll:∀vs H nx,A.aF 71 vs H nx=none)
  (Rq:A.funcs 69=some qN) (DK:∀vs H nx,A.aF 69 vs H nx=none) (Rr:A.funcs 70=some xe) (DL:∀vs H nx,A.aF 70 vs H nx=none)
  (yS:A.funcs 60=some mF) (lh:∀vs H nx,A.aF 60 vs H nx=none)
  (VT:A.funcs 61=some pH) (K2:∀vs H nx,A.aF 61 vs H nx=none)
  (Rf:A.funcs 84=some w9) (Dz:∀vs H nx,A.aF 84 vs H nx=none) (KQ:A.funcs 117=some rI) (uE:∀vs H nx,A.aF 117 vs H nx=none)
  {n:Int} {ev rv:Value} {es:List Ed} {r:List (List Int)} (ok:aQ n es r=0→fS (dh es r) (2 * es.length)) (he:bS H nx 2 a5 ev es) (hr:eY H nx 1 bq rv r) (cj:b8 r) :
  WF A f [.agg #[.int .i64 n,ev],rv] H nx fun v H' nx'=>v=.int .i64 (cK n es r)∧an H H' nx∧nx≤nx':=by
 obtain ⟨base,ec,rfl⟩:=he.form
 obtain ⟨bW,rc,rfl⟩:=hr.form
 refine WF.enter (hh _ _ _) hf ?_
 repeat' (first|((first|refine WO.n rfl ?_|refine WO.k rfl ?_);(first|refine aK ?_|refine jN ?_|refine aJ ?_))|with_reducible (first|refine WO.nil ?_|refine WC.aa ?_|refine WC.seq ?_|refine aC ?_))
 have bM:an H (aw H nx [.int .i64 n,.slice base es.length ec]) nx:=an.refl.set (Nat.le_refl _)
 refine WO.cn rfl ?_
 refine (GX h49 h22 yS aaT Q9 lh ((he.same bM).up (Nat.le_succ _)) ((hr.same bM).up (Nat.le_succ _)) cj).of ?_
 rintro _ H1 aT ⟨rfl,a7,cD⟩
 have bp:an H H1 nx:=bM.trans a7 (by omega)
 have dB:Rd H1 nx [.int .i64 n,.slice base es.length ec]:=a7.rd (by omega) Rd.self
 by_cases h0:aQ n es r=0
 ·have g:=iy h0
  obtain ⟨m0,m1,m2,_⟩:=g.may
  obtain ⟨m,rfl⟩:∃m:Nat,n=(m:Int):=⟨n.toNat,by omega⟩
  have hp:cK (m:Int) es r=if m6 es r m=0 then 0 else 5:=by unfold cK;rw [if_pos h0];rfl
  rw [h0]
  repeat' (first|((first|refine WO.n rfl ?_|refine WO.k rfl ?_);(first|refine aK ?_|refine kg ?_|refine aJ ?_|(refine zl (fun h=>?_) (fun h=>?_)<;>(try simp only [Int.ofNat_eq_natCast] at h))))|refine WO.dC rfl ?_|refine WO.nI rfl ?_|with_reducible (first|refine WO.nil ?_|refine WC.aa ?_|refine WC.seq ?_|refine WC.skip ?_|refine WC.ret ?_)|refine WC.ax rfl ?_|with_reducible refine aC ?_)
  ·refine WO.cn rfl ?_
   refine (BH h50 aaU h24 Rx yX ll Rq DK Rr DL yS lh VT K2 Rf Dz KQ uE g (ok h0) rfl ((he.same bp).up (by omega)) ((hr.same bp).up (by omega)) cj).of ?_
   rintro _ H2 nx2 ⟨rfl,bL,eW⟩
   have df:an H H2 nx:=bp.trans bL (by omega)
   repeat' (first|((first|refine WO.n rfl ?_|refine WO.k rfl ?_);(first|refine aK ?_|refine kg ?_|(refine om (fun h=>?_) (fun h=>?_)<;>(try simp only [Int.ofNat_eq_natCast] at h))))|refine WO.dC rfl ?_|with_reducible (first|refine WO.nil ?_|refine WC.aa ?_|refine WC.seq ?_|refine WC.skip ?_|refine WC.ret ?_)|refine WC.aB rfl ?_|refine WC.ax rfl ?_|with_reducible (first|refine aC ?_|refine gM ?_))
   ·have cy:=h
    refine az (vs:=[_]) rfl ⟨?_,df,by omega⟩
    rw [hp,if_neg (by first|exact cy|omega)];rfl
   ·have cy:=h
    refine az (vs:=[_]) rfl ⟨?_,df,by omega⟩
    rw [hp,if_pos (by omega)];rfl
  ·omega
 ·have hp:cK n es r=aQ n es r:=by unfold cK;rw [if_neg h0]
  repeat' (first|((first|refine WO.n rfl ?_|refine WO.k rfl ?_);(first|refine aK ?_|refine kg ?_|refine aJ ?_|(refine zl (fun h=>?_) (fun h=>?_)<;>(try simp only [Int.ofNat_eq_natCast] at h))))|refine WO.dC rfl ?_|refine WO.nI rfl ?_|with_reducible (first|refine WO.nil ?_|refine WC.aa ?_|refine WC.seq ?_|refine WC.skip ?_|refine WC.ret ?_)|refine WC.ax rfl ?_|with_reducible refine aC ?_)
  ·omega
  ·exact az (vs:=[_]) rfl ⟨by rw [hp];rfl,bp,by omega⟩
end Go.Eng

namespace Go.Eng
theorem Fg {n:Int} {es:List Ed} {r:List (List Int)} (g:cJ n es r) (i:Nat):∃x:Int,i < 2 * es.length→∃v k,v < r.length∧k < gN r v∧iX r v k=((da i:Nat):Int)∧x=iX r v ((k + 1) % gN r v):=by
 by_cases hi:i < 2 * es.length
 ·obtain ⟨v,k,hv,hk,e⟩:=g.all (da i) (eI hi)
  exact ⟨_,fun _=>⟨v,k,hv,hk,e,rfl⟩⟩
 ·exact ⟨0,fun h=>absurd h hi⟩
theorem NA {n:Int} {es:List Ed} {r:List (List Int)} (g:cJ n es r):∃l,fe es r l:=by
 refine ⟨(List.range (2 * es.length)).map fun i=>Classical.choose (Fg g i),by simp,fun v k hv hk=>?_⟩
 obtain ⟨g1,g2,_⟩:=g.ok v k hv hk
 have hi:da (iX r v k).toNat < 2 * es.length:=eI (by omega)
 rw [List.getElem?_map,List.getElem?_range hi]
 obtain ⟨v',k',lF,iE,e,hx⟩:=Classical.choose_spec (Fg g (da (iX r v k).toNat)) hi
 rw [hM] at e
 obtain ⟨rfl,rfl⟩:=g.inj v' k' v k lF iE hv hk (by omega)
 exact congrArg some hx
theorem hX {n:Int} {es:List Ed} {r:List (List Int)} (h:aQ n es r=0):fS (dh es r) (2 * es.length):=by
 have g:=iy h
 obtain ⟨l,hl⟩:=NA g
 exact DF g hl
end Go.Eng

namespace Go.Eng
theorem Old.root {es:List Ed} {k w:Nat} (h:Old es k w):∃r,r < k∧¬Old es r r∧Reach es r w:=by
 induction k with
 | zero=>exact (Old.zero h).elim
 | succ k ih=>
  by_cases h0:Old es k w
  ·obtain ⟨r,h1,h2,h3⟩:=ih h0
   exact ⟨r,by omega,h2,h3⟩
  ·have h1:Reach es k w:=(Old.succ.1 h).resolve_left h0
   refine ⟨k,by omega,fun ⟨t,h2,h3⟩=>h0 ⟨t,h2,h3.trans h1⟩,h1⟩
theorem Le {es:List Ed} {r r' w:Nat} (h:¬Old es r r) (h':¬Old es r' r') (h1:Reach es r w) (h2:Reach es r' w):r=r':=by
 rcases Nat.lt_trichotomy r r' with e|e|e
 ·exact (h' ⟨r,e,h1.trans h2.symm⟩).elim
 ·exact e
 ·exact (h ⟨r',e,h2.trans h1.symm⟩).elim
structure ln (es:List Ed) (m s:Nat) (c:List Int):Prop where
 len:c.length=m
 old:∀{w r},w < m→r < s→¬Old es r r→Reach es r w→c[w]?=some ((aE es r:Nat):Int)
 new:∀{w},w < m→¬Old es s w→c[w]?=some (-1)
theorem ln.start {es:List Ed} {m:Nat}:ln es m 0 (List.replicate m (-1)):=
 ⟨by simp,fun _ h=>absurd h (by omega),fun h _=>by rw [List.getElem?_replicate,if_pos h]⟩
theorem ln.marked {es:List Ed} {m s w:Nat} {c:List Int} (h:ln es m s c) (hw:w < m):Mk c w↔Old es s w:=by
 constructor
 ·rintro ⟨x,h1,h2⟩
  apply Classical.byContradiction
  intro h3
  rw [h.new hw h3] at h1
  cases h1
  omega
 ·intro h1
  obtain ⟨r,h2,h3,h4⟩:=h1.root
  exact ⟨_,h.old hw h2 h3 h4,by omega⟩
theorem ln.one {es:List Ed} {m s:Nat} {c c':List Int} (h:ln es m s c) (h':ln es m s c'):c=c':=by
 apply List.ext_getElem?
 intro w
 by_cases hw:w < m
 ·by_cases ho:Old es s w
  ·obtain ⟨r,h2,h3,h4⟩:=ho.root
   rw [h.old hw h2 h3 h4,h'.old hw h2 h3 h4]
  ·rw [h.new hw ho,h'.new hw ho]
 ·rw [List.getElem?_eq_none (by rw [h.len];omega),List.getElem?_eq_none (by rw [h'.len];omega)]
theorem ln.same {es:List Ed} {m s:Nat} {c:List Int} (h:ln es m s c) (ho:Old es s s):ln es m (s + 1) c:=
 ⟨h.len,fun {w r} hw hr hn V9=>h.old hw (Nat.lt_of_le_of_ne (by omega) (fun e=>by subst e;exact hn ho)) hn V9,fun hw hn=>h.new hw (fun h1=>hn ((Old.same ho).2 h1))⟩
theorem ln.next {es:List Ed} {m s:Nat} {c c':List Int} (h:ln es m s c) (iQ:¬Old es s s) (hl:c'.length=m)
  (h1:∀w,w < m→Reach es s w→c'[w]?=some ((aE es s:Nat):Int)) (h2:∀w,w < m→¬Reach es s w→c'[w]?=c[w]?):ln es m (s + 1) c':=by
 refine ⟨hl,fun {w r} hw hr hn V9=>?_,fun {w} hw hn=>?_⟩
 ·by_cases e:r=s
  ·subst e;exact h1 w hw V9
  ·rw [h2 w hw (fun h3=>e (Le hn iQ V9 h3))]
   exact h.old hw (by omega) hn V9
 ·rw [Old.succ] at hn
  rw [h2 w hw (fun h3=>hn (.inr h3))]
  exact h.new hw (fun h3=>hn (.inl h3))
theorem Ry {N:Int}:∀{l c:List Int} {w:Nat},w < c.length→(∀x∈l,∃q:Nat,x=(q:Int)∧q < c.length)→(w:Int)∈l→(vY c N l)[w]?=some N:=by
 intro l
 induction l with
 | nil=>intro c w _ _ h;cases h
 | cons x l ih=>
  intro c w hw hl h
  obtain ⟨q,rfl,hq⟩:=hl x (by simp)
  show (vY (c.set (q:Int).toNat N) N l)[w]?=_
  rw [Int.toNat_natCast]
  by_cases hm:(w:Int)∈l
  ·exact ih (by rw [List.length_set];exact hw) (fun y hy=>by rw [List.length_set];exact hl y (by simp [hy])) hm
  ·have e:w=q:=by
    rcases List.mem_cons.1 h with h1|h1
    ·omega
    ·exact (hm h1).elim
   subst e
   clear ih h
   have:∀{l c:List Int},(w:Int)∉l→(∀x∈l,∃q:Nat,x=(q:Int))→(vY c N l)[w]?=c[w]?:=by
    intro l
    induction l with
    | nil=>intro c _ _;rfl
    | cons y l ih=>
     intro c h1 h2
     obtain ⟨p,rfl⟩:=h2 y (by simp)
     show (vY (c.set (p:Int).toNat N) N l)[w]?=_
     rw [Int.toNat_natCast,ih (fun h3=>h1 (by simp [h3])) (fun z hz=>h2 z (by simp [hz])),List.getElem?_set,if_neg (fun e=>h1 (by simp [e]))]
   rw [this hm (fun y hy=>by obtain ⟨p,h1,_⟩:=hl y (by simp [hy]);exact ⟨p,h1⟩),List.getElem?_set,if_pos rfl,if_pos hw]
theorem NB {N:Int} {w:Nat}:∀{l c:List Int},(w:Int)∉l→(∀x∈l,∃q:Nat,x=(q:Int))→(vY c N l)[w]?=c[w]?:=by
 intro l
 induction l with
 | nil=>intro c _ _;rfl
 | cons y l ih=>
  intro c h1 h2
  obtain ⟨p,rfl⟩:=h2 y (by simp)
  show (vY (c.set (p:Int).toNat N) N l)[w]?=_
  rw [Int.toNat_natCast,ih (fun h3=>h1 (by simp [h3])) (fun z hz=>h2 z (by simp [hz])),List.getElem?_set,if_neg (fun e=>h1 (by simp [e]))]
end Go.Eng

namespace Go.Eng
variable {A:aG} {H H':Heap} {nx nx':Nat} {σ:aP} {L:List Value} {Q:ct}
set_option maxRecDepth 100000
theorem aaV {n:Int} {m cb lo pb ob oc cc:Nat} {nv:Value} {es:List Ed} {base:Option Addr} {ec:Nat} {c:List Int} {Hs:Heap} (Nz:A.funcs 67=some jD) (yZ:∀vs H nx,A.aF 67 vs H nx=none) (lT:A.funcs 89=some ui) (gO:∀vs H nx,A.aF 89 vs H nx=none) (oz:A.funcs 90=some nL) (jH:∀vs H nx,A.aF 90 vs H nx=none)
  (uQ:A.funcs 88=some rJ) (mN:∀vs H nx,A.aF 88 vs H nx=none) (B8:A.funcs 66=some iV) (ny:∀vs H nx,A.aF 66 vs H nx=none)
  (hm:jF n es) (fB:n=(m:Int)) (he:bS Hs lo 2 a5 (.slice base es.length ec) es) (lX:Rd Hs pb [.int .i64 n,.slice base es.length ec,.slice (some ⟨ob,0,some 1⟩) m oc]) (sq:pb < lo) (LZ:ob < lo) (hg:GS Hs (pb + 1) lo ob (fM es m (2 * es.length)))
  (hc0:ln es m 0 c) (hc:ay H cb c) (hs:an Hs H lo) (pW:lo≤cb) (LM:cb < nx)
  (aN:∀σ H' nx' c',bg [(S6,.slice (some ⟨cb,0,some 1⟩) m cc),(S7,.int .i64 ((aE es m:Nat):Int))] σ→ay H' cb c'→ln es m m c'→an Hs H' lo→nx≤nx'→Q (.exit 0) σ H' nx') :
  WC A (.loop JT) [(S1,nv),(S5,.pointer (some ⟨pb,0,none⟩)),(S6,.slice (some ⟨cb,0,some 1⟩) m cc),(S7,.int .i64 0),(pD,.int .i64 ((m:Nat):Int)),(lf,.int .i64 0)] H nx Q:=by
 have cD:=hm.2.1
 refine WC.loop (α:=Nat×List Int) (fun k=>[(S1,nv),(S5,.pointer (some ⟨pb,0,none⟩)),(S6,.slice (some ⟨cb,0,some 1⟩) m cc),(S7,.int .i64 ((aE es k.1:Nat):Int)),(pD,.int .i64 ((m:Nat):Int)),(lf,.int .i64 ((k.1:Nat):Int))])
  (fun k H' nx'=>k.1≤m∧nx≤nx'∧ay H' cb k.2∧an Hs H' lo∧ln es m k.1 k.2) (fun k=>m - k.1)
  ?_ (0,c) aW ⟨Nat.zero_le _,Nat.le_refl _,hc,hs,hc0⟩
 rintro ⟨s,c1⟩ H1 aT ⟨hk,hU,jT,a7,Hc⟩
 simp only at hk jT Hc ⊢
 have oy:=Hc.len
 have zt:=fun w hw=>Hc.marked (w:=w) hw
 have V2:=ed (es:=es) (k:=s)
 have Fe:ak H1 (at_ cb)=some (.cells (c1.map (.int .i64))):=jT
 subst fB
 unfold JT
 repeat' (first|((first|refine WO.n rfl ?_|refine WO.k rfl ?_);(first|refine aK ?_|refine aZ ?_|(refine ei (fun h=>?_) (fun h=>?_)<;>(try simp only [Int.ofNat_eq_natCast] at h))))|with_reducible (first|refine WO.nil ?_|refine WC.aa ?_|refine WC.seq ?_|refine WC.skip ?_|refine WC.exit ?_|refine WC.block ?_)|refine WC.aB rfl ?_|refine WC.ax rfl ?_|with_reducible (first|refine aC ?_|refine dQ ?_))
 ·have ml:s < m:=by omega
  have lJ:=List.getElem?_eq_getElem (show s < c1.length by omega)
  generalize c1[s]=x at lJ
  have AQ:=ay.cell lJ
  repeat' (first|((first|refine WO.n rfl ?_|refine WO.k rfl ?_);(first|refine aK ?_|refine bu ?_|(refine C9 (fun h=>?_) (fun h=>?_)<;>(try simp only [Int.ofNat_eq_natCast] at h))|refine bO ?_))|with_reducible (first|refine WO.nil ?_|refine WC.aa ?_|refine WC.seq ?_|refine WC.skip ?_|refine WC.exit ?_)|refine WC.aB rfl ?_|refine WC.ax rfl ?_|with_reducible (first|refine aC ?_|refine dQ ?_|refine eh ?_))
  ·have ho:Old es s s:=(zt s ml).1 ⟨x,lJ,by omega⟩
   refine ⟨(s + 1,c1),by show m - (s + 1) < m - s;omega,.cons rfl (.cons rfl (.cons rfl (.cons ?_ (.cons rfl (.cons rfl (.nil _)))))),by show s + 1≤m;omega,by omega,jT,a7,Hc.same ho⟩
   show some _=some _
   rw [fY ho]
  ·have iQ:¬Old es s s:=fun ho=>Mk.not lJ (by omega) ((zt s ml).2 ho)
   refine WO.cn rfl ?_
   refine (pO Nz yZ lT gO oz jH uQ mN B8 ny hm rfl ml ((he.same a7).up (by omega)) (a7.rd sq lX) (by omega) (by omega) (hg.frame (a7 ob LZ) (fun b _ hb=>a7 b hb) (by omega))).of ?_
   rintro _ H2 nx2 ⟨ov,bv,fv,lv,xs,rfl,st,XB,Rv,hxl,bL,eW⟩
   have sr:ay H2 cb c1:=(bL cb (by omega)).trans jT
   have mO:an Hs H2 lo:=a7.trans bL (by omega)
   obtain ⟨qb,qc,qcs,rfl,bP⟩:=id st
   repeat' (first|(refine WO.k rfl ?_;(first|refine aK ?_|refine wa2 ?_|refine cM ?_))|with_reducible (first|refine WO.nil ?_|refine WC.block ?_|refine aC ?_))
   refine WC.sub aW (wpI (v:=s) (pb:=pb) (nxb:=aT) (by omega) oy Rv (by omega) sr mO pW (by omega) (by omega) st (fun σ H3 nx3 hσ sQ fH mG=>?_))
   refine eh (aC (WC.sub hσ ?_))
   repeat' (first|((first|refine WO.n rfl ?_|refine WO.k rfl ?_);(first|refine aK ?_|refine bO ?_))|with_reducible (first|refine WO.nil ?_|refine WC.aa ?_|refine aC ?_|refine eT ?_))
   refine ⟨(s + 1,vY c1 ((aE es s:Nat):Int) xs),by show m - (s + 1) < m - s;omega,.cons rfl (.cons rfl (.cons rfl (.cons ?_ (.cons rfl (.cons rfl (.nil _)))))),by show s + 1≤m;omega,by omega,sQ,fH,Hc.next iQ (by rw [yY];exact oy) (fun w hw hr=>Ry (by omega) (fun y hy=>by rw [oy];exact Rv y hy) ((XB w).2 hr)) (fun w hw hr=>NB (fun h=>hr ((XB w).1 h)) (fun y hy=>by obtain ⟨q,h1,_⟩:=Rv y hy;exact ⟨q,h1⟩))⟩
   ·show some _=some _
    rw [eJ iQ]
 ·have:s=m:=by omega
  subst this
  exact aN _ _ _ c1 aW jT Hc a7 hU
theorem y0 {f:FuncId} (hf:A.funcs f=some sI) (hh:∀vs H nx,A.aF f vs H nx=none) (HV:A.funcs 46=some rH) (sg:∀vs H nx,A.aF 46 vs H nx=none) (V8:A.funcs 65=some J9) (Ld:∀vs H nx,A.aF 65 vs H nx=none) (Nz:A.funcs 67=some jD) (yZ:∀vs H nx,A.aF 67 vs H nx=none) (lT:A.funcs 89=some ui) (gO:∀vs H nx,A.aF 89 vs H nx=none) (oz:A.funcs 90=some nL) (jH:∀vs H nx,A.aF 90 vs H nx=none)
  (uQ:A.funcs 88=some rJ) (mN:∀vs H nx,A.aF 88 vs H nx=none) (B8:A.funcs 66=some iV) (ny:∀vs H nx,A.aF 66 vs H nx=none)
  {n:Int} {m:Nat} {ev:Value} {es:List Ed} (hm:jF n es) (fB:n=(m:Int)) (he:bS H nx 2 a5 ev es) :
  WF A f [.agg #[.int .i64 n,ev]] H nx fun v H' nx'=>∃b bc c,v=oneOf [.slice (some ⟨b,0,some 1⟩) m bc,.int .i64 ((aE es m:Nat):Int),.int .i64 0]∧m≤au bc∧nx≤b∧b < nx'∧ay H' b c∧ln es m m c∧an H H' nx∧nx≤nx':=by
 obtain ⟨base,ec,rfl⟩:=he.form
 have cD:=hm.2.1
 subst fB
 refine WF.enter (hh _ _ _) hf ?_
 repeat' (first|((first|refine WO.n rfl ?_|refine WO.k rfl ?_);(first|refine aK ?_|refine jN ?_|refine aJ ?_))|with_reducible (first|refine WO.nil ?_|refine WC.aa ?_|refine WC.seq ?_|refine aC ?_))
 have bM:an H (aw H nx [.int .i64 (m:Int),.slice base es.length ec]) nx:=an.refl.set (Nat.le_refl _)
 refine WO.cn rfl ?_
 refine (qP HV sg ((he.same bM).up (Nat.le_succ _))).of ?_
 rintro _ H1 aT ⟨rfl,a7,hU⟩
 rw [decide_eq_true hm]
 have bp:an H H1 nx:=bM.trans a7 (by omega)
 have dB:Rd H1 nx [.int .i64 (m:Int),.slice base es.length ec]:=a7.rd (by omega) Rd.self
 repeat' (first|((first|refine WO.n rfl ?_|refine WO.k rfl ?_);(first|refine pA ?_|refine aJ ?_))|with_reducible (first|refine WO.nil ?_|refine WC.aa ?_|refine WC.seq ?_|refine WC.skip ?_)|refine WC.ax rfl ?_|with_reducible refine aC ?_)
 refine WO.cn rfl ?_
 refine (BC V8 Ld hm rfl ((he.same bp).up (by omega))).of ?_
 rintro _ H2 nx2 ⟨ob,oc,pb,rfl,JJ,Rs,K9,Rw,lX,hg,bL,eW⟩
 have df:an H H2 nx:=bp.trans bL (by omega)
 have kl:Rd H2 nx [.int .i64 (m:Int),.slice base es.length ec]:=bL.rd (by omega) dB
 repeat' (first|((first|refine WO.n rfl ?_|refine WO.k rfl ?_);(first|refine aK ?_|refine dD ?_|refine aJ ?_))|with_reducible (first|refine WO.nil ?_|refine WC.aa ?_|refine WC.seq ?_|refine aC ?_))
 refine WO.cn rfl ?_
 refine (j4 B8 ny (m:=m) (x:=-1) (by omega)).of ?_
 rintro _ H3 nx3 ⟨cb,cc,rfl,ss,K8,DM,Fe,fH⟩
 repeat' (first|(refine WO.k rfl ?_;(first|refine aK ?_|refine cM ?_))|with_reducible (first|refine WO.nil ?_|refine WC.aa ?_|refine WC.seq ?_|refine WC.block ?_|refine aC ?_))
 refine WC.sub aW (aaV (lo:=nx2) (Hs:=H2) (c:=List.replicate m (-1)) Nz yZ lT gO oz jH uQ mN B8 ny hm rfl ((he.same df).up (by omega)) lX Rw (by omega) hg ln.start Fe fH K8 DM (fun σ H4 fZ c4 hσ hc4 lb4 lU xl=>?_))
 refine eh (aC (WC.sub hσ ?_))
 repeat' (first|(refine WO.k rfl ?_;refine aK ?_)|with_reducible (first|refine WO.nil ?_|refine WC.aa ?_|refine WC.seq ?_|refine WC.ret ?_|refine aC ?_))
 exact az (vs:=[_,_,_]) rfl ⟨cb,cc,c4,rfl,ss,by omega,by omega,hc4,lb4,df.trans lU (by omega),by omega⟩
end Go.Eng
