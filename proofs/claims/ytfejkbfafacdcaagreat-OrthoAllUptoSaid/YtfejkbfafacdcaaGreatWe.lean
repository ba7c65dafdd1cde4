import Derived.Test.YtfejkbfafacdcaaGreatWd
/- Walks over the program: part 5. -/

namespace Go.Eng
variable {A:aG} {H H':Heap} {nx nx':Nat} {σ:aP} {L:List Value} {Q:cw}
set_option maxRecDepth 100000
theorem E26.from (E:E26 A) {n:Int} {ev:Value} {es:List Ed} (he:bP H nx 2 bH ev es) {h:Nat} (hl:h < 2 * es.length) (eB:es.length≤4000) :
  WF A 33 [.agg #[.int .i64 n,ev],.int .i64 (h:Int)] H nx fun v H' nx'=>v=.int .i64 (ct es h)∧an H H' nx∧nx≤nx':=kN E.f33 (E.h rfl) he hl eB
theorem E26.bT (E:E26 A) {h:Nat} (hl:h≤1048576):WF A 35 [.int .i64 (h:Int)] H nx fun v H' nx'=>v=.int .i64 ((Eng.bT h:Nat):Int)∧H'=H∧nx'=nx:=wY E.f35 (E.h rfl) hl
theorem E26.QB (E:E26 A) {lv:Value} {l:List Int} (hl:bP H nx 1 aW lv l) (hm:l.length≤1048576) :
  WF A 34 [lv] H nx fun v H' nx'=>(¬fM l→v=oneOf [.int .i64 0,.bool false])∧(fM l→v=oneOf [.int .i64 (gP l l.length),.bool (decide (l.length≤1024))])∧H'=H∧nx'=nx:=Gk E.f34 (E.h rfl) hl hm
theorem E26.Vg (E:E26 A) {o av bv:Value} {bs:List (List Int)} (hb:dZ H nx 1 aW bv bs) (hl:bs.length≤1048576) (ht:∀k,k≤bs.length→total bs k≤1048576) (hr:∀k,(bs.getD k []).length≤1048576) :
  WF A 32 [.agg #[o,av,bv]] H nx fun v H' nx'=>v=.int .i64 ((total bs bs.length:Nat):Int)∧an H H' nx∧nx≤nx':=CX E.f32 (E.h rfl) hb hl ht hr
def sk (es:List Ed) (ang:List Int) (m k:Nat):List Int:=(List.range m).map fun v=>tot (hY ang (cg es k v))
theorem kR {es:List Ed} {ang:List Int} {m k:Nat}:(sk es ang m k).length=m:=by unfold sk;simp
theorem kS {es:List Ed} {ang:List Int} {m k v:Nat} (hv:v < m):(sk es ang m k)[v]?=some (tot (hY ang (cg es k v))):=by
 unfold sk
 rw [List.getElem?_map,List.getElem?_range hv];rfl
theorem Gs {es:List Ed} {ang:List Int} {m:Nat}:sk es ang m 0=List.replicate m 0:=by
 apply List.ext_getElem?
 intro i
 by_cases hi:i < m
 ·rw [kS hi,List.getElem?_replicate,if_pos hi];rfl
 ·rw [List.getElem?_eq_none (by rw [kR];omega),List.getElem?_eq_none (by simp;omega)]
theorem Ke {ang a b:List Int}:hY ang (a++b)=hY ang a++hY ang b:=by unfold hY;rw [List.map_append]
theorem Gt {es:List Ed} {ang:List Int} {m k v:Nat} (hv:v < m) (he:ct es k=(v:Int)):sk es ang m (k + 1)=(sk es ang m k).set v (tot (hY ang (cg es k v)) + ang.getD k 0):=by
 apply List.ext_getElem?
 intro i
 rw [List.getElem?_set]
 by_cases hi:i < m
 ·rw [kS hi,qX,kR]
  by_cases e:v=i
  ·subst e
   rw [if_pos rfl,if_pos hv,if_pos he,Ke,Mx]
   show some (_ + tot [ang.getD (((k:Nat):Int)).toNat 0])=_
   rw [My,Int.toNat_natCast]
  ·rw [if_neg e,if_neg (by rw [he];omega),kS hi]
 ·rw [List.getElem?_eq_none (by rw [kR];omega)]
  by_cases e:v=i
  ·omega
  ·rw [if_neg e,List.getElem?_eq_none (by rw [kR];omega)]
theorem QO {l:List Int} {B:Int} (h:∀x∈l,-B≤x∧x≤B) : -(B * l.length)≤tot l∧tot l≤B * l.length:=by
 have:=pT h l.length (Nat.le_refl _)
 rwa [kQ] at this
theorem rmA (E:E26 A) {n o:Int} {sb gb pb m:Nat} {v7 bv:Value} {base ab:Option Addr} {ec ac sc:Nat} {es:List Ed} {ang:List Int} {H0:Heap} (hm:kp n es) (ee:n=(m:Int)) (pY:ang.length=2 * es.length)
  (he:bP H0 sb 2 bH (.slice base es.length ec) es) (ha:bP H0 sb 1 aW (.slice ab ang.length ac) ang) (bg:an H0 H sb) (Gq:sb < nx) (rQ:gb < sb) (jJ:pb < sb) (hg:Rd H0 gb [.int .i64 n,.slice base es.length ec]) (hp:Rd H0 pb [.int .i64 o,.slice ab ang.length ac,bv]) (hz:au H sb (List.replicate m 0))
  (cO:∀σ H' nx',¬(∀x∈ang,1≤x∧x≤4)→aT [(S6,.bool false)] σ→an H0 H' sb→nx≤nx'→Q .ret σ H' nx')
  (aC:∀σ H' nx',(∀x∈ang,1≤x∧x≤4)→aT [(S3,.pointer (some ⟨gb,0,none⟩)),(S5,.pointer (some ⟨pb,0,none⟩)),(S7,v7),(S8,.slice (some ⟨sb,0,some 1⟩) m sc)] σ→au H' sb (sk es ang m (2 * es.length))→an H0 H' sb→nx≤nx'→Q (.exit 0) σ H' nx') :
  WC A (.loop O9) [(S3,.pointer (some ⟨gb,0,none⟩)),(S5,.pointer (some ⟨pb,0,none⟩)),(S7,v7),(S8,.slice (some ⟨sb,0,some 1⟩) m sc),(S9,.int .i64 0)] H nx Q:=by
 have eB:=hm.2.2.1
 refine WC.loop (α:=Nat) (fun k=>[(S3,.pointer (some ⟨gb,0,none⟩)),(S5,.pointer (some ⟨pb,0,none⟩)),(S7,v7),(S8,.slice (some ⟨sb,0,some 1⟩) m sc),(S9,.int .i64 ((k:Nat):Int))])
  (fun k H' nx'=>k≤ang.length∧an H0 H' sb∧nx≤nx'∧au H' sb (sk es ang m k)∧∀i x,i < k→ang[i]?=some x→1≤x∧x≤4) (fun k=>ang.length - k)
  ?_ 0 aN ⟨Nat.zero_le _,bg,Nat.le_refl _,by rw [Gs];exact hz,fun i x hi=>by omega⟩
 rintro k H1 aY ⟨hk,aS,b9,mi,hu⟩
 have RU:=aS.rd jJ hp
 have MC:=aS.rd rQ hg
 unfold O9
 repeat' (first|((first|refine WO.n rfl ?_|refine WO.k rfl ?_);(first|refine cI ?_|refine cH ?_|refine aJ ?_|(refine dt (fun h=>?_) (fun h=>?_)<;>(try simp only [Int.ofNat_eq_natCast] at h))))|with_reducible (first|refine WO.nil ?_|refine WC.aa ?_|refine WC.seq ?_|refine WC.skip ?_|refine WC.exit ?_|refine WC.block ?_)|refine WC.ax rfl ?_|refine WC.ay rfl ?_|with_reducible (first|refine aA ?_|refine ef ?_))
 ·have bF:k < ang.length:=by omega
  have iS:=List.getElem?_eq_getElem bF
  obtain ⟨cb,co,SZ,rfl,zq,_,_,MB,QM⟩:=ha.at (by intro e;rw [e] at bF;simp at bF)
  have QN:=aS.rd zq MB
  have kW:=nn bF
  have p1:=en (v:=.int .i64 (ang.getD k 0)) (QM k _ kW)
  have ka:=pU bF
  generalize Vh:ang.getD k 0=x at kW p1 ka
  by_cases hx:1≤x∧x≤4
  ·repeat' (first|((first|refine WO.n rfl ?_|refine WO.k rfl ?_);(first|refine aK ?_|refine cI ?_|refine fX ?_|refine aJ ?_|refine bj ?_|refine aZ ?_|(refine dt (fun h=>?_) (fun h=>?_)<;>(try simp only [Int.ofNat_eq_natCast] at h))|(refine Bu (fun h=>?_) (fun h=>?_)<;>(try simp only [Int.ofNat_eq_natCast] at h))))|refine WO.cB rfl ?_|refine WO.jH rfl ?_|with_reducible (first|refine WO.nil ?_|refine WC.aa ?_|refine WC.seq ?_|refine WC.skip ?_|refine WC.ret ?_)|refine WC.ax rfl ?_|refine WC.ay rfl ?_|with_reducible (first|refine aA ?_|refine dX ?_|refine iA ?_))
   all_goals try (exfalso;omega)
   refine WO.cn rfl ?_
   refine (E.from ((he.same aS).up (by omega)) (by omega) (by omega)).of ?_
   rintro _ H2 nx2 ⟨rfl,bI,fq⟩
   have bt:an H0 H2 sb:=aS.trans bI (by omega)
   have rW:au H2 sb (sk es ang m k):=(bI sb (by omega)).trans mi
   have OY:ao H2 (at_ sb)=some (.cells ((sk es ang m k).map (.int .i64))):=rW
   have abk:Rd H2 sb _:=.inl OY
   have Vf:=bt.rd jJ hp
   have abl:=bt.rd zq MB
   obtain ⟨v,hv,Wl⟩:=kk hm (show k < 2 * es.length by omega)
   have ve:v < m:=by omega
   rw [hv]
   have hc:=au.cell (kS (es:=es) (ang:=ang) (k:=k) ve)
   have Za:(sk es ang m k).length=m:=kR
   have hbt : -(8 * (k:Int))≤tot (hY ang (cg es k v))∧tot (hY ang (cg es k v))≤8 * (k:Int):=by
    have h1:=QO (l:=hY ang (cg es k v)) (B:=4) (fun y hy=>by
     unfold hY at hy
     obtain ⟨z,hz,rfl⟩:=List.mem_map.1 hy
     obtain ⟨q,rfl,q1,q2⟩:=pO.1 hz
     rw [Int.toNat_natCast]
     have:=hu q _ q1 (nn (by omega))
     omega)
    have h2:(hY ang (cg es k v)).length=(cg es k v).length:=by unfold hY;simp
    have h3:=fm (es:=es) (k:=k) (v:=v)
    omega
   repeat' (first|((first|refine WO.n rfl ?_|refine WO.k rfl ?_);(first|refine aK ?_|refine cI ?_|refine aJ ?_|refine bj ?_|refine aZ ?_|refine ep ?_|refine ba ?_|refine qO ?_))|with_reducible (first|refine WO.nil ?_|refine WC.aa ?_|refine WC.drawn ?_|refine aA ?_|refine dY ?_|refine nD ?_))
   refine ⟨k + 1,by omega,.cons rfl aN,by omega,bt.set (Nat.le_refl _),by omega,?_,fun i y hi hy=>?_⟩
   ·rw [Gt ve hv]
    unfold au
    rw [aw,List.map_set,Vh]
    congr 3
    omega
   ·rcases (show i < k∨i=k by omega) with h1|rfl
    ·exact hu i y h1 hy
    ·rw [kW] at hy;cases hy;exact hx
  ·have mm:¬(∀x∈ang,1≤x∧x≤4):=fun h=>hx (h x ka)
   repeat' (first|((first|refine WO.n rfl ?_|refine WO.k rfl ?_);(first|refine aK ?_|refine cI ?_|refine fX ?_|refine aJ ?_|refine bj ?_|refine aZ ?_|(refine dt (fun h=>?_) (fun h=>?_)<;>(try simp only [Int.ofNat_eq_natCast] at h))|(refine Bu (fun h=>?_) (fun h=>?_)<;>(try simp only [Int.ofNat_eq_natCast] at h))))|refine WO.cB rfl ?_|refine WO.jH rfl ?_|with_reducible (first|refine WO.nil ?_|refine WC.aa ?_|refine WC.seq ?_|refine WC.skip ?_|refine WC.ret ?_)|refine WC.ax rfl ?_|refine WC.ay rfl ?_|with_reducible (first|refine aA ?_|refine dX ?_|refine iA ?_))
   all_goals first
    | (exfalso;omega)
    | exact cO _ _ _ mm aN aS b9
 ·have SM:k=2 * es.length:=by omega
  refine aC _ _ _ (fun x hx=>?_) aN (by rw [← SM];exact mi) aS b9
  obtain ⟨i,hi,rfl⟩:=List.getElem_of_mem hx
  exact hu i _ (by omega) (List.getElem?_eq_getElem hi)
theorem rmB {sb gb pb m:Nat} {v5 v7 ev:Value} {sc:Nat} {l:List Int} {H0:Heap} {n:Int} (ee:n=(m:Int)) (By:l.length=m) (hm:m≤1048576) (bg:an H0 H sb) (rQ:gb < sb) (hg:Rd H0 gb [.int .i64 n,ev]) (hz:au H sb l)
  (cO:∀σ v,v < m→l[v]?≠some 4→aT [(S6,.bool false)] σ→Q .ret σ H nx)
  (aC:∀σ,(∀v,v < m→l[v]?=some 4)→aT [(S3,.pointer (some ⟨gb,0,none⟩)),(S5,v5),(S7,v7)] σ→Q (.exit 2) σ H nx) :
  WC A (.loop Pb) [(S3,.pointer (some ⟨gb,0,none⟩)),(S5,v5),(S7,v7),(S8,.slice (some ⟨sb,0,some 1⟩) m sc),(e8,.int .i64 0)] H nx Q:=by
 refine WC.loop (α:=Nat) (fun k=>[(S3,.pointer (some ⟨gb,0,none⟩)),(S5,v5),(S7,v7),(S8,.slice (some ⟨sb,0,some 1⟩) m sc),(e8,.int .i64 ((k:Nat):Int))])
  (fun k H' nx'=>k≤m∧H'=H∧nx'=nx∧∀v,v < k→l[v]?=some 4) (fun k=>m - k)
  ?_ 0 aN ⟨Nat.zero_le _,rfl,rfl,fun i hi=>by omega⟩
 rintro k H1 aY ⟨hk,rfl,rfl,hu⟩
 have MC:=bg.rd rQ hg
 have hzR:Rd H1 sb _:=.inl hz
 subst ee
 unfold Pb
 repeat' (first|((first|refine WO.n rfl ?_|refine WO.k rfl ?_);(first|refine cI ?_|refine aJ ?_|refine aZ ?_|(refine dt (fun h=>?_) (fun h=>?_)<;>(try simp only [Int.ofNat_eq_natCast] at h))))|with_reducible (first|refine WO.nil ?_|refine WC.aa ?_|refine WC.seq ?_|refine WC.skip ?_|refine WC.exit ?_|refine WC.block ?_)|refine WC.ax rfl ?_|refine WC.ay rfl ?_|with_reducible (first|refine aA ?_|refine ef ?_))
 ·have bF:k < l.length:=by omega
  have iS:=List.getElem?_eq_getElem bF
  generalize l[k]=x at iS
  have hc:=au.cell iS
  repeat' (first|((first|refine WO.n rfl ?_|refine WO.k rfl ?_);(first|refine aK ?_|refine bj ?_|(refine ke (fun h=>?_) (fun h=>?_)<;>(try simp only [Int.ofNat_eq_natCast] at h))|refine ba ?_))|with_reducible (first|refine WO.nil ?_|refine WC.aa ?_|refine WC.seq ?_|refine WC.skip ?_|refine WC.ret ?_)|refine WC.ax rfl ?_|refine WC.ay rfl ?_|with_reducible (first|refine aA ?_|refine dX ?_|refine dY ?_|refine iA ?_))
  all_goals have h1:=h
  ·exact cO _ k (by omega) (by rw [iS];intro e;cases e;omega) aN
  ·exact ⟨k + 1,by omega,.cons rfl aN,by omega,rfl,rfl,fun v hv=>by
    rcases (show v < k∨v=k by omega) with h2|rfl
    ·exact hu v h2
    ·rw [iS];congr 1;omega⟩
 ·have:k=m:=by omega
  subst this
  exact aC _ hu aN
def Gu (bs:List (List Int)) (N k:Nat):List Int:=(List.range N).map fun i=>if i < k then tot (bs.getD i []) else 0
theorem pV {bs:List (List Int)} {N k:Nat}:(Gu bs N k).length=N:=by unfold Gu;simp
theorem sX {bs:List (List Int)} {N k i:Nat} (hi:i < N):(Gu bs N k)[i]?=some (if i < k then tot (bs.getD i []) else 0):=by
 unfold Gu
 rw [List.getElem?_map,List.getElem?_range hi];rfl
theorem Kf {bs:List (List Int)} {N:Nat}:Gu bs N 0=List.replicate N 0:=by
 apply List.ext_getElem?
 intro i
 by_cases hi:i < N
 ·rw [sX hi,List.getElem?_replicate,if_pos hi,if_neg (by omega)]
 ·rw [List.getElem?_eq_none (by rw [pV];omega),List.getElem?_eq_none (by simp;omega)]
theorem Kg {bs:List (List Int)} {N k:Nat} (hk:k < N):Gu bs N (k + 1)=(Gu bs N k).set k (tot (bs.getD k [])):=by
 apply List.ext_getElem?
 intro i
 rw [List.getElem?_set]
 by_cases hi:i < N
 ·rw [sX hi,pV]
  by_cases e:k=i
  ·subst e
   rw [if_pos rfl,if_pos hk,if_pos (by omega)]
  ·rw [if_neg e,sX hi]
   by_cases h2:i < k
   ·rw [if_pos h2,if_pos (by omega)]
   ·rw [if_neg h2,if_neg (by omega)]
 ·rw [List.getElem?_eq_none (by rw [pV];omega)]
  by_cases e:k=i
  ·omega
  ·rw [if_neg e,List.getElem?_eq_none (by rw [pV];omega)]
theorem rmC (E:E26 A) {n o:Int} {tb gb pb N:Nat} {v7 av:Value} {base bb:Option Addr} {ec bc tc:Nat} {bs:List (List Int)} {H0:Heap} (hN:N≤1048576) (oa:bs.length=N) (Ba:∀k,(bs.getD k []).length≤1048576)
  (hb:dZ H0 tb 1 aW (.slice bb bs.length bc) bs) (bg:an H0 H tb) (Gq:tb < nx) (rQ:gb < tb) (jJ:pb < tb) (hg:Rd H0 gb [.int .i64 n,.slice base N ec]) (hp:Rd H0 pb [.int .i64 o,av,.slice bb bs.length bc]) (hz:au H tb (List.replicate N 0))
  (cO:∀σ H' nx',¬(∀b∈bs,fM b∧b.length≤1024)→aT [(S6,.bool false)] σ→an H0 H' tb→nx≤nx'→Q .ret σ H' nx')
  (aC:∀σ H' nx',(∀b∈bs,fM b∧b.length≤1024)→aT [(S5,.pointer (some ⟨pb,0,none⟩)),(S7,v7),(jM,.slice (some ⟨tb,0,some 1⟩) N tc)] σ→au H' tb (Gu bs N N)→an H0 H' tb→nx≤nx'→Q (.exit 4) σ H' nx') :
  WC A (.loop Pc) [(S3,.pointer (some ⟨gb,0,none⟩)),(S5,.pointer (some ⟨pb,0,none⟩)),(S7,v7),(jM,.slice (some ⟨tb,0,some 1⟩) N tc),(lF,.int .i64 0)] H nx Q:=by
 refine WC.loop (α:=Nat) (fun k=>[(S3,.pointer (some ⟨gb,0,none⟩)),(S5,.pointer (some ⟨pb,0,none⟩)),(S7,v7),(jM,.slice (some ⟨tb,0,some 1⟩) N tc),(lF,.int .i64 ((k:Nat):Int))])
  (fun k H' nx'=>k≤N∧an H0 H' tb∧nx≤nx'∧au H' tb (Gu bs N k)∧∀i b,i < k→bs[i]?=some b→fM b∧b.length≤1024) (fun k=>N - k)
  ?_ 0 aN ⟨Nat.zero_le _,bg,Nat.le_refl _,by rw [Kf];exact hz,fun i x hi=>by omega⟩
 rintro k H1 aY ⟨hk,aS,b9,mi,hu⟩
 have RU:=aS.rd jJ hp
 have MC:=aS.rd rQ hg
 unfold Pc
 repeat' (first|((first|refine WO.n rfl ?_|refine WO.k rfl ?_);(first|refine cI ?_|refine cH ?_|refine aJ ?_|(refine dt (fun h=>?_) (fun h=>?_)<;>(try simp only [Int.ofNat_eq_natCast] at h))))|with_reducible (first|refine WO.nil ?_|refine WC.aa ?_|refine WC.seq ?_|refine WC.skip ?_|refine WC.exit ?_|refine WC.block ?_)|refine WC.ax rfl ?_|refine WC.ay rfl ?_|with_reducible (first|refine aA ?_|refine ef ?_))
 ·have bF:k < bs.length:=by omega
  have QP:=List.getElem?_eq_getElem bF
  have jA:bs.getD k []=bs[k]:=by rw [List.getD_eq_getElem?_getD,QP];rfl
  have ka:=List.getElem_mem bF
  obtain ⟨rb,ro,vO,ib,ic,rfl,jo,iP,iD,hi⟩:=hb.at bF
  rw [← jA] at iD hi QP ka
  have kg:=aS.rd jo iP
  repeat' (refine WO.n rfl ?_;(first|refine bj ?_|refine aZ ?_))
  refine WO.cn rfl ?_
  refine (E.QB ((hi.same aS).up (by omega)) (Ba k)).of ?_
  rintro tv H2 nx2 ⟨Vi,u5,rfl,rfl⟩
  by_cases Kh:fM (bs.getD k [])
  ·obtain rfl:=u5 Kh
   have hbt:=uU Kh
   have TL:ao H2 (at_ tb)=some (.cells ((Gu bs N k).map (.int .i64))):=mi
   have Za:(Gu bs N k).length=N:=pV
   by_cases hle:(bs.getD k []).length≤1024
   ·rw [decide_eq_true hle,kQ]
    repeat' (first|((first|refine WO.n rfl ?_|refine WO.k rfl ?_);(first|refine aK ?_|refine AA ?_|refine rH ?_|refine aZ ?_|refine ep ?_|refine ba ?_))|with_reducible (first|refine WO.nil ?_|refine WC.aa ?_|refine WC.seq ?_|refine WC.skip ?_)|refine WC.ay rfl ?_|with_reducible (first|refine aA ?_|refine dY ?_))
    refine ⟨k + 1,by omega,.cons rfl aN,by omega,aS.set (Nat.le_refl _),by omega,?_,fun i y hi hy=>?_⟩
    ·rw [Kg (by omega)]
     unfold au
     rw [aw,List.map_set]
     congr 3
     omega
    ·rcases (show i < k∨i=k by omega) with h1|rfl
     ·exact hu i y h1 hy
     ·rw [QP] at hy;cases hy;exact ⟨Kh,hle⟩
   ·rw [decide_eq_false hle]
    repeat' (first|((first|refine WO.n rfl ?_|refine WO.k rfl ?_);(first|refine aK ?_|refine AA ?_|refine rH ?_))|with_reducible (first|refine WO.nil ?_|refine WC.aa ?_|refine WC.seq ?_|refine WC.ret ?_)|refine WC.ax rfl ?_|with_reducible (first|refine aA ?_|refine dX ?_|refine iA ?_))
    exact cO _ _ _ (fun h=>hle (h _ ka).2) aN aS b9
  ·obtain rfl:=Vi Kh
   repeat' (first|((first|refine WO.n rfl ?_|refine WO.k rfl ?_);(first|refine aK ?_|refine AA ?_|refine rH ?_))|with_reducible (first|refine WO.nil ?_|refine WC.aa ?_|refine WC.seq ?_|refine WC.ret ?_)|refine WC.ax rfl ?_|with_reducible (first|refine aA ?_|refine dX ?_|refine iA ?_))
   exact cO _ _ _ (fun h=>Kh (h _ ka).1) aN aS b9
 ·have SM:k=N:=by omega
  subst SM
  refine aC _ _ _ (fun x hx=>?_) aN mi aS b9
  obtain ⟨i,hi,rfl⟩:=List.getElem_of_mem hx
  exact hu i _ (by omega) (List.getElem?_eq_getElem hi)
theorem aal (E:E26 A) {nb pb tb i:Nat} {o:Int} {ab fb:Option Addr} {ac fc tc:Nat} {bv:Value} {es:List Ed} {ang:List Int} {fs bs:List (List Int)} {H0:Heap} (hz:uT es ang bs) (eB:es.length≤4000) (ok:dI fs (2 * es.length)) (hi:i < fs.length)
  (ha:bP H0 nb 1 aW (.slice ab ang.length ac) ang) (hl:dZ H0 nb 1 aW (.slice fb fs.length fc) fs) (bg:an H0 H nb) (Gq:nb≤nx) (jJ:pb < nb) (hp:Rd H0 pb [.int .i64 o,.slice ab ang.length ac,bv]) (Bb:tb < nb) (ht:au H0 tb (Gu bs es.length es.length))
  (aC:∀σ H' nx',aT [(S5,.pointer (some ⟨pb,0,none⟩)),(S7,.slice fb fs.length fc),(jM,.slice (some ⟨tb,0,some 1⟩) es.length tc),(iB,.int .i64 (i:Int)),(ko,.int .i64 (tot (eP ang bs (fs.getD i []))))] σ→an H0 H' nb→nx≤nx'→Q (.exit 8) σ H' nx') :
  WC A (.loop I7) [(S5,.pointer (some ⟨pb,0,none⟩)),(S7,.slice fb fs.length fc),(jM,.slice (some ⟨tb,0,some 1⟩) es.length tc),(iB,.int .i64 (i:Int)),(ko,.int .i64 0),(u7,.int .i64 0)] H nx Q:=by
 obtain ⟨f,hf⟩:∃f,fs.getD i []=f:=⟨_,rfl⟩
 have gO:=ok.row i
 have dW:=ok.JN i
 have wO:=ok.Bz
 have jA:fs.getD i []=fs[i]:=by rw [List.getD_eq_getElem?_getD,List.getElem?_eq_getElem hi];rfl
 obtain ⟨RT,ro,vO,ib,ic,rfl,jo,iP,iD,Kw⟩:=hl.at hi
 rw [← jA] at iD Kw
 rw [hf] at gO dW aC iD Kw
 have pY:(eP ang bs f).length=f.length:=by unfold eP;simp
 have yN:∀q,q < 2 * es.length→bT q < ang.length∧q / 2 < bs.length∧1≤ang.getD (bT q) 0∧ang.getD (bT q) 0≤4∧-1024≤tot (bs.getD (q / 2) [])∧tot (bs.getD (q / 2) [])≤1024:=fun q hq=>by
  have h1:=hz.al
  have h2:=hz.bl
  have ht:=de hq
  have rA:q / 2 < bs.length:=by omega
  have h4:=hz.a4 _ (pU (l:=ang) (q:=bT q) (by omega))
  have h5:=uU (hZ hz.un rA)
  have h6:=hZ hz.b1 rA
  exact ⟨by omega,rA,h4.1,h4.2,by omega,by omega⟩
 have xO:=pT (l:=eP ang bs f) (B:=1030) (fun x hx=>by
  obtain ⟨i,hi,e⟩:=List.getElem_of_mem hx
  obtain ⟨q,q1,q2⟩:=dW i (by omega)
  have h5:=np (ang:=ang) (bs:=bs) q1
  rw [List.getElem?_eq_getElem hi,e] at h5
  cases h5
  have:=yN q q2
  unfold jE
  split<;>omega)
 refine WC.loop (α:=Nat) (fun k=>[(S5,.pointer (some ⟨pb,0,none⟩)),(S7,.slice (some ⟨RT,ro,some 1⟩) fs.length fc),(jM,.slice (some ⟨tb,0,some 1⟩) es.length tc),(iB,.int .i64 (i:Int)),(ko,.int .i64 (gP (eP ang bs f) k)),(u7,.int .i64 ((k:Nat):Int))])
  (fun k H' nx'=>k≤f.length∧an H0 H' nb∧nx≤nx') (fun k=>f.length - k)
  ?_ 0 aN ⟨Nat.zero_le _,bg,Nat.le_refl _⟩
 rintro k H1 aY ⟨hk,aS,b9⟩
 have RF:=xO k (by omega)
 have RU:=aS.rd jJ hp
 have kg:=aS.rd jo iP
 have Vi:Rd H1 tb _:=aS.rd Bb (.inl ht)
 unfold I7
 repeat' (first|((first|refine WO.n rfl ?_|refine WO.k rfl ?_);(first|refine cH ?_|refine bj ?_|refine aZ ?_|(refine dt (fun h=>?_) (fun h=>?_)<;>(try simp only [Int.ofNat_eq_natCast] at h))))|with_reducible (first|refine WO.nil ?_|refine WC.aa ?_|refine WC.seq ?_|refine WC.skip ?_|refine WC.exit ?_|refine WC.block ?_)|refine WC.ax rfl ?_|refine WC.ay rfl ?_|with_reducible (first|refine aA ?_|refine ef ?_))
 ·have bF:k < f.length:=by omega
  obtain ⟨q,q1,q2⟩:=dW k bF
  have Bv:=jd (np (ang:=ang) (bs:=bs) q1)
  obtain ⟨t1,t2,t3,t4,t5,t6⟩:=yN q q2
  obtain ⟨fb,fo,D7,rfl,ou,_,_,qU,oy⟩:=Kw.at (by intro e;rw [e] at bF;simp at bF)
  have sf:=aS.rd ou qU
  have p1:=en (v:=.int .i64 (q:Int)) (oy k _ q1)
  obtain ⟨cb,co,SZ,rfl,zq,_,_,MB,QM⟩:=ha.at (by intro e;rw [e] at t1;simp at t1)
  have QN:=aS.rd zq MB
  have p2:=en (v:=.int .i64 (ang.getD (bT q) 0)) (QM _ _ (nn t1))
  have rA:q / 2 < es.length:=by omega
  have Ms:q % 2=1→jE bs q=-(tot (bs.getD (q / 2) [])):=fun h=>by unfold jE;rw [if_pos h]
  have hte:¬q % 2=1→jE bs q=tot (bs.getD (q / 2) []):=fun h=>by unfold jE;rw [if_neg h]
  have tX:=au.cell (sX (bs:=bs) (k:=es.length) rA)
  rw [if_pos rA] at tX
  repeat' (first|((first|refine WO.n rfl ?_|refine WO.k rfl ?_);(first|refine aK ?_|refine cI ?_|refine aJ ?_|refine bj ?_|refine aZ ?_|refine qO ?_))|with_reducible (first|refine WO.nil ?_|refine WC.drawn ?_|refine WC.seq ?_|refine aA ?_))
  refine WO.ca rfl ?_
  refine (E.bT (h:=q) (by omega)).of ?_
  rintro _ H2 nx2 ⟨rfl,rfl,rfl⟩
  refine ⟨bk.look rfl RU rfl rfl fx .nil,?_⟩
  repeat' (first|((first|refine WO.n rfl ?_|refine WO.k rfl ?_);(first|refine aK ?_|refine bj ?_|refine aZ ?_|(refine sJ (fun h=>?_) (fun h=>?_)<;>(try simp only [Int.ofNat_eq_natCast] at h))|refine ba ?_|refine AB ?_|refine sa ?_|refine qO ?_|refine pA ?_))|with_reducible (first|refine WO.nil ?_|refine WC.aa ?_|refine WC.seq ?_)|refine WC.ax rfl ?_|refine WC.ay rfl ?_|with_reducible (first|refine aA ?_|refine dY ?_|refine nD ?_))
  all_goals
   have h1:=h
   refine ⟨k + 1,by omega,.cons rfl (.cons rfl (.cons rfl (.cons rfl (.cons ?_ (.cons rfl (.nil _)))))),by omega,aS,by omega⟩
   show some (Value.int .i64 _)=some (Value.int .i64 _)
   rw [Bv]
   first
    | (rw [Ms (by omega)];exact congrArg (fun x=>some (Value.int .i64 x)) (by (try simp only [Int.ofNat_eq_natCast]);omega))
    | (rw [hte (by omega)];exact congrArg (fun x=>some (Value.int .i64 x)) (by (try simp only [Int.ofNat_eq_natCast]);omega))
 ·have:k=f.length:=by omega
  subst this
  refine aC _ _ _ (.cons rfl (.cons rfl (.cons rfl (.cons rfl (.cons ?_ (.nil _)))))) aS b9
  show some _=some _
  rw [← pY,kQ]
theorem rmF (E:E26 A) {nb pb tb:Nat} {o:Int} {ab fb:Option Addr} {ac fc tc:Nat} {bv:Value} {es:List Ed} {ang:List Int} {fs bs:List (List Int)} {H0:Heap} (hz:uT es ang bs) (eB:es.length≤4000) (ok:dI fs (2 * es.length))
  (ha:bP H0 nb 1 aW (.slice ab ang.length ac) ang) (hl:dZ H0 nb 1 aW (.slice fb fs.length fc) fs) (bg:an H0 H nb) (Gq:nb≤nx) (jJ:pb < nb) (hp:Rd H0 pb [.int .i64 o,.slice ab ang.length ac,bv]) (Bb:tb < nb) (ht:au H0 tb (Gu bs es.length es.length))
  (cO:∀σ H' nx' i,i < fs.length→tot (eP ang bs (fs.getD i []))≠(if (i:Int)=o then -4 else 4)→aT [(S6,.bool false)] σ→an H0 H' nb→nx≤nx'→Q .ret σ H' nx')
  (aC:∀σ H' nx',(∀i,i < fs.length→tot (eP ang bs (fs.getD i []))=if (i:Int)=o then -4 else 4)→an H0 H' nb→nx≤nx'→Q (.exit 6) σ H' nx') :
  WC A (.loop Pd) [(S5,.pointer (some ⟨pb,0,none⟩)),(S7,.slice fb fs.length fc),(jM,.slice (some ⟨tb,0,some 1⟩) es.length tc),(iB,.int .i64 0)] H nx Q:=by
 refine WC.loop (α:=Nat) (fun k=>[(S5,.pointer (some ⟨pb,0,none⟩)),(S7,.slice fb fs.length fc),(jM,.slice (some ⟨tb,0,some 1⟩) es.length tc),(iB,.int .i64 ((k:Nat):Int))])
  (fun k H' nx'=>k≤fs.length∧an H0 H' nb∧nx≤nx'∧∀i,i < k→tot (eP ang bs (fs.getD i []))=if (i:Int)=o then -4 else 4) (fun k=>fs.length - k)
  ?_ 0 aN ⟨Nat.zero_le _,bg,Nat.le_refl _,fun i hi=>by omega⟩
 rintro k H1 aY ⟨hk,aS,b9,hu⟩
 have wO:=ok.Bz
 unfold Pd
 repeat' (first|((first|refine WO.n rfl ?_|refine WO.k rfl ?_);(first|refine aK ?_|refine cH ?_|(refine dt (fun h=>?_) (fun h=>?_)<;>(try simp only [Int.ofNat_eq_natCast] at h))))|with_reducible (first|refine WO.nil ?_|refine WC.aa ?_|refine WC.seq ?_|refine WC.skip ?_|refine WC.exit ?_|refine WC.block ?_)|refine WC.ax rfl ?_|refine WC.ay rfl ?_|with_reducible (first|refine aA ?_|refine ef ?_))
 ·have bF:k < fs.length:=by omega
  refine WC.sub aN (aal E (H0:=H0) (nb:=nb) (pb:=pb) hz eB ok bF ha hl aS (by omega) jJ hp Bb ht (fun σ H2 nx2 hσ bI fq=>?_))
  refine ew (aA (WC.sub hσ ?_))
  have Vf:=bI.rd jJ hp
  have next:(tot (eP ang bs (fs.getD k []))=if (k:Int)=o then -4 else 4)→∀i,i < k + 1→tot (eP ang bs (fs.getD i []))=if (i:Int)=o then -4 else 4:=fun h i hi=>by
   rcases (show i < k∨i=k by omega) with h2|rfl
   ·exact hu i h2
   ·exact h
  generalize Th:tot (eP ang bs (fs.getD k []))=T at next hσ ⊢
  repeat' (first|((first|refine WO.n rfl ?_|refine WO.k rfl ?_);(first|refine aK ?_|refine cI ?_|refine fX ?_|refine aJ ?_|(refine sJ (fun h=>?_) (fun h=>?_)<;>(try simp only [Int.ofNat_eq_natCast] at h))|(refine ke (fun h=>?_) (fun h=>?_)<;>(try simp only [Int.ofNat_eq_natCast] at h))|refine ba ?_))|refine WO.cB rfl ?_|refine WO.jH rfl ?_|refine WO.Lx rfl ?_|with_reducible (first|refine WO.nil ?_|refine WC.aa ?_|refine WC.seq ?_|refine WC.skip ?_|refine WC.ret ?_)|refine WC.ax rfl ?_|refine WC.ay rfl ?_|with_reducible (first|refine aA ?_|refine dX ?_|refine dY ?_|refine iA ?_))
  all_goals first
   | (exfalso;omega)
   | exact ⟨k + 1,by omega,.cons rfl aN,by omega,bI,by omega,next (by split<;>omega)⟩
   | exact cO _ _ _ k bF (by rw [Th];split<;>omega) aN bI (by omega)
 ·have:k=fs.length:=by omega
  subst this
  exact aC _ _ _ hu aS b9
end Go.Eng

namespace Go.Eng
variable {A:aG} {H H':Heap} {nx nx':Nat} {σ:aP} {L:List Value} {Q:cw}
set_option maxRecDepth 100000
open Classical in
theorem Bc (E:E26 A) {n o:Int} {m:Nat} {ev rv av bv:Value} {es:List Ed} {r:List (List Int)} {ang:List Int} {bs:List (List Int)} (h0:bq n es r=0) (ee:n=(m:Int)) (he:bP H nx 2 bH ev es) (hr:dZ H nx 1 aW rv r) (cD:bX r)
  (ha:bP H nx 1 aW av ang) (Ek:ang.length≤1048576) (hb:dZ H nx 1 aW bv bs) (hl:bs.length≤1048576) (ht:∀k,k≤bs.length→total bs k≤1048576) (Ba:∀k,(bs.getD k []).length≤1048576) :
  WF A 11 [.agg #[.int .i64 n,ev],rv,.agg #[.int .i64 o,av,bv]] H nx fun v H' nx'=>v=.bool (decide (mU es (aD es r) m (cg es (2 * es.length)) o ang bs))∧an H H' nx∧nx≤nx':=by
 obtain ⟨base,ec,rfl⟩:=he.form
 obtain ⟨bu,rc,rfl⟩:=hr.form
 obtain ⟨ab,ac,rfl⟩:=ha.form
 obtain ⟨bb,bc,rfl⟩:=hb.form
 have g:=cd h0
 have C2:=g.may
 obtain ⟨m0,m1,m2,_⟩:=g.may
 have Qi:=g.len
 have ok:=ed h0
 have wO:=ok.Bz
 have htt:=ht _ (Nat.le_refl _)
 have no:¬mU es (aD es r) m (cg es (2 * es.length)) o ang bs→Value.bool false=.bool (decide (mU es (aD es r) m (cg es (2 * es.length)) o ang bs)):=fun h=>by rw [decide_eq_false h]
 refine WF.enter (E.h rfl _ _ _) E.f11 ?_
 repeat' (first|((first|refine WO.n rfl ?_|refine WO.k rfl ?_);(first|refine aK ?_|refine jL ?_|refine aJ ?_))|with_reducible (first|refine WO.nil ?_|refine WC.aa ?_|refine WC.seq ?_|refine aA ?_))
 have bg:an H (aI (aI H nx [.int .i64 n,.slice base es.length ec]) (nx + 1) [.int .i64 o,.slice ab ang.length ac,.slice bb bs.length bc]) nx:=(an.refl.set (Nat.le_refl _)).set (by omega)
 refine WO.cn rfl ?_
 refine (E.CY g ((he.same bg).up (by omega)) ((hr.same bg).up (by omega)) cD (by omega)).of ?_
 rintro fv H1 aY ⟨nx0,r9,b9,hL,aS⟩
 obtain ⟨fb,fc,rfl⟩:=hL.form
 have bn:an H H1 nx:=bg.trans aS (by omega)
 have pM:Rd H1 nx [.int .i64 n,.slice base es.length ec]:=aS.rd (by omega) (Rd.skip (by omega) Rd.self)
 have Bt:Rd H1 (nx + 1) [.int .i64 o,.slice ab ang.length ac,.slice bb bs.length bc]:=aS.rd (by omega) Rd.self
 clear bg aS
 generalize yR:aD es r=fs at hL ok wO no ⊢
 repeat' (first|((first|refine WO.n rfl ?_|refine WO.k rfl ?_);(first|refine aK ?_|refine cI ?_|refine cH ?_|refine fX ?_|refine aJ ?_|(refine dt (fun h=>?_) (fun h=>?_)<;>(try simp only [Int.ofNat_eq_natCast] at h))|(refine IU (fun h=>?_) (fun h=>?_)<;>(try simp only [Int.ofNat_eq_natCast] at h))|(refine ke (fun h=>?_) (fun h=>?_)<;>(try simp only [Int.ofNat_eq_natCast] at h))|refine qN ?_))|refine WO.cB rfl ?_|refine WO.jH rfl ?_|with_reducible (first|refine WO.nil ?_|refine WC.aa ?_|refine WC.seq ?_|refine WC.ret ?_)|refine WC.ax rfl ?_|with_reducible (first|refine aA ?_|refine dX ?_))
 ·have h1:=h
  exact az (vs:=[_]) rfl ⟨no fun hz=>by have:=hz.o0;omega,bn,by omega⟩
 ·have h1:=h
  exact az (vs:=[_]) rfl ⟨no fun hz=>by have:=hz.o1;omega,bn,by omega⟩
 ·have h1:=h
  exact az (vs:=[_]) rfl ⟨no fun hz=>by have:=hz.sz.al;omega,bn,by omega⟩
 ·have h1:=h
  exact az (vs:=[_]) rfl ⟨no fun hz=>by have:=hz.sz.bl;omega,bn,by omega⟩
 have Wo:0≤o:=by omega
 have CT:o < (fs.length:Int):=by omega
 have pY:ang.length=2 * es.length:=by omega
 have oa:bs.length=es.length:=by omega
 refine WO.cn rfl ?_
 refine (E.Vg (o:=.int .i64 o) (av:=.slice ab ang.length ac) ((hb.same bn).up (by omega)) hl ht Ba).of ?_
 rintro _ H2 nx2 ⟨rfl,bI,fq⟩
 have bt:an H H2 nx:=bn.trans bI (by omega)
 have sU:Rd H2 nx [.int .i64 n,.slice base es.length ec]:=bI.rd (by omega) pM
 have FI:Rd H2 (nx + 1) [.int .i64 o,.slice ab ang.length ac,.slice bb bs.length bc]:=bI.rd (by omega) Bt
 have w3:LL H2 nx0 aY (.slice fb fs.length fc) fs:=hL.JN (fun b h1 h2=>bI b h2) (Nat.le_refl _)
 subst ee
 repeat' (first|((first|refine WO.n rfl ?_|refine WO.k rfl ?_);(first|refine aK ?_|refine cI ?_|refine fX ?_|refine aJ ?_|refine mI ?_|(refine Bu (fun h=>?_) (fun h=>?_)<;>(try simp only [Int.ofNat_eq_natCast] at h))))|refine WO.cB rfl ?_|with_reducible (first|refine WO.nil ?_|refine WC.aa ?_|refine WC.seq ?_|refine WC.skip ?_|refine WC.ret ?_|refine WC.block ?_)|refine WC.ax rfl ?_|refine WC.ay rfl ?_|with_reducible (first|refine aA ?_|refine dX ?_))
 ·have h1:=h
  exact az (vs:=[_]) rfl ⟨no fun hz=>by have:=hz.sz.tt;omega,bt,by omega⟩
 have Mg:total bs bs.length≤16384:=by omega
 refine WC.sub aN (rmA E (H0:=H2) (sb:=nx2) (gb:=nx) (pb:=nx + 1) (m:=m) (v7:=.slice fb fs.length fc) C2 rfl pY ((he.same bt).up (by omega)) ((ha.same bt).up (by omega)) (an.refl.set (Nat.le_refl _)) (by omega) (by omega) (by omega) sU FI (er aw) (fun σ H3 iY hn hσ eL se=>?_) (fun σ H3 iY h4 hσ hz3 eL se=>?_))
 ·refine iA (dX ?_)
  exact cZ hσ (vs:=[_]) rfl ⟨no fun hz=>hn hz.sz.a4,bt.trans eL (by omega),by omega⟩
 have jC:an H H3 nx:=bt.trans eL (by omega)
 have Mo:Rd H3 nx [.int .i64 (m:Int),.slice base es.length ec]:=eL.rd (by omega) sU
 have RG:Rd H3 (nx + 1) [.int .i64 o,.slice ab ang.length ac,.slice bb bs.length bc]:=eL.rd (by omega) FI
 have w4:LL H3 nx0 aY (.slice fb fs.length fc) fs:=w3.JN (fun b h1 h2=>eL b (by omega)) (Nat.le_refl _)
 refine ew (aA (WC.sub hσ ?_))
 clear hσ
 repeat' (first|(refine WO.k rfl ?_;refine aK ?_)|with_reducible (first|refine WO.nil ?_|refine WC.aa ?_|refine WC.seq ?_|refine WC.block ?_|refine aA ?_))
 refine WC.sub aN (rmB (pb:=0) (H0:=H3) (sb:=nx2) (gb:=nx) (m:=m) (v5:=.pointer (some ⟨nx + 1,0,none⟩)) (v7:=.slice fb fs.length fc) (ev:=.slice base es.length ec) rfl kR (by omega) .refl (by omega) Mo hz3 (fun σ v hv cG hσ=>?_) (fun σ hu hσ=>?_))
 ·refine iA (dX ?_)
  exact cZ hσ (vs:=[_]) rfl ⟨no fun hz=>cG (by rw [kS hv,hz.nd v hv]),jC,by omega⟩
 have Ng:∀v,v < m→tot (hY ang (cg es (2 * es.length) v))=4:=fun v hv=>by
  have:=hu v hv
  rw [kS hv] at this
  exact Option.some.inj this
 refine ew (aA (WC.sub hσ ?_))
 clear hσ
 repeat' (first|((first|refine WO.n rfl ?_|refine WO.k rfl ?_);(first|refine aK ?_|refine cI ?_|refine cH ?_|refine aJ ?_|refine mI ?_))|with_reducible (first|refine WO.nil ?_|refine WC.aa ?_|refine WC.seq ?_|refine WC.block ?_|refine aA ?_))
 refine WC.sub aN (rmC E (H0:=H3) (tb:=iY) (gb:=nx) (pb:=nx + 1) (N:=es.length) (v7:=.slice fb fs.length fc) (by omega) oa Ba ((hb.same jC).up (by omega)) (an.refl.set (Nat.le_refl _)) (by omega) (by omega) (by omega) Mo RG (er aw) (fun σ H4 J6 hn hσ rL G1=>?_) (fun σ H4 J6 Kh hσ hz4 rL G1=>?_))
 ·refine iA (dX ?_)
  exact cZ hσ (vs:=[_]) rfl ⟨no fun hz=>hn fun b hb=>⟨hz.sz.un b hb,hz.sz.b1 b hb⟩,jC.trans rL (by omega),by omega⟩
 have hz:uT es ang bs:=⟨pY,oa,h4,fun b hb=>(Kh b hb).1,fun b hb=>(Kh b hb).2,Mg⟩
 have vQ:an H H4 nx:=jC.trans rL (by omega)
 have Wu:Rd H4 (nx + 1) [.int .i64 o,.slice ab ang.length ac,.slice bb bs.length bc]:=rL.rd (by omega) RG
 have Mh:LL H4 nx0 aY (.slice fb fs.length fc) fs:=w4.JN (fun b h1 h2=>rL b (by omega)) (Nat.le_refl _)
 refine ew (aA (WC.sub hσ ?_))
 clear hσ
 repeat' (first|(refine WO.k rfl ?_;refine aK ?_)|with_reducible (first|refine WO.nil ?_|refine WC.aa ?_|refine WC.seq ?_|refine WC.block ?_|refine aA ?_))
 refine WC.sub aN (rmF E (H0:=H4) (nb:=J6) (pb:=nx + 1) (tb:=iY) hz (by omega) ok ((ha.same vQ).up (by omega)) (Mh.UI.up (by omega)) .refl (Nat.le_refl _) (by omega) Wu (by omega) hz4 (fun σ H5 A6 i hi cG hσ yT Vj=>?_) (fun σ H5 A6 Ef yT Vj=>?_))
 ·refine iA (dX ?_)
  exact cZ hσ (vs:=[_]) rfl ⟨no fun hs=>cG (hs.fc i hi),vQ.trans yT (by omega),by omega⟩
 refine ew (aA ?_)
 repeat' (first|(refine WO.k rfl ?_;refine aK ?_)|with_reducible (first|refine WO.nil ?_|refine WC.aa ?_|refine WC.seq ?_|refine WC.ret ?_|refine aA ?_))
 refine az (vs:=[_]) rfl ⟨?_,vQ.trans yT (by omega),by omega⟩
 rw [decide_eq_true (p:=mU es fs m (cg es (2 * es.length)) o ang bs) ⟨Wo,CT,hz,Ng,Ef⟩]
 rfl
end Go.Eng

namespace Go.Eng
def pW (nxt:List Int) (k:Nat):Nat:=(nxt.getD k 0).toNat
structure QQ (nxt:List Int) (s0:Nat→Prop) (h0:Nat) (s:List Bool) (f:List Int):Prop where
 len:s.length=nxt.length
 sn:∀q:Nat,s[q]?=some true↔s0 q∨(q:Int)∈f
 new:∀x∈f,∃q:Nat,x=(q:Int)∧q < nxt.length∧¬s0 q
 nd:f.Nodup
structure QR (nxt:List Int) (s0:Nat→Prop) (h0:Nat) (s:List Bool) (f:List Int):Prop extends QQ nxt s0 h0 s f where
 fwd:∀q:Nat,(q:Int)∈f→((pW nxt q:Nat):Int)∈f
 bwd:∀q:Nat,q < nxt.length→((pW nxt q:Nat):Int)∈f→(q:Int)∈f
 has:s0 h0∨(h0:Int)∈f
def Path (nxt:List Int) (h0 k:Nat) (f:List Int):Prop:=
 (f=[]∧k=h0)∨(f[0]?=some (h0:Int)∧(∀(i q:Nat),f[i]?=some (q:Int)→i + 1 < f.length→f[i + 1]?=some ((pW nxt q:Nat):Int))∧∃l:Nat,f[f.length - 1]?=some (l:Int)∧pW nxt l=k)
theorem El {nxt:List Int} (hj:∀a b,a < nxt.length→b < nxt.length→pW nxt a=pW nxt b→a=b) {s0:Nat→Prop} {h0 k:Nat} {s:List Bool} {f:List Int}
  (hb:∀q,q < nxt.length→s0 (pW nxt q)→s0 q) (hi:QQ nxt s0 h0 s f) (hp:Path nxt h0 k f) (hk:s[k]?=some true):QR nxt s0 h0 s f:=by
 rcases hp with ⟨rfl,rfl⟩|⟨p0,p1,l,p2,p3⟩
 ·refine ⟨hi,fun q h=>(by cases h),fun q _ h=>(by cases h),?_⟩
  rcases (hi.sn k).1 hk with h|h
  ·exact .inl h
  ·cases h
 ·have xw:=(List.getElem?_eq_some_iff.1 p0).1
  have el:∀(i:Nat) (x:Int),f[i]?=some x→∃q:Nat,x=(q:Int)∧q < nxt.length∧¬s0 q:=fun i x h=>hi.new x (List.mem_of_getElem? h)
  have uniq:∀(i j:Nat) (x:Int),f[i]?=some x→f[j]?=some x→i=j:=fun i j x h1 h2=>by
   obtain ⟨a1,a2⟩:=List.getElem?_eq_some_iff.1 h1
   obtain ⟨b1,b2⟩:=List.getElem?_eq_some_iff.1 h2
   apply Classical.byContradiction
   intro cG
   have key:∀(i j:Nat) (hi:i < f.length) (hj:j < f.length),i < j→f[i]≠f[j]:=fun i j yK Hv Dx=>List.pairwise_iff_getElem.1 hi.nd i j yK Hv Dx
   rcases Nat.lt_or_gt_of_ne cG with h|h
   ·exact key i j a1 b1 h (by rw [a2,b2])
   ·exact key j i b1 a1 h (by rw [a2,b2])
  obtain ⟨l',e1,gx,lX⟩:=el _ _ p2
  have:l'=l:=by omega
  subst this
  have TG:(k:Int)∈f:=by
   rcases (hi.sn k).1 hk with h|h
   ·exact absurd (hb l' gx (by rw [p3];exact h)) lX
   ·exact h
  have MA:k=h0:=by
   obtain ⟨j,Bx,MD⟩:=List.getElem_of_mem TG
   have Ki:f[j]?=some (k:Int):=by rw [List.getElem?_eq_getElem Bx,MD]
   cases j with
   | zero=>rw [p0] at Ki;cases Ki;rfl
   | succ j=>
    have bR:j < f.length:=by omega
    obtain ⟨p,e2,Bt,_⟩:=el j _ (List.getElem?_eq_getElem bR)
    have e3:f[j]?=some (p:Int):=by rw [List.getElem?_eq_getElem bR,e2]
    have e4:=p1 j p e3 Bx
    rw [Ki] at e4
    have e5:pW nxt p=k:=by have:=Option.some.inj e4;omega
    have e6:=hj p l' Bt gx (by rw [e5,p3])
    subst e6
    have:=uniq _ _ _ e3 p2
    omega
  refine ⟨hi,fun q hq=>?_,fun q sE rA=>?_,.inr ?_⟩
  ·obtain ⟨j,Bx,MD⟩:=List.getElem_of_mem hq
   have Ki:f[j]?=some (q:Int):=by rw [List.getElem?_eq_getElem Bx,MD]
   by_cases hl:j + 1 < f.length
   ·exact List.mem_of_getElem? (p1 j q Ki hl)
   ·have:j=f.length - 1:=by omega
    subst this
    rw [p2] at Ki
    have:l'=q:=by have:=Option.some.inj Ki;omega
    subst this
    rw [p3];exact TG
  ·obtain ⟨j,Bx,MD⟩:=List.getElem_of_mem rA
   have Ki:f[j]?=some ((pW nxt q:Nat):Int):=by rw [List.getElem?_eq_getElem Bx,MD]
   cases j with
   | zero=>
    rw [p0] at Ki
    have e5:pW nxt q=pW nxt l':=by have:=Option.some.inj Ki;omega
    have:=hj q l' sE gx e5
    subst this
    exact List.mem_of_getElem? p2
   | succ j=>
    have bR:j < f.length:=by omega
    obtain ⟨p,e2,Bt,_⟩:=el j _ (List.getElem?_eq_getElem bR)
    have e3:f[j]?=some (p:Int):=by rw [List.getElem?_eq_getElem bR,e2]
    have e4:=p1 j p e3 Bx
    rw [Ki] at e4
    have e5:pW nxt q=pW nxt p:=by have:=Option.some.inj e4;omega
    have:=hj q p sE Bt e5
    subst this
    exact List.mem_of_getElem? e3
  ·rw [← MA];exact TG
theorem QS {s:List Bool} (h:s.count false=0) {k:Nat} (hk:k < s.length):s[k]?=some true:=by
 rw [List.getElem?_eq_getElem hk]
 congr 1
 cases e:s[k] with
 | true=>rfl
 | false=>
  have:=List.count_pos_iff.2 (e ▸ List.getElem_mem hk)
  omega
theorem Kj {nxt:List Int} (hn:mP nxt) (hj:∀a b,a < nxt.length→b < nxt.length→pW nxt a=pW nxt b→a=b) {s0:Nat→Prop} {h0:Nat} (hb:∀q,q < nxt.length→s0 (pW nxt q)→s0 q) :
  ∀(m k:Nat) (s:List Bool) (f:List Int),k < nxt.length→s.count false≤m→QQ nxt s0 h0 s f→Path nxt h0 k f→QR nxt s0 h0 (nG nxt m s k f).1 (nG nxt m s k f).2:=by
 intro m
 induction m with
 | zero=>
  intro k s f hk hc hi hp
  show QR nxt s0 h0 s f
  exact El hj hb hi hp (QS (by omega) (by rw [hi.len];exact hk))
 | succ m ih=>
  intro k s f hk hc hi hp
  have Vk:k < s.length:=by rw [hi.len];exact hk
  have kW:s.getD k true=s[k]:=by rw [List.getD_eq_getElem?_getD,List.getElem?_eq_getElem Vk];rfl
  cases e:s[k] with
  | true=>
   rw [pJ (by rw [kW,e])]
   exact El hj hb hi hp (by rw [List.getElem?_eq_getElem Vk,e])
  | false=>
   rw [pK (by rw [kW,e])]
   have mm:¬(s0 k∨(k:Int)∈f):=fun h=>by
    have:=(hi.sn k).2 h
    rw [List.getElem?_eq_getElem Vk,e] at this
    cases this
   obtain ⟨q,sE,rA⟩:=hn k hk
   have Wv:pW nxt k=q:=by unfold pW;rw [List.getD_eq_getElem?_getD,sE];rfl
   have K8:=count_set Vk e
   refine ih _ _ _ (by show pW nxt k < _;rw [Wv];exact rA) (by omega) ⟨by rw [List.length_set];exact hi.len,fun q=>?_,fun x hx=>?_,?_⟩ (.inr ⟨?_,fun i q hq bR=>?_,k,?_,rfl⟩)
   ·rw [List.getElem?_set]
    by_cases h:k=q
    ·subst h
     rw [if_pos rfl,if_pos Vk]
     exact ⟨fun _=>.inr (List.mem_append_right _ (List.mem_singleton.2 rfl)),fun _=>rfl⟩
    ·rw [if_neg h,hi.sn]
     constructor
     ·rintro (h1|h1)
      ·exact .inl h1
      ·exact .inr (List.mem_append_left _ h1)
     ·rintro (h1|h1)
      ·exact .inl h1
      ·rcases List.mem_append.1 h1 with h1|h1
       ·exact .inr h1
       ·have:=List.mem_singleton.1 h1;omega
   ·rcases List.mem_append.1 hx with hx|hx
    ·exact hi.new x hx
    ·exact ⟨k,List.mem_singleton.1 hx,hk,fun h=>mm (.inl h)⟩
   ·rw [List.nodup_append]
    refine ⟨hi.nd,by simp,fun a ha b eQ e'=>?_⟩
    have:=List.mem_singleton.1 eQ
    rw [e',this] at ha
    exact mm (.inr ha)
   ·rcases hp with ⟨rfl,rfl⟩|⟨p0,_⟩
    ·rfl
    ·rw [List.getElem?_append_left (List.getElem?_eq_some_iff.1 p0).1];exact p0
   ·rcases hp with ⟨rfl,rfl⟩|⟨p0,p1,l,p2,p3⟩
    ·simp at bR
    ·have xw:=(List.getElem?_eq_some_iff.1 p0).1
     rw [List.length_append] at bR
     have tZ:i < f.length:=by simp at bR;omega
     rw [List.getElem?_append_left tZ] at hq
     by_cases hl:i + 1 < f.length
     ·rw [List.getElem?_append_left hl];exact p1 i q hq hl
     ·have sH:i=f.length - 1:=by omega
      subst sH
      rw [p2] at hq
      have:l=q:=by have:=Option.some.inj hq;omega
      subst this
      rw [List.getElem?_append_right (by omega),show f.length - 1 + 1 - f.length=0 by omega,p3];rfl
   ·rw [List.length_append]
    show (f++[(k:Int)])[f.length + 1 - 1]?=_
    rw [List.getElem?_append_right (by omega),show f.length + 1 - 1 - f.length=0 by omega];rfl
structure aam (nxt:List Int) (k:Nat) (s:List Bool) (fs:List (List Int)):Prop where
 len:s.length=nxt.length
 sn:∀q:Nat,s[q]?=some true↔∃f∈fs,(q:Int)∈f
 fwd:∀f∈fs,∀q:Nat,(q:Int)∈f→((pW nxt q:Nat):Int)∈f
 bwd:∀f∈fs,∀q:Nat,q < nxt.length→((pW nxt q:Nat):Int)∈f→(q:Int)∈f
 Kk:fs.Pairwise fun f g=>∀x,x∈f→x∉g
 all:∀q,q < k→s[q]?=some true
 nat:∀f∈fs,∀x∈f,∃q:Nat,x=(q:Int)∧q < nxt.length
theorem C3 {nxt:List Int} (hn:mP nxt) (hj:∀a b,a < nxt.length→b < nxt.length→pW nxt a=pW nxt b→a=b):∀k,k≤nxt.length→aam nxt k (aV nxt k).1 (aV nxt k).2:=by
 intro k
 induction k with
 | zero=>
  intro _
  refine ⟨(by show (List.replicate _ _).length=_;simp),fun q=>?_,fun f hf=>(by cases hf),fun f hf=>(by cases hf),.nil,fun q h=>(by omega),fun f hf=>(by cases hf)⟩
  constructor
  ·intro h
   have h':(List.replicate nxt.length false)[q]?=some true:=h
   rw [List.getElem?_replicate] at h'
   split at h'<;>cases h'
  ·rintro ⟨f,hf,_⟩
   cases hf
 | succ k ih=>
  intro hk
  have I:=ih (by omega)
  rw [fk]
  generalize aV nxt k=st at I
  obtain ⟨s,fs⟩:=st
  simp only at I
  have R:=Kj hn hj (s0:=fun q=>s[q]?=some true) (h0:=k) (fun q hq h=>by
   obtain ⟨f,h1,h2⟩:=(I.sn _).1 h
   exact (I.sn q).2 ⟨f,h1,I.bwd f h1 q hq h2⟩) nxt.length k s [] (by omega) (by rw [← I.len];exact List.count_le_length) ⟨I.len,fun q=>⟨.inl,fun h=>(by rcases h with h|h;exact h;cases h)⟩,fun x hx=>(by cases hx),List.nodup_nil⟩ (.inl ⟨rfl,rfl⟩)
  unfold mO
  simp only
  generalize nG nxt nxt.length s k []=o at R
  obtain ⟨s',f'⟩:=o
  simp only at R ⊢
  split
  ·rename_i he
   subst he
   have Vl:∀q:Nat,s'[q]?=some true↔s[q]?=some true:=fun q=>by
    rw [R.sn]
    exact ⟨fun h=>(by rcases h with h|h;exact h;cases h),.inl⟩
   refine ⟨R.len,fun q=>by rw [Vl];exact I.sn q,I.fwd,I.bwd,I.Kk,fun q hq=>?_,I.nat⟩
   rw [Vl]
   rcases (show q < k∨q=k by omega) with h|rfl
   ·exact I.all q h
   ·rcases R.has with h|h
    ·exact h
    ·cases h
  ·rename_i he
   refine ⟨R.len,fun q=>?_,fun f hf=>?_,fun f hf=>?_,?_,fun q hq=>?_,fun f hf=>?_⟩
   ·rw [R.sn,I.sn]
    constructor
    ·rintro (⟨f,h1,h2⟩|h)
     ·exact ⟨f,List.mem_append_left _ h1,h2⟩
     ·exact ⟨f',List.mem_append_right _ (List.mem_singleton.2 rfl),h⟩
    ·rintro ⟨f,h1,h2⟩
     rcases List.mem_append.1 h1 with h1|h1
     ·exact .inl ⟨f,h1,h2⟩
     ·rw [List.mem_singleton.1 h1] at h2;exact .inr h2
   ·rcases List.mem_append.1 hf with hf|hf
    ·exact I.fwd f hf
    ·rw [List.mem_singleton.1 hf];exact R.fwd
   ·rcases List.mem_append.1 hf with hf|hf
    ·exact I.bwd f hf
    ·rw [List.mem_singleton.1 hf];exact R.bwd
   ·rw [List.pairwise_append]
    refine ⟨I.Kk,List.pairwise_singleton _ _,fun a ha b hb x hxa MT=>?_⟩
    rw [List.mem_singleton.1 hb] at MT
    obtain ⟨q,rfl,_,hq⟩:=R.new x MT
    exact hq ((I.sn q).2 ⟨a,ha,hxa⟩)
   ·rw [R.sn]
    rcases (show q < k∨q=k by omega) with h|rfl
    ·exact .inl (I.all q h)
    ·exact R.has
   ·rcases List.mem_append.1 hf with hf|hf
    ·exact I.nat f hf
    ·rw [List.mem_singleton.1 hf]
     intro x hx
     obtain ⟨q,h1,h2,_⟩:=R.new x hx
     exact ⟨q,h1,h2⟩
theorem ME {i:Nat}:∀{f l:List Int} {q:Nat},q < l.length→(∀x∈f,0≤x)→(AU l i f)[q]?=if (q:Int)∈f then some (i:Int) else l[q]?:=by
 intro f
 induction f with
 | nil=>intro l q _ _;rfl
 | cons x f ih=>
  intro l q hq hf
  show (AU (l.set x.toNat (i:Int)) i f)[q]?=_
  rw [ih (by rw [List.length_set];exact hq) (fun y hy=>hf y (List.mem_cons_of_mem _ hy)),List.getElem?_set]
  have hx:=hf x List.mem_cons_self
  by_cases h1:(q:Int)∈f
  ·rw [if_pos h1,if_pos (List.mem_cons_of_mem _ h1)]
  ·rw [if_neg h1]
   by_cases h2:x.toNat=q
   ·rw [if_pos h2,if_pos (by omega),if_pos (by rw [show (q:Int)=x by omega];exact List.mem_cons_self)]
   ·rw [if_neg h2,if_neg (fun h=>by
     rcases List.mem_cons.1 h with h|h
     ·omega
     ·exact h1 h)]
theorem Em {m:Nat} {fs:List (List Int)} (Ww:∀i,∀x∈fs.getD i [],0≤x):∀{k q i:Nat},q < m→i < k→(q:Int)∈fs.getD i []→(∀j,(q:Int)∈fs.getD j []→j=i)→(KI m fs k)[q]?=some (i:Int):=by
 intro k
 induction k with
 | zero=>intro q i _ h;omega
 | succ k ih=>
  intro q i hq hi hm hu
  rw [pN,ME (by rw [yA];exact hq) (Ww k)]
  by_cases h:(q:Int)∈fs.getD k []
  ·rw [if_pos h,hu k h]
  ·rw [if_neg h]
   exact ih hq (by rcases (show i < k∨i=k by omega) with h1|rfl;exact h1;exact absurd hm h) hm hu
theorem Kl {n:Int} {es:List Ed} {r:List (List Int)} {l:List Int} (g:bY n es r) (h:eW es r l):∀a b,a < l.length→b < l.length→pW l a=pW l b→a=b:=by
 intro a b ha hb e
 rw [h.1] at ha hb
 obtain ⟨v,k,hv,hk,e1⟩:=g.all (bT a) (de ha)
 obtain ⟨v',k',jS,gC,e2⟩:=g.all (bT b) (de hb)
 have h1:=h.2 v k hv hk
 have h2:=h.2 v' k' jS gC
 rw [e1,show ((bT a:Nat):Int).toNat=bT a from Int.toNat_natCast _,fA] at h1
 rw [e2,show ((bT b:Nat):Int).toNat=bT b from Int.toNat_natCast _,fA] at h2
 have m1:(k + 1) % dG r v < dG r v:=Nat.mod_lt _ (by omega)
 have m2:(k' + 1) % dG r v' < dG r v':=Nat.mod_lt _ (by omega)
 obtain ⟨g1,_⟩:=g.ok v _ hv m1
 obtain ⟨g2,_⟩:=g.ok v' _ jS m2
 have e':gU r v ((k + 1) % dG r v)=gU r v' ((k' + 1) % dG r v'):=by
  unfold pW at e
  rw [List.getD_eq_getElem?_getD,h1,List.getD_eq_getElem?_getD,h2] at e
  simp only [Option.getD_some] at e
  omega
 obtain ⟨rfl,e3⟩:=g.inj v _ v' _ hv m1 jS m2 e'
 have OB:k=k':=by
  rcases (show k + 1 < dG r v∨k + 1=dG r v by omega) with c1|c1<;>rcases (show k' + 1 < dG r v∨k' + 1=dG r v by omega) with c2|c2
  ·rw [Nat.mod_eq_of_lt c1,Nat.mod_eq_of_lt c2] at e3;omega
  ·rw [Nat.mod_eq_of_lt c1,c2,Nat.mod_self] at e3;omega
  ·rw [Nat.mod_eq_of_lt c2,c1,Nat.mod_self] at e3;omega
  ·omega
 subst OB
 rw [e1] at e2
 exact AQ a b (by omega)
theorem of_next {n:Int} {es:List Ed} {r:List (List Int)} (h0:bq n es r=0) {q:Nat} (hq:q < 2 * es.length):mV es r q < 2 * es.length∧∃i:Nat,i < (aD es r).length∧(eu es r)[q]?=some (i:Int)∧(eu es r)[mV es r q]?=some (i:Int):=by
 have g:=cd h0
 obtain ⟨l,hl⟩:=sW g
 have he:=jb g hl
 have hh:=yx g hl
 have I:=C3 hh (Kl g hl) l.length (Nat.le_refl _)
 have By:=hl.1
 have Nb:mV es r q=pW l q:=by unfold mV pW;rw [he]
 have yR:aD es r=(aV l l.length).2++sj r r.length:=by unfold aD;rw [he];rfl
 obtain ⟨f,kV,tI⟩:=(I.sn q).1 (I.all q (by omega))
 have NI:=I.fwd f kV q tI
 obtain ⟨i,hi,e⟩:=List.getElem_of_mem kV
 have bR:pW l q < 2 * es.length:=by
  obtain ⟨q',h1,h2⟩:=I.nat f kV _ NI
  omega
 have kW:∀j,(aD es r).getD j []≠[]→∃hj:j < (aV l l.length).2.length,(aD es r).getD j []=(aV l l.length).2[j]:=fun j hj=>by
  rw [yR,List.getD_eq_getElem?_getD] at hj ⊢
  by_cases bR:j < (aV l l.length).2.length
  ·exact ⟨bR,by rw [List.getElem?_append_left bR,List.getElem?_eq_getElem bR];rfl⟩
  ·exfalso
   rw [List.getElem?_append_right (by omega)] at hj
   cases hx:(sj r r.length)[j - (aV l l.length).2.length]? with
   | none=>rw [hx] at hj;exact hj rfl
   | some x=>
    rw [hx] at hj
    have:=List.mem_of_getElem? hx
    unfold sj at this
    have:=(List.mem_filter.1 this).2
    exact hj (List.eq_nil_of_length_eq_zero (by simpa using this))
 have iS:(aD es r).getD i []=f:=by
  rw [yR,List.getD_eq_getElem?_getD,List.getElem?_append_left hi,List.getElem?_eq_getElem hi,e];rfl
 have uniq:∀x:Nat,(x:Int)∈f→∀j,(x:Int)∈(aD es r).getD j []→j=i:=fun x hx j hj=>by
  obtain ⟨Bx,MD⟩:=kW j (fun e'=>by rw [e'] at hj;cases hj)
  rw [MD] at hj
  apply Classical.byContradiction
  intro cG
  have hd:=List.pairwise_iff_getElem.1 I.Kk
  rw [← e] at hx
  rcases Nat.lt_or_gt_of_ne cG with h|h
  ·exact hd j i Bx hi h _ hj hx
  ·exact hd i j hi Bx h _ hx hj
 have Ww:∀j,∀x∈(aD es r).getD j [],0≤x:=fun j x hx=>by
  obtain ⟨Bx,MD⟩:=kW j (fun e'=>by rw [e'] at hx;cases hx)
  rw [MD] at hx
  obtain ⟨q',h1,_⟩:=I.nat _ (List.getElem_mem Bx) x hx
  omega
 have sH:i < (aD es r).length:=by rw [yR,List.length_append];omega
 rw [Nb]
 refine ⟨bR,i,sH,?_,?_⟩
 ·exact Em Ww hq sH (by rw [iS];exact tI) (uniq q tI)
 ·exact Em Ww bR sH (by rw [iS];exact NI) (uniq _ NI)
theorem Gv {n:Int} {es:List Ed} {r:List (List Int)} (g:bY n es r) {v:Nat} (hv:v < r.length):(r.getD v []).Nodup:=by
 refine List.pairwise_iff_getElem.2 fun i j hi hj Dx e=>?_
 have h1:gU r v i=gU r v j:=by
  have a:=j3 (r:=r) (v:=v) (k:=i) hi
  have b:=j3 (r:=r) (v:=v) (k:=j) hj
  rw [List.getElem?_eq_getElem hi] at a
  rw [List.getElem?_eq_getElem hj] at b
  rw [← Option.some.inj a,← Option.some.inj b,e]
 have:=(g.inj v i v j hv hi hv hj h1).2
 omega
theorem C4 {es:List Ed} {k v:Nat}:(cg es k v).Nodup:=by
 unfold cg
 refine List.Pairwise.map _ (fun a b h e=>h (by omega)) (List.Pairwise.filter _ List.nodup_range)
theorem uV {n:Int} {es:List Ed} {r:List (List Int)} (g:bY n es r) {v:Nat} (hv:v < r.length):(r.getD v []).Perm (cg es (2 * es.length) v):=by
 rw [List.perm_ext_iff_of_nodup (Gv g hv) C4]
 intro x
 rw [pO]
 constructor
 ·intro hx
  obtain ⟨k,hk,rfl⟩:=List.getElem_of_mem hx
  obtain ⟨g1,g2,g3⟩:=g.ok v k hv hk
  have a:=j3 (r:=r) (v:=v) (k:=k) hk
  rw [List.getElem?_eq_getElem hk] at a
  have a':=Option.some.inj a
  rw [a']
  exact ⟨(gU r v k).toNat,by omega,by omega,g3⟩
 ·rintro ⟨h,rfl,h1,h2⟩
  obtain ⟨v',k,jS,hk,e⟩:=g.all h h1
  obtain ⟨g1,g2,g3⟩:=g.ok v' k jS hk
  rw [e,show ((h:Nat):Int).toNat=h from Int.toNat_natCast _,h2] at g3
  have:v'=v:=by omega
  subst this
  have a:=j3 (r:=r) (v:=v') (k:=k) hk
  rw [e] at a
  exact List.mem_of_getElem? a
theorem Km {a b:List Int} (h:a.Perm b):tot a=tot b:=by
 induction h with
 | nil=>rfl
 | cons x _ ih=>rw [iz,iz,ih]
 | swap x y l=>rw [iz,iz,iz,iz];omega
 | trans _ _ h1 h2=>rw [h1,h2]
theorem xc {ang a b:List Int} (h:a.Perm b):tot (hY ang a)=tot (hY ang b):=Km (h.map _)
theorem Gw {n o:Int} {m:Nat} {es:List Ed} {r:List (List Int)} {ang:List Int} {bs:List (List Int)} (g:bY n es r) (ee:n=(m:Int)):mU es (aD es r) m (fun v=>r.getD v []) o ang bs↔mU es (aD es r) m (cg es (2 * es.length)) o ang bs:=by
 have hl:=g.len
 constructor
 ·intro h
  exact ⟨h.o0,h.o1,h.sz,fun v hv=>by rw [← xc (uV g (by omega))];exact h.nd v hv,h.fc⟩
 ·intro h
  exact ⟨h.o0,h.o1,h.sz,fun v hv=>by rw [xc (uV g (by omega))];exact h.nd v hv,h.fc⟩
theorem MF {n:Int} {es:List Ed} {r:List (List Int)} (g:bY n es r) {v:Nat} (hv:v < r.length):(r.getD v []).length=(cg es (2 * es.length) v).length:=(uV g hv).length_eq
end Go.Eng

namespace Go.Eng
variable {A:aG} {H H':Heap} {nx nx':Nat} {σ:aP} {L:List Value} {Q:cw}
abbrev BA:=Int×Int×Int×Int
def vR (a:BA):List Value:=[.int .i64 a.1,.int .i64 a.2.1,.int .i64 a.2.2.1,.int .i64 a.2.2.2]
def cP {α:Type} (f:Nat→α) (k:Nat):List α:=(List.range k).map f
theorem cT {α:Type} {f:Nat→α} {k:Nat}:(cP f k).length=k:=by unfold cP;simp
theorem gy {α:Type} {f:Nat→α} {k:Nat}:cP f (k + 1)=cP f k++[f k]:=by
 unfold cP
 rw [List.range_succ,List.map_append];rfl
theorem nq {α:Type} {f:Nat→α}:cP f 0=[]:=rfl
theorem Vm {α:Type} {f:Nat→α} {k i:Nat} (hi:i < k):(cP f k)[i]?=some (f i):=by
 unfold cP
 rw [List.getElem?_map,List.getElem?_range hi];rfl
def rR (es:List Ed) (v:Nat):Int:=4 - (((cg es (2 * es.length) v).length:Nat):Int)
def dq (fs:List (List Int)) (outer:Int) (i:Nat):Int:=(if (i:Int)=outer then -4 else 4) - (((fs.getD i []).length:Nat):Int)
def oC (es:List Ed) (of:List Int) (m:Nat) (h:Nat):BA:=(ct es h,(m:Int) + of.getD (bT h) 0,3,0)
def oD (of:List Int) (m:Nat) (h:Nat):BA:=((m:Int) + of.getD h 0,(m:Int) + of.getD (bT h) 0,4096,1)
def gQ (es:List Ed) (fs:List (List Int)) (m:Nat) (outer:Int):List Int:=cP (rR es) m++cP (dq fs outer) fs.length
def lL (es:List Ed) (of:List Int) (m:Nat):List BA:=cP (oC es of m) (2 * es.length)++cP (oD of m) (2 * es.length)
theorem Kn (a:BA):(vR a).length=4:=rfl
theorem Gx (axs:List BA):(axs.flatMap vR).length=axs.length * 4:=by
 induction axs with
 | nil=>rfl
 | cons a axs ih=>rw [List.flatMap_cons,List.length_append,Kn,ih,List.length_cons];omega
theorem cu {nx0 n z:Nat} {v:Value} {cs:List Value} (h:bM H nx0 nx z v n cs):∃b c,v=.slice b n c:=by
 obtain ⟨_,⟨rfl,rfl⟩|⟨c,rfl,g1,g2,g3⟩⟩:=h
 ·exact ⟨_,_,rfl⟩
 ·exact ⟨_,_,rfl⟩
theorem cz {nx0 n z b:Nat} {v:Value} {cs:List Value} (h:bM H nx0 nx z v n cs) (hb:cf v=some b):nx0≤b∧b < nx∧v=.slice (some ⟨b,0,some z⟩) n (2 * n):=by
 obtain ⟨_,⟨rfl,_⟩|⟨c,rfl,g1,g2,g3⟩⟩:=h
 ·cases hb
 ·cases hb;exact ⟨g1,g2,rfl⟩
theorem bM.off {nx0 n z:Nat} {v u:Value} {cs:List Value} (h:bM H nx0 nx z v n cs) (hd:∀b,cf v=some b→cf u≠some b) (hs:∀b,nx0≤b→b < nx→cf u≠some b→ao H' (at_ b)=ao H (at_ b)) (hn:nx≤nx'):bM H' nx0 nx' z v n cs:=by
 obtain ⟨hl,h|⟨b,h1,h2,h3,h4⟩⟩:=h
 ·exact ⟨hl,.inl h⟩
 ·exact ⟨hl,.inr ⟨b,h1,h2,by omega,(hs b h2 h3 (hd b (by rw [h1];rfl))).trans h4⟩⟩
structure mW (H:Heap) (lo nx tb:Nat) (c0:Int) (axs:List BA) (ns:List Int) (av nv:Value):Prop where
 blk:ao H (at_ tb)=some (.cells [.int .i64 c0,av,nv])
 ga:bM H lo nx 4 av axs.length (axs.flatMap vR)
 gn:bM H lo nx 1 nv ns.length (ns.map (.int .i64))
 Kk:∀b,cf av=some b→cf nv≠some b
 lt:tb < lo
 le:lo≤nx
theorem mW.frame {lo tb:Nat} {c0:Int} {axs:List BA} {ns:List Int} {av nv:Value} (h:mW H lo nx tb c0 axs ns av nv) (hs:an H H' nx) (hn:nx≤nx'):mW H' lo nx' tb c0 axs ns av nv:=
 ⟨(hs tb (by have:=h.lt;have:=h.le;omega)).trans h.blk,h.ga.same hs hn,h.gn.same hs hn,h.Kk,h.lt,by have:=h.le;omega⟩
theorem eS {nx0 n z b:Nat} {v:Value} {cs:List Value} (h:bM H nx0 nx z v n cs) (cG:cf v≠some b):∀c z' k,v≠.slice (some ⟨b,0,z'⟩) k c:=by
 intro c z' k e
 obtain ⟨_,⟨rfl,_⟩|⟨d,rfl,g1,g2,g3⟩⟩:=h
 ·cases e
 ·cases e;exact cG rfl
theorem mW.En {lo tb q:Nat} {c0 x:Int} {axs:List BA} {ns:List Int} {av nv:Value} {H2:Heap} (h:mW H lo nx tb c0 axs ns av nv) (hq:nx≤q) (g1:ao H2 (at_ q)=some (.cells (ns.map (.int .i64)++[.int .i64 x]))) (g2:∀b,b < nx→cf nv≠some b→ao H2 (at_ b)=ao H (at_ b)) :
  mW (aI H2 tb [.int .i64 c0,av,.slice (some ⟨q,0,some 1⟩) (ns.length + 1) (2 * (ns.length + 1))]) lo (q + 1) tb c0 axs (ns++[x]) av (.slice (some ⟨q,0,some 1⟩) (ns.length + 1) (2 * (ns.length + 1))):=by
 have bR:=h.lt
 have hle:=h.le
 refine ⟨aw,?_,⟨by simp,.inr ⟨q,by simp,by omega,by omega,?_⟩⟩,fun b hb e=>?_,bR,by omega⟩
 ·refine h.ga.off h.Kk (fun b hl hb cG=>?_) (by omega)
  rw [ak,if_neg (by omega)]
  exact g2 b hb cG
 ·rw [ak,if_neg (by omega),g1,List.map_append];rfl
 ·cases e
  have:=(cz h.ga hb).2.1
  omega
theorem mW.Eo {lo tb q:Nat} {c0:Int} {x:BA} {axs:List BA} {ns:List Int} {av nv:Value} {H2:Heap} (h:mW H lo nx tb c0 axs ns av nv) (hq:nx≤q) (g1:ao H2 (at_ q)=some (.cells (axs.flatMap vR++vR x))) (g2:∀b,b < nx→cf av≠some b→ao H2 (at_ b)=ao H (at_ b)) :
  mW (aI H2 tb [.int .i64 c0,.slice (some ⟨q,0,some 4⟩) (axs.length + 1) (2 * (axs.length + 1)),nv]) lo (q + 1) tb c0 (axs++[x]) ns (.slice (some ⟨q,0,some 4⟩) (axs.length + 1) (2 * (axs.length + 1))) nv:=by
 have bR:=h.lt
 have hle:=h.le
 refine ⟨aw,⟨by rw [Gx],.inr ⟨q,by simp,by omega,by omega,?_⟩⟩,?_,fun b hb e=>?_,bR,by omega⟩
 ·rw [ak,if_neg (by omega),g1,List.flatMap_append]
  congr 2
 ·refine h.gn.off (fun b hb e=>h.Kk b e hb) (fun b hl hb cG=>?_) (by omega)
  rw [ak,if_neg (by omega)]
  exact g2 b hb cG
 ·cases hb
  have:=(cz h.gn e).2.1
  omega
def Bd (H:Heap) (lo nx:Nat) (v:Value) (N:Int) (axs:List BA) (ns:List Int):Prop:=∃av nv,v=.agg #[.int .i64 N,av,nv]∧bM H lo nx 4 av axs.length (axs.flatMap vR)∧bM H lo nx 1 nv ns.length (ns.map (.int .i64))∧∀b,cf av=some b→cf nv≠some b
end Go.Eng

namespace Go.Eng
variable {A:aG} {H H':Heap} {nx nx':Nat} {σ:aP} {L:List Value} {Q:cw}
set_option maxRecDepth 100000
theorem tkR {nb tb lo:Nat} {c0:Int} {v2 v3 v6 v7 v9 v1:Value} {rb:Option Addr} {rc:Nat} {es:List Ed} {r:List (List Int)} {n:Int} {H0:Heap} (g:bY n es r) (hr:dZ H0 nb 1 aW (.slice rb r.length rc) r) (bg:an H0 H nb) (Gq:nb≤tb) (st:mW H lo nx tb c0 [] [] (.slice none 0 0) (.slice none 0 0))
  (aC:∀σ H' nx' nv,aT [(S1,v1),(S2,v2),(S3,v3),(S6,v6),(S7,v7),(S9,v9),(e8,.pointer (some ⟨tb,0,none⟩))] σ→mW H' lo nx' tb c0 [] (cP (rR es) r.length) (.slice none 0 0) nv→an H0 H' nb→nx≤nx'→Q (.exit 0) σ H' nx') :
  WC A (.loop Pw) [(S1,v1),(S2,v2),(S3,v3),(S6,v6),(S7,v7),(S9,v9),(e8,.pointer (some ⟨tb,0,none⟩)),(KH,.slice rb r.length rc),(Rw,.int .i64 ((r.length:Nat):Int)),(KE,.int .i64 0)] H nx Q:=by
 have Qi:=g.len
 obtain ⟨m0,m1,m2,_⟩:=g.may
 have bR:=st.lt
 refine WC.loop (α:=Nat) (fun k=>[(S1,v1),(S2,v2),(S3,v3),(S6,v6),(S7,v7),(S9,v9),(e8,.pointer (some ⟨tb,0,none⟩)),(KH,.slice rb r.length rc),(Rw,.int .i64 ((r.length:Nat):Int)),(KE,.int .i64 ((k:Nat):Int))])
  (fun k H' nx'=>k≤r.length∧an H0 H' nb∧nx≤nx'∧∃nv,mW H' lo nx' tb c0 [] (cP (rR es) k) (.slice none 0 0) nv) (fun k=>r.length - k)
  ?_ 0 aN ⟨Nat.zero_le _,bg,Nat.le_refl _,_,st⟩
 rintro k H1 aY ⟨hk,aS,b9,nv,dd⟩
 have C5:=dd.le
 have fF:=dd.blk
 have nP:Rd H1 tb _:=.inl fF
 unfold Pw
 repeat' (first|((first|refine WO.n rfl ?_|refine WO.k rfl ?_);(refine dt (fun h=>?_) (fun h=>?_)<;>(try simp only [Int.ofNat_eq_natCast] at h)))|with_reducible (first|refine WO.nil ?_|refine WC.aa ?_|refine WC.seq ?_|refine WC.skip ?_|refine WC.exit ?_|refine WC.block ?_)|refine WC.ax rfl ?_|refine WC.ay rfl ?_|with_reducible (first|refine aA ?_|refine ef ?_))
 ·have bF:k < r.length:=by omega
  have jA:r.getD k []=r[k]:=by rw [List.getD_eq_getElem?_getD,List.getElem?_eq_getElem bF];rfl
  obtain ⟨RT,ro,vO,ib,ic,rfl,jo,iP,iD,hi⟩:=hr.at bF
  rw [← jA] at iD hi
  have kg:=aS.rd jo iP
  have gO:=MF g bF
  have AW:=fm (es:=es) (k:=2 * es.length) (v:=k)
  have Ng:rR es k=4 - (((r.getD k []).length:Nat):Int):=by unfold rR;rw [gO]
  repeat' (first|((first|refine WO.n rfl ?_|refine WO.k rfl ?_);(first|refine aK ?_|refine cI ?_|refine cH ?_|refine aJ ?_|refine bj ?_|refine aZ ?_|refine iu ?_|refine pA ?_))|with_reducible (first|refine WO.nil ?_|refine WC.aa ?_|refine aA ?_))
  refine WO.n rfl ?_
  have Be:=dd.gn.same (H':=aI H1 aY [.int .i64 (4 - (((r.getD k []).length:Nat):Int))]) (an.refl.set (Nat.le_refl _)) (Nat.le_succ _)
  refine aM.j1 rfl rfl Be (cN Rd.self rfl) (by omega) (by omega) rfl (by rw [cT];unfold small;omega) (by rw [cT];unfold small;omega) ?_
  intro H2 k1 k2
  have NO:∀b,b < aY + 1→cf nv≠some b→ao H2 (at_ b)=ao (aI H1 aY [.int .i64 (4 - (((r.getD k []).length:Nat):Int))]) (at_ b):=fun b hb cG=>k2 b hb (eS Be cG)
  have k3:∀b,b < aY→cf nv≠some b→ao H2 (at_ b)=ao H1 (at_ b):=fun b hb cG=>by rw [NO b (by omega) cG,ak,if_neg (by omega)]
  have Bb:ao H2 (at_ tb)=some (.cells [.int .i64 c0,.slice none 0 0,nv]):=(k3 tb (by omega) (fun e=>by have:=(cz dd.gn e).1;omega)).trans fF
  have iE:=dd.En (q:=aY + 1) (x:=4 - (((r.getD k []).length:Nat):Int)) (by omega) k1 k3
  rw [← Ng,← gy] at iE
  repeat' (first|((first|refine WO.n rfl ?_|refine WO.k rfl ?_);(first|refine aK ?_|refine cI ?_|refine ep ?_|refine ba ?_))|with_reducible (first|refine WO.nil ?_|refine WC.aa ?_|refine aA ?_|refine dY ?_))
  refine ⟨k + 1,by omega,.cons rfl aN,by omega,fun b hb=>?_,by omega,_,iE⟩
  rw [ak,if_neg (by omega),k3 b (by omega) (fun e=>by have:=(cz dd.gn e).1;omega)]
  exact aS b hb
 ·have:k=r.length:=by omega
  subst this
  exact aC _ _ _ _ aN dd aS b9
theorem tkF {nb tb lo:Nat} {c0 o:Int} {v3 v6 v9 v1:Value} {fb:Option Addr} {fc:Nat} {es:List Ed} {fs:List (List Int)} {jN:List Int} {uW:Value} {H0:Heap} (ok:dI fs (2 * es.length)) (UK:jN.length≤1048576) (hl:dZ H0 nb 1 aW (.slice fb fs.length fc) fs) (bg:an H0 H nb) (Gq:nb≤tb) (st:mW H lo nx tb c0 [] jN (.slice none 0 0) uW)
  (aC:∀σ H' nx' nv,aT [(S1,v1),(S3,v3),(S6,v6),(S9,v9),(e8,.pointer (some ⟨tb,0,none⟩))] σ→mW H' lo nx' tb c0 [] (jN++cP (dq fs o) fs.length) (.slice none 0 0) nv→an H0 H' nb→nx≤nx'→Q (.exit 2) σ H' nx') :
  WC A (.loop Px) [(S1,v1),(S2,.int .i64 o),(S3,v3),(S6,v6),(S9,v9),(e8,.pointer (some ⟨tb,0,none⟩)),(Nw,.slice fb fs.length fc),(T9,.int .i64 ((fs.length:Nat):Int)),(FO,.int .i64 0)] H nx Q:=by
 have bR:=st.lt
 have wO:=ok.Bz
 refine WC.loop (α:=Nat) (fun k=>[(S1,v1),(S2,.int .i64 o),(S3,v3),(S6,v6),(S9,v9),(e8,.pointer (some ⟨tb,0,none⟩)),(Nw,.slice fb fs.length fc),(T9,.int .i64 ((fs.length:Nat):Int)),(FO,.int .i64 ((k:Nat):Int))])
  (fun k H' nx'=>k≤fs.length∧an H0 H' nb∧nx≤nx'∧∃nv,mW H' lo nx' tb c0 [] (jN++cP (dq fs o) k) (.slice none 0 0) nv) (fun k=>fs.length - k)
  ?_ 0 aN ⟨Nat.zero_le _,bg,Nat.le_refl _,_,by rw [nq,List.append_nil];exact st⟩
 rintro k H1 aY ⟨hk,aS,b9,nv,dd⟩
 have C5:=dd.le
 have fF:=dd.blk
 have nP:Rd H1 tb _:=.inl fF
 unfold Px
 repeat' (first|((first|refine WO.n rfl ?_|refine WO.k rfl ?_);(refine dt (fun h=>?_) (fun h=>?_)<;>(try simp only [Int.ofNat_eq_natCast] at h)))|with_reducible (first|refine WO.nil ?_|refine WC.aa ?_|refine WC.seq ?_|refine WC.skip ?_|refine WC.exit ?_|refine WC.block ?_)|refine WC.ax rfl ?_|refine WC.ay rfl ?_|with_reducible (first|refine aA ?_|refine ef ?_))
 ·have bF:k < fs.length:=by omega
  have Ba:=ok.row k
  have jA:fs.getD k []=fs[k]:=by rw [List.getD_eq_getElem?_getD,List.getElem?_eq_getElem bF];rfl
  obtain ⟨RT,ro,vO,ib,ic,rfl,jo,iP,iD,hi⟩:=hl.at bF
  rw [← jA] at iD hi
  have kg:=aS.rd jo iP
  have fin:∀(x:Int) (H2:Heap),x=dq fs o k→ao H2 (at_ (aY + 1))=some (.cells ((jN++cP (dq fs o) k).map (.int .i64)++[.int .i64 x]))→(∀b,b < aY→cf nv≠some b→ao H2 (at_ b)=ao H1 (at_ b))→
    ao H2 (at_ tb)=some (.cells [.int .i64 c0,.slice none 0 0,nv])∧an H0 (aI H2 tb [.int .i64 c0,.slice none 0 0,.slice (some ⟨aY + 1,0,some 1⟩) ((jN++cP (dq fs o) k).length + 1) (2 * ((jN++cP (dq fs o) k).length + 1))]) nb∧
    mW (aI H2 tb [.int .i64 c0,.slice none 0 0,.slice (some ⟨aY + 1,0,some 1⟩) ((jN++cP (dq fs o) k).length + 1) (2 * ((jN++cP (dq fs o) k).length + 1))]) lo (aY + 1 + 1) tb c0 [] (jN++cP (dq fs o) (k + 1)) (.slice none 0 0) (.slice (some ⟨aY + 1,0,some 1⟩) ((jN++cP (dq fs o) k).length + 1) (2 * ((jN++cP (dq fs o) k).length + 1))):=by
   intro x H2 hx k1 k3
   refine ⟨(k3 tb (by omega) (fun e=>by have:=(cz dd.gn e).1;omega)).trans fF,fun b hb=>?_,?_⟩
   ·rw [ak,if_neg (by omega),k3 b (by omega) (fun e=>by have:=(cz dd.gn e).1;omega)]
    exact aS b hb
   ·have iE:=dd.En (q:=aY + 1) (x:=x) (by omega) k1 k3
    rw [hx] at iE
    rw [gy,← List.append_assoc]
    exact iE
  have kB:(jN++cP (dq fs o) k).length=jN.length + k:=by rw [List.length_append,cT]
  by_cases ho:(k:Int)=o
  ·have hx:(-4:Int) - (((fs.getD k []).length:Nat):Int)=dq fs o k:=by unfold dq;rw [if_pos ho]
   generalize Vh:(-4:Int) - (((fs.getD k []).length:Nat):Int)=x at hx
   have QT:Int.negSucc 3 - (((fs.getD k []).length:Nat):Int)=x:=Vh
   repeat' (first|((first|refine WO.n rfl ?_|refine WO.k rfl ?_);(first|refine aK ?_|refine cI ?_|refine cH ?_|refine aJ ?_|refine bj ?_|refine aZ ?_|refine iu ?_|(refine sJ (fun h=>?_) (fun h=>?_)<;>(try simp only [Int.ofNat_eq_natCast] at h))|refine pA ?_))|with_reducible (first|refine WO.nil ?_|refine WC.aa ?_|refine WC.seq ?_|refine WC.skip ?_)|refine WC.ax rfl ?_|refine WC.ay rfl ?_|with_reducible refine aA ?_)
   all_goals try (exfalso;omega)
   rw [QT]
   repeat' (fail)
   refine WO.n rfl ?_
   have Be:=dd.gn.same (H':=aI H1 aY [.int .i64 x]) (an.refl.set (Nat.le_refl _)) (Nat.le_succ _)
   refine aM.j1 rfl rfl Be (cN Rd.self rfl) (by omega) (by omega) rfl (by rw [kB];unfold small;omega) (by rw [kB];unfold small;omega) ?_
   intro H2 k1 k2
   have k3:∀b,b < aY→cf nv≠some b→ao H2 (at_ b)=ao H1 (at_ b):=fun b hb cG=>by rw [k2 b (by omega) (eS Be cG),ak,if_neg (by omega)]
   obtain ⟨Bb,oG,iE⟩:=fin x H2 hx k1 k3
   repeat' (first|((first|refine WO.n rfl ?_|refine WO.k rfl ?_);(first|refine aK ?_|refine cI ?_|refine ep ?_|refine ba ?_))|with_reducible (first|refine WO.nil ?_|refine WC.aa ?_|refine aA ?_|refine dY ?_))
   exact ⟨k + 1,by omega,.cons rfl aN,by omega,oG,by omega,_,iE⟩
  ·have hx:(4:Int) - (((fs.getD k []).length:Nat):Int)=dq fs o k:=by unfold dq;rw [if_neg ho]
   repeat' (first|((first|refine WO.n rfl ?_|refine WO.k rfl ?_);(first|refine aK ?_|refine cI ?_|refine cH ?_|refine aJ ?_|refine bj ?_|refine aZ ?_|refine iu ?_|(refine sJ (fun h=>?_) (fun h=>?_)<;>(try simp only [Int.ofNat_eq_natCast] at h))|refine pA ?_))|with_reducible (first|refine WO.nil ?_|refine WC.aa ?_|refine WC.seq ?_|refine WC.skip ?_)|refine WC.ax rfl ?_|refine WC.ay rfl ?_|with_reducible refine aA ?_)
   all_goals try (exfalso;omega)
   refine WO.n rfl ?_
   have Be:=dd.gn.same (H':=aI H1 aY [.int .i64 (4 - (((fs.getD k []).length:Nat):Int))]) (an.refl.set (Nat.le_refl _)) (Nat.le_succ _)
   refine aM.j1 rfl rfl Be (cN Rd.self rfl) (by omega) (by omega) rfl (by rw [kB];unfold small;omega) (by rw [kB];unfold small;omega) ?_
   intro H2 k1 k2
   have k3:∀b,b < aY→cf nv≠some b→ao H2 (at_ b)=ao H1 (at_ b):=fun b hb cG=>by rw [k2 b (by omega) (eS Be cG),ak,if_neg (by omega)]
   obtain ⟨Bb,oG,iE⟩:=fin _ H2 hx k1 k3
   repeat' (first|((first|refine WO.n rfl ?_|refine WO.k rfl ?_);(first|refine aK ?_|refine cI ?_|refine ep ?_|refine ba ?_))|with_reducible (first|refine WO.nil ?_|refine WC.aa ?_|refine aA ?_|refine dY ?_))
   exact ⟨k + 1,by omega,.cons rfl aN,by omega,oG,by omega,_,iE⟩
 ·have:k=fs.length:=by omega
  subst this
  exact aC _ _ _ _ aN dd aS b9
end Go.Eng

namespace Go.Eng
variable {A:aG} {H H':Heap} {nx nx':Nat} {σ:aP} {L:List Value} {Q:cw}
set_option maxRecDepth 100000
theorem getD_some {l:List Int} {i:Nat} {x:Int} (h:l[i]?=some x):l.getD i 0=x:=by rw [List.getD_eq_getElem?_getD,h];rfl
theorem tkA (E:E26 A) {nb tb lo gb ob m:Nat} {c0 n:Int} {v6 rv:Value} {base:Option Addr} {ec oc:Nat} {es:List Ed} {r:List (List Int)} {jN:List Int} {uW:Value} {H0:Heap} (h0:bq n es r=0) (ee:n=(m:Int)) (Ef:(aD es r).length≤20000)
  (he:bP H0 nb 2 bH (.slice base es.length ec) es) (hr:dZ H0 nb 1 aW rv r) (cD:bX r) (rQ:gb < nb) (hg:Rd H0 gb [.int .i64 n,.slice base es.length ec]) (Ge:ob < nb) (ho:au H0 ob (eu es r)) (bg:an H0 H nb) (Gq:nb≤tb) (st:mW H lo nx tb c0 [] jN (.slice none 0 0) uW)
  (aC:∀σ H' nx' av,aT [(S3,.pointer (some ⟨gb,0,none⟩)),(S6,v6),(S9,.slice (some ⟨ob,0,some 1⟩) (2 * es.length) oc),(e8,.pointer (some ⟨tb,0,none⟩))] σ→mW H' lo nx' tb c0 (cP (oC es (eu es r) m) (2 * es.length)) jN av uW→an H0 H' nb→nx≤nx'→Q (.exit 4) σ H' nx') :
  WC A (.loop Py) [(S1,rv),(S3,.pointer (some ⟨gb,0,none⟩)),(S6,v6),(S9,.slice (some ⟨ob,0,some 1⟩) (2 * es.length) oc),(e8,.pointer (some ⟨tb,0,none⟩)),(Wi,.int .i64 ((2 * es.length:Nat):Int)),(T7,.int .i64 0)] H nx Q:=by
 have bR:=st.lt
 have g:=cd h0
 obtain ⟨m0,m1,m2,_⟩:=g.may
 obtain ⟨bu,rc,rfl⟩:=hr.form
 refine WC.loop (α:=Nat) (fun k=>[(S1,.slice bu r.length rc),(S3,.pointer (some ⟨gb,0,none⟩)),(S6,v6),(S9,.slice (some ⟨ob,0,some 1⟩) (2 * es.length) oc),(e8,.pointer (some ⟨tb,0,none⟩)),(Wi,.int .i64 ((2 * es.length:Nat):Int)),(T7,.int .i64 ((k:Nat):Int))])
  (fun k H' nx'=>k≤2 * es.length∧an H0 H' nb∧nx≤nx'∧∃av,mW H' lo nx' tb c0 (cP (oC es (eu es r) m) k) jN av uW) (fun k=>2 * es.length - k)
  ?_ 0 aN ⟨Nat.zero_le _,bg,Nat.le_refl _,_,st⟩
 rintro k H1 aY ⟨hk,aS,b9,av,dd⟩
 have C5:=dd.le
 have fF:=dd.blk
 have nP:Rd H1 tb _:=.inl fF
 have MC:=aS.rd rQ hg
 obtain ⟨ab,ac,rfl⟩:=cu dd.ga
 unfold Py
 subst ee
 repeat' (first|((first|refine WO.n rfl ?_|refine WO.k rfl ?_);(first|refine aK ?_|refine cI ?_|refine aJ ?_|(refine dt (fun h=>?_) (fun h=>?_)<;>(try simp only [Int.ofNat_eq_natCast] at h))|refine AB ?_|refine sa ?_))|with_reducible (first|refine WO.nil ?_|refine WC.aa ?_|refine WC.drawn ?_|refine WC.seq ?_|refine WC.skip ?_|refine WC.exit ?_|refine WC.block ?_)|refine WC.ax rfl ?_|refine WC.ay rfl ?_|with_reducible (first|refine aA ?_|refine ef ?_))
 ·have bF:k < 2 * es.length:=by omega
  have QU:=de bF
  obtain ⟨Nb,i,hi,CT,NT⟩:=of_next h0 QU
  have tX:=au.cell NT
  have Ky:k / 2 < es.length:=by omega
  obtain ⟨eb,eo,G2,rfl,mK,_,_,yS,vN⟩:=he.at (by intro e;rw [e] at Ky;simp at Ky)
  have F5:=aS.rd mK yS
  have q3:=kM Ky vN (q:=k % 2) (Nat.mod_lt _ (by omega))
  rw [show 2 * (k / 2) + k % 2=k by omega] at q3
  have C6:oC es (eu es r) m k=(ct es k,((m + i:Nat):Int),3,0):=by
   unfold oC
   rw [getD_some CT,Int.natCast_add]
  repeat' (refine WO.n rfl ?_;(first|refine cI ?_|refine aJ ?_|refine bj ?_|refine aZ ?_|refine ux ?_))
  refine WO.ca rfl ?_
  refine (A8 E (h:=k) g ((he.same aS).up (by omega)) ((hr.same aS).up (by omega)) cD bF).of ?_
  rintro _ H2 nx2 ⟨rfl,bI,fq⟩
  have bt:an H0 H2 nb:=aS.trans bI (by omega)
  have iE:=dd.frame bI fq
  have Ko:=bt.rd rQ hg
  have Bg:=iE.blk
  have yF:Rd H2 tb _:=.inl Bg
  refine ⟨bk.look rfl Ko rfl rfl (by simp [km,fa]) (bk.look rfl (bt.rd mK yS) (jx q3) rfl (by simp [km,fa]) (bk.look rfl Ko rfl rfl fx (bk.look rfl yF rfl rfl fx .nil))),?_⟩
  have aan:Rd H2 ob _:=bt.rd Ge (.inl ho)
  repeat' (refine WO.n rfl ?_;(first|refine FG ?_|refine bj ?_|refine aZ ?_|refine iu ?_|refine ba ?_))
  refine WO.n rfl ?_
  have pY:(cP (oC es (eu es r) m) k).length=k:=cT
  have Kp:=iE.ga.same (H':=aI H2 nx2 [.int .i64 (ct es k),.int .i64 ((m + i:Nat):Int),.int .i64 3,.int .i64 0]) (an.refl.set (Nat.le_refl _)) (Nat.le_succ _)
  refine aM.j1 (new:=[.int .i64 (ct es k),.int .i64 ((m + i:Nat):Int),.int .i64 3,.int .i64 0]) rfl rfl Kp (cN Rd.self rfl) (by omega) (by omega) rfl (by rw [pY];unfold small;omega) (by rw [pY];unfold small;omega) ?_
  intro H3 k1 k2
  have k3:∀b,b < nx2→cf (.slice ab (cP (oC es (eu es r) m) k).length ac)≠some b→ao H3 (at_ b)=ao H2 (at_ b):=fun b hb cG=>by rw [k2 b (by omega) (eS Kp cG),ak,if_neg (by omega)]
  have sd:=iE.Eo (q:=nx2 + 1) (x:=(ct es k,((m + i:Nat):Int),3,0)) (H2:=H3) (by omega) k1 k3
  have Bb:ao H3 (at_ tb)=some (.cells [.int .i64 c0,.slice ab (cP (oC es (eu es r) m) k).length ac,uW]):=(k3 tb (by omega) (fun e=>by have:=(cz iE.ga e).1;omega)).trans Bg
  rw [← C6,← gy] at sd
  repeat' (first|((first|refine WO.n rfl ?_|refine WO.k rfl ?_);(first|refine aK ?_|refine cI ?_|refine ep ?_|refine ba ?_))|with_reducible (first|refine WO.nil ?_|refine WC.aa ?_|refine aA ?_|refine dY ?_|refine nD ?_))
  refine ⟨k + 1,by omega,.cons rfl aN,by omega,fun b hb=>?_,by omega,_,sd⟩
  rw [ak,if_neg (by omega),k3 b (by omega) (fun e=>by have:=(cz iE.ga e).1;omega)]
  exact bt b hb
 ·have:k=2 * es.length:=by omega
  subst this
  exact aC _ _ _ _ aN dd aS b9
theorem tkB (E:E26 A) {nb tb lo gb ob m:Nat} {c0 n:Int} {v6 ev:Value} {oc:Nat} {es:List Ed} {r:List (List Int)} {jN:List Int} {VQ uW:Value} {Bh:List BA} {H0:Heap} (h0:bq n es r=0) (ee:n=(m:Int)) (Ef:(aD es r).length≤20000) (has:Bh.length≤1048576)
  (rQ:gb < nb) (hg:Rd H0 gb [.int .i64 n,ev]) (Ge:ob < nb) (ho:au H0 ob (eu es r)) (bg:an H0 H nb) (Gq:nb≤tb) (st:mW H lo nx tb c0 Bh jN VQ uW)
  (aC:∀σ H' nx' av,aT [(S6,v6),(e8,.pointer (some ⟨tb,0,none⟩))] σ→mW H' lo nx' tb c0 (Bh++cP (oD (eu es r) m) (2 * es.length)) jN av uW→an H0 H' nb→nx≤nx'→Q (.exit 6) σ H' nx') :
  WC A (.loop Pz) [(S3,.pointer (some ⟨gb,0,none⟩)),(S6,v6),(S9,.slice (some ⟨ob,0,some 1⟩) (2 * es.length) oc),(e8,.pointer (some ⟨tb,0,none⟩)),(I6,.int .i64 ((2 * es.length:Nat):Int)),(FT,.int .i64 0)] H nx Q:=by
 have bR:=st.lt
 have g:=cd h0
 obtain ⟨m0,m1,m2,_⟩:=g.may
 refine WC.loop (α:=Nat) (fun k=>[(S3,.pointer (some ⟨gb,0,none⟩)),(S6,v6),(S9,.slice (some ⟨ob,0,some 1⟩) (2 * es.length) oc),(e8,.pointer (some ⟨tb,0,none⟩)),(I6,.int .i64 ((2 * es.length:Nat):Int)),(FT,.int .i64 ((k:Nat):Int))])
  (fun k H' nx'=>k≤2 * es.length∧an H0 H' nb∧nx≤nx'∧∃av,mW H' lo nx' tb c0 (Bh++cP (oD (eu es r) m) k) jN av uW) (fun k=>2 * es.length - k)
  ?_ 0 aN ⟨Nat.zero_le _,bg,Nat.le_refl _,_,by rw [nq,List.append_nil];exact st⟩
 rintro k H1 aY ⟨hk,aS,b9,av,dd⟩
 have C5:=dd.le
 have fF:=dd.blk
 have nP:Rd H1 tb _:=.inl fF
 have MC:=aS.rd rQ hg
 have hoR:Rd H1 ob _:=aS.rd Ge (.inl ho)
 obtain ⟨ab,ac,rfl⟩:=cu dd.ga
 unfold Pz
 subst ee
 repeat' (first|((first|refine WO.n rfl ?_|refine WO.k rfl ?_);(first|refine aK ?_|refine cI ?_|refine aJ ?_|refine aZ ?_|(refine dt (fun h=>?_) (fun h=>?_)<;>(try simp only [Int.ofNat_eq_natCast] at h))))|with_reducible (first|refine WO.nil ?_|refine WC.aa ?_|refine WC.drawn ?_|refine WC.seq ?_|refine WC.skip ?_|refine WC.exit ?_|refine WC.block ?_)|refine WC.ax rfl ?_|refine WC.ay rfl ?_|with_reducible (first|refine aA ?_|refine ef ?_))
 ·have bF:k < 2 * es.length:=by omega
  have QU:=de bF
  obtain ⟨_,i,hi,CT,_⟩:=of_next h0 QU
  obtain ⟨_,j,hj,NT,_⟩:=of_next h0 bF
  have tX:=au.cell CT
  have Wr:=au.cell NT
  have C6:oD (eu es r) m k=(((m + j:Nat):Int),((m + i:Nat):Int),4096,1):=by
   unfold oD
   rw [getD_some CT,getD_some NT,Int.natCast_add,Int.natCast_add]
  repeat' (refine WO.n rfl ?_;(first|refine cI ?_|refine FG ?_|refine aJ ?_|refine bj ?_|refine aZ ?_|refine iu ?_|refine ba ?_|refine OW ?_))
  refine WO.n rfl ?_
  have pY:(Bh++cP (oD (eu es r) m) k).length=Bh.length + k:=by rw [List.length_append,cT]
  have Kp:=dd.ga.same (H':=aI H1 aY [.int .i64 ((m + j:Nat):Int),.int .i64 ((m + i:Nat):Int),.int .i64 4096,.int .i64 1]) (an.refl.set (Nat.le_refl _)) (Nat.le_succ _)
  refine aM.j1 (new:=[.int .i64 ((m + j:Nat):Int),.int .i64 ((m + i:Nat):Int),.int .i64 4096,.int .i64 1]) rfl rfl Kp (cN Rd.self rfl) (by omega) (by omega) rfl (by rw [pY];unfold small;omega) (by rw [pY];unfold small;omega) ?_
  intro H3 k1 k2
  have k3:∀b,b < aY→cf (.slice ab (Bh++cP (oD (eu es r) m) k).length ac)≠some b→ao H3 (at_ b)=ao H1 (at_ b):=fun b hb cG=>by rw [k2 b (by omega) (eS Kp cG),ak,if_neg (by omega)]
  have sd:=dd.Eo (q:=aY + 1) (x:=(((m + j:Nat):Int),((m + i:Nat):Int),4096,1)) (H2:=H3) (by omega) k1 k3
  have Bb:ao H3 (at_ tb)=some (.cells [.int .i64 c0,.slice ab (Bh++cP (oD (eu es r) m) k).length ac,uW]):=(k3 tb (by omega) (fun e=>by have:=(cz dd.ga e).1;omega)).trans fF
  rw [← C6,List.append_assoc,← gy] at sd
  repeat' (first|((first|refine WO.n rfl ?_|refine WO.k rfl ?_);(first|refine aK ?_|refine cI ?_|refine ep ?_|refine ba ?_))|with_reducible (first|refine WO.nil ?_|refine WC.aa ?_|refine aA ?_|refine dY ?_|refine nD ?_))
  refine ⟨k + 1,by omega,.cons rfl aN,by omega,fun b hb=>?_,by omega,_,sd⟩
  rw [ak,if_neg (by omega),k3 b (by omega) (fun e=>by have:=(cz dd.ga e).1;omega)]
  exact aS b hb
 ·have:k=2 * es.length:=by omega
  subst this
  exact aC _ _ _ _ aN dd aS b9
theorem C7 (E:E26 A) {n o:Int} {m:Nat} {ev rv:Value} {es:List Ed} {r:List (List Int)} (h0:bq n es r=0) (ee:n=(m:Int)) (he:bP H nx 2 bH ev es) (hr:dZ H nx 1 aW rv r) (cD:bX r) :
  WF A 29 [.agg #[.int .i64 n,ev],rv,.int .i64 o] H nx fun v H' nx'=>∃lo,nx≤lo∧Bd H' lo nx' v ((m + (aD es r).length:Nat):Int) (lL es (eu es r) m) (gQ es (aD es r) m o)∧an H H' nx∧lo≤nx':=by
 obtain ⟨base,ec,rfl⟩:=he.form
 obtain ⟨bu,rc,rfl⟩:=hr.form
 have g:=cd h0
 obtain ⟨m0,m1,m2,_⟩:=g.may
 have Qi:=g.len
 have ok:=ed h0
 have wO:=ok.Bz
 refine WF.enter (E.h rfl _ _ _) E.f29 ?_
 repeat' (first|((first|refine WO.n rfl ?_|refine WO.k rfl ?_);(first|refine jL ?_|refine uw ?_|refine aJ ?_))|with_reducible (first|refine WO.nil ?_|refine WC.aa ?_|refine WC.seq ?_|refine aA ?_))
 have bg:an H (aI (aI H nx [.int .i64 n,.slice base es.length ec]) (nx + 1) [.int .i64 0,.slice none 0 0,.slice none 0 0]) nx:=(an.refl.set (Nat.le_refl _)).set (by omega)
 refine WO.cn rfl ?_
 refine (E.uS h0 ((he.same bg).up (by omega)) ((hr.same bg).up (by omega)) cD).of ?_
 rintro _ H1 aY ⟨fv,nx0,rfl,r9,b9,hL,aS⟩
 obtain ⟨fb,fc,rfl⟩:=hL.form
 have bn:an H H1 nx:=bg.trans aS (by omega)
 have pM:Rd H1 nx [.int .i64 n,.slice base es.length ec]:=aS.rd (by omega) (Rd.skip (by omega) Rd.self)
 have iU:ao H1 (at_ (nx + 1))=some (.cells [.int .i64 0,.slice none 0 0,.slice none 0 0]):=(aS _ (by omega)).trans aw
 clear bg aS
 repeat' (first|((first|refine WO.n rfl ?_|refine WO.k rfl ?_);(first|refine aK ?_|refine AA ?_|refine aJ ?_))|with_reducible (first|refine WO.nil ?_|refine WC.aa ?_|refine WC.seq ?_|refine aA ?_))
 refine WO.cn rfl ?_
 refine (E.Vb h0 ((he.same bn).up (by omega)) ((hr.same bn).up (by omega)) cD).of ?_
 rintro _ H2 nx2 ⟨ob,oc,rfl,O0,QA,A1,Ox,bI,fq⟩
 have bt:an H H2 nx:=bn.trans bI (by omega)
 have sU:Rd H2 nx [.int .i64 n,.slice base es.length ec]:=bI.rd (by omega) pM
 have qi:ao H2 (at_ (nx + 1))=some (.cells [.int .i64 0,.slice none 0 0,.slice none 0 0]):=(bI _ (by omega)).trans iU
 have w3:LL H2 nx0 aY (.slice fb (aD es r).length fc) (aD es r):=hL.JN (fun b h1 h2=>bI b h2) (Nat.le_refl _)
 subst ee
 repeat' (first|((first|refine WO.n rfl ?_|refine WO.k rfl ?_);(first|refine aK ?_|refine AA ?_|refine cI ?_|refine cH ?_|refine uw ?_|refine FG ?_|refine aJ ?_|refine iQ ?_|refine ba ?_))|with_reducible (first|refine WO.nil ?_|refine WC.aa ?_|refine WC.seq ?_|refine WC.block ?_|refine aA ?_))
 have Kz:r.length=m:=by omega
 generalize yR:aD es r=fs at w3 hL wO ok ⊢
 have Ef:(aD es r).length≤20000:=by rw [yR];exact wO
 refine WC.sub aN (tkR (H0:=H2) (nb:=nx2) (tb:=nx2) (lo:=nx2 + 1) (c0:=((m + fs.length:Nat):Int)) g ((hr.same bt).up (by omega)) ((an.refl.set (Nat.le_refl _)).set (Nat.le_refl _)) (Nat.le_refl _) ⟨aw,.nil,.nil,(fun b hb=>by cases hb),by omega,by omega⟩ (fun σ H3 iY nv1 hσ dd eL se=>?_))
 refine ew (aA (WC.sub hσ ?_))
 clear hσ
 rw [Kz] at dd
 repeat' (first|(refine WO.k rfl ?_;(first|refine aK ?_|refine cH ?_))|with_reducible (first|refine WO.nil ?_|refine WC.aa ?_|refine WC.seq ?_|refine WC.block ?_|refine aA ?_))
 refine WC.sub aN (tkF (H0:=H2) (nb:=nx2) (tb:=nx2) ok (by rw [cT];omega) (w3.UI.up fq) eL (Nat.le_refl _) dd (fun σ H4 J6 nv2 hσ iE rL G1=>?_))
 refine ew (aA (WC.sub hσ ?_))
 clear hσ
 repeat' (first|(refine WO.k rfl ?_;(first|refine aK ?_|refine cH ?_))|with_reducible (first|refine WO.nil ?_|refine WC.aa ?_|refine WC.seq ?_|refine WC.block ?_|refine aA ?_))
 refine WC.sub aN (tkA E (H0:=H2) (nb:=nx2) (tb:=nx2) (gb:=nx) (ob:=ob) (m:=m) h0 rfl Ef ((he.same bt).up (by omega)) ((hr.same bt).up (by omega)) cD (by omega) sU A1 Ox rL (Nat.le_refl _) iE (fun σ H5 A6 av1 hσ sd yT Vj=>?_))
 refine ew (aA (WC.sub hσ ?_))
 clear hσ
 repeat' (first|(refine WO.k rfl ?_;(first|refine aK ?_|refine cH ?_))|with_reducible (first|refine WO.nil ?_|refine WC.aa ?_|refine WC.seq ?_|refine WC.block ?_|refine aA ?_))
 refine WC.sub aN (tkB E (H0:=H2) (nb:=nx2) (tb:=nx2) (gb:=nx) (ob:=ob) (m:=m) h0 rfl Ef (by rw [cT];omega) (by omega) sU A1 Ox yT (Nat.le_refl _) sd (fun σ H6 Gm av2 hσ yC KK VZ=>?_))
 refine ew (aA (WC.sub hσ ?_))
 clear hσ
 have fF:=yC.blk
 have nP:Rd H6 nx2 _:=.inl fF
 have V2:ao H6 (at_ (nx + 1))=some (.cells [.int .i64 0,.slice none 0 0,.slice none 0 0]):=(KK _ (by omega)).trans qi
 obtain ⟨ab,ac,rfl⟩:=cu yC.ga
 obtain ⟨nb,nc,rfl⟩:=cu yC.gn
 repeat' (first|(refine WO.n rfl ?_;(first|refine aJ ?_|refine iQ ?_))|with_reducible (first|refine WO.nil ?_|refine WC.aa ?_|refine WC.seq ?_|refine WC.ret ?_|refine aA ?_))
 refine kP rfl aw rfl ⟨nx2 + 1,by omega,⟨_,_,rfl,?_,?_,yC.Kk⟩,(bt.trans KK (by omega)).set (by omega),yC.le⟩
 ·exact yC.ga.qL (fun b hb hl=>by rw [ak,if_neg (by omega)]) (Nat.le_refl _)
 ·exact yC.gn.qL (fun b hb hl=>by rw [ak,if_neg (by omega)]) (Nat.le_refl _)
end Go.Eng

namespace Go.Eng
variable {A:aG} {H H':Heap} {nx nx':Nat} {σ:aP} {L:List Value} {Q:cw}
set_option maxRecDepth 100000
theorem rkR {nb tb lo gb db dc m:Nat} {c0:Int} {v2 v6 v7 v8 ev:Value} {es:List Ed} {n:Int} {H0:Heap} (ee:n=(m:Int)) (hm:m≤1024) (eB:es.length≤4000) (bg:an H0 H nb) (Gq:nb≤tb) (rQ:gb < nb) (hg:Rd H0 gb [.int .i64 n,ev]) (hdt:tb < db) (MZ:db < lo) (hd:au H db (fZ es m (2 * es.length))) (st:mW H lo nx tb c0 [] [] (.slice none 0 0) (.slice none 0 0))
  (aC:∀σ H' nx' nv,aT [(S2,v2),(S3,.pointer (some ⟨gb,0,none⟩)),(S6,v6),(S7,v7),(S8,v8),(S9,.pointer (some ⟨tb,0,none⟩))] σ→mW H' lo nx' tb c0 [] (cP (rR es) m) (.slice none 0 0) nv→an H0 H' nb→nx≤nx'→Q (.exit 0) σ H' nx') :
  WC A (.loop Ph) [(S2,v2),(S3,.pointer (some ⟨gb,0,none⟩)),(S6,v6),(S7,v7),(S8,v8),(S9,.pointer (some ⟨tb,0,none⟩)),(gu,.slice (some ⟨db,0,some 1⟩) m dc),(e8,.int .i64 0)] H nx Q:=by
 have bR:=st.lt
 refine WC.loop (α:=Nat) (fun k=>[(S2,v2),(S3,.pointer (some ⟨gb,0,none⟩)),(S6,v6),(S7,v7),(S8,v8),(S9,.pointer (some ⟨tb,0,none⟩)),(gu,.slice (some ⟨db,0,some 1⟩) m dc),(e8,.int .i64 ((k:Nat):Int))])
  (fun k H' nx'=>k≤m∧an H0 H' nb∧nx≤nx'∧au H' db (fZ es m (2 * es.length))∧∃nv,mW H' lo nx' tb c0 [] (cP (rR es) k) (.slice none 0 0) nv) (fun k=>m - k)
  ?_ 0 aN ⟨Nat.zero_le _,bg,Nat.le_refl _,hd,_,st⟩
 rintro k H1 aY ⟨hk,aS,b9,TO,nv,dd⟩
 have C5:=dd.le
 have fF:=dd.blk
 have nP:Rd H1 tb _:=.inl fF
 have MC:=aS.rd rQ hg
 have Vn:ao H1 (at_ db)=some (.cells ((fZ es m (2 * es.length)).map (.int .i64))):=TO
 have hdR:Rd H1 db _:=.inl Vn
 subst ee
 unfold Ph
 repeat' (first|((first|refine WO.n rfl ?_|refine WO.k rfl ?_);(first|refine cI ?_|refine aJ ?_|refine aZ ?_|(refine dt (fun h=>?_) (fun h=>?_)<;>(try simp only [Int.ofNat_eq_natCast] at h))))|with_reducible (first|refine WO.nil ?_|refine WC.aa ?_|refine WC.drawn ?_|refine WC.seq ?_|refine WC.skip ?_|refine WC.exit ?_|refine WC.block ?_)|refine WC.ax rfl ?_|refine WC.ay rfl ?_|with_reducible (first|refine aA ?_|refine ef ?_))
 ·have bF:k < m:=by omega
  have tX:=au.cell (fL (es:=es) (k:=2 * es.length) bF)
  have AW:=fm (es:=es) (k:=2 * es.length) (v:=k)
  repeat' (refine WO.n rfl ?_;(first|refine bj ?_|refine iu ?_|refine pA ?_))
  refine WO.n rfl ?_
  have Be:=dd.gn.same (H':=aI H1 aY [.int .i64 (4 - (((cg es (2 * es.length) k).length:Nat):Int))]) (an.refl.set (Nat.le_refl _)) (Nat.le_succ _)
  refine aM.j1 rfl rfl Be (cN Rd.self rfl) (by omega) (by omega) rfl (by rw [cT];unfold small;omega) (by rw [cT];unfold small;omega) ?_
  intro H2 k1 k2
  have k3:∀b,b < aY→cf nv≠some b→ao H2 (at_ b)=ao H1 (at_ b):=fun b hb cG=>by rw [k2 b (by omega) (eS Be cG),ak,if_neg (by omega)]
  have Bb:ao H2 (at_ tb)=some (.cells [.int .i64 c0,.slice none 0 0,nv]):=(k3 tb (by omega) (fun e=>by have:=(cz dd.gn e).1;omega)).trans fF
  have iE:=dd.En (q:=aY + 1) (x:=rR es k) (by omega) k1 k3
  rw [← gy] at iE
  repeat' (first|((first|refine WO.n rfl ?_|refine WO.k rfl ?_);(first|refine aK ?_|refine cI ?_|refine ep ?_|refine ba ?_))|with_reducible (first|refine WO.nil ?_|refine WC.aa ?_|refine aA ?_|refine dY ?_|refine nD ?_))
  refine ⟨k + 1,by omega,.cons rfl aN,by omega,fun b hb=>?_,by omega,?_,_,iE⟩
  ·rw [ak,if_neg (by omega),k3 b (by omega) (fun e=>by have:=(cz dd.gn e).1;omega)]
   exact aS b hb
  ·show ao (aI H2 tb _) (at_ db)=_
   rw [ak,if_neg (by omega),k3 db (by omega) (fun e=>by have:=(cz dd.gn e).1;omega)]
   exact Vn
 ·have:k=m:=by omega
  subst this
  exact aC _ _ _ _ aN dd aS b9
theorem rkF {nb tb lo:Nat} {c0 o:Int} {v3 v6 v8:Value} {fb:Option Addr} {fc:Nat} {es:List Ed} {fs:List (List Int)} {jN:List Int} {uW:Value} {H0:Heap} (ok:dI fs (2 * es.length)) (UK:jN.length≤1048576) (hl:dZ H0 nb 1 aW (.slice fb fs.length fc) fs) (bg:an H0 H nb) (Gq:nb≤tb) (st:mW H lo nx tb c0 [] jN (.slice none 0 0) uW)
  (aC:∀σ H' nx' nv,aT [(S3,v3),(S6,v6),(S8,v8),(S9,.pointer (some ⟨tb,0,none⟩))] σ→mW H' lo nx' tb c0 [] (jN++cP (dq fs o) fs.length) (.slice none 0 0) nv→an H0 H' nb→nx≤nx'→Q (.exit 2) σ H' nx') :
  WC A (.loop Pj) [(S2,.int .i64 o),(S3,v3),(S6,v6),(S7,.slice fb fs.length fc),(S8,v8),(S9,.pointer (some ⟨tb,0,none⟩)),(jM,.int .i64 0)] H nx Q:=by
 have bR:=st.lt
 have wO:=ok.Bz
 refine WC.loop (α:=Nat) (fun k=>[(S2,.int .i64 o),(S3,v3),(S6,v6),(S7,.slice fb fs.length fc),(S8,v8),(S9,.pointer (some ⟨tb,0,none⟩)),(jM,.int .i64 ((k:Nat):Int))])
  (fun k H' nx'=>k≤fs.length∧an H0 H' nb∧nx≤nx'∧∃nv,mW H' lo nx' tb c0 [] (jN++cP (dq fs o) k) (.slice none 0 0) nv) (fun k=>fs.length - k)
  ?_ 0 aN ⟨Nat.zero_le _,bg,Nat.le_refl _,_,by rw [nq,List.append_nil];exact st⟩
 rintro k H1 aY ⟨hk,aS,b9,nv,dd⟩
 have C5:=dd.le
 have fF:=dd.blk
 have nP:Rd H1 tb _:=.inl fF
 unfold Pj
 repeat' (first|((first|refine WO.n rfl ?_|refine WO.k rfl ?_);(first|refine aK ?_|refine cI ?_|refine cH ?_|refine aJ ?_|(refine dt (fun h=>?_) (fun h=>?_)<;>(try simp only [Int.ofNat_eq_natCast] at h))|(refine sJ (fun h=>?_) (fun h=>?_)<;>(try simp only [Int.ofNat_eq_natCast] at h))))|with_reducible (first|refine WO.nil ?_|refine WC.aa ?_|refine WC.drawn ?_|refine WC.seq ?_|refine WC.skip ?_|refine WC.exit ?_|refine WC.block ?_)|refine WC.ax rfl ?_|refine WC.ay rfl ?_|with_reducible (first|refine aA ?_|refine ef ?_))
 rotate_right
 ·have:k=fs.length:=by omega
  subst this
  exact aC _ _ _ _ aN dd aS b9
 all_goals
  have bF:k < fs.length:=by omega
  have Ba:=ok.row k
  have jA:fs.getD k []=fs[k]:=by rw [List.getD_eq_getElem?_getD,List.getElem?_eq_getElem bF];rfl
  obtain ⟨RT,ro,vO,ib,ic,rfl,jo,iP,iD,hi⟩:=hl.at bF
  rw [← jA] at iD hi
  have kg:=aS.rd jo iP
  have fin:∀(x:Int) (H2:Heap),x=dq fs o k→ao H2 (at_ (aY + 1))=some (.cells ((jN++cP (dq fs o) k).map (.int .i64)++[.int .i64 x]))→(∀b,b < aY→cf nv≠some b→ao H2 (at_ b)=ao H1 (at_ b))→
    ao H2 (at_ tb)=some (.cells [.int .i64 c0,.slice none 0 0,nv])∧an H0 (aI H2 tb [.int .i64 c0,.slice none 0 0,.slice (some ⟨aY + 1,0,some 1⟩) ((jN++cP (dq fs o) k).length + 1) (2 * ((jN++cP (dq fs o) k).length + 1))]) nb∧
    mW (aI H2 tb [.int .i64 c0,.slice none 0 0,.slice (some ⟨aY + 1,0,some 1⟩) ((jN++cP (dq fs o) k).length + 1) (2 * ((jN++cP (dq fs o) k).length + 1))]) lo (aY + 1 + 1) tb c0 [] (jN++cP (dq fs o) (k + 1)) (.slice none 0 0) (.slice (some ⟨aY + 1,0,some 1⟩) ((jN++cP (dq fs o) k).length + 1) (2 * ((jN++cP (dq fs o) k).length + 1))):=by
   intro x H2 hx k1 k3
   refine ⟨(k3 tb (by omega) (fun e=>by have:=(cz dd.gn e).1;omega)).trans fF,fun b hb=>?_,?_⟩
   ·rw [ak,if_neg (by omega),k3 b (by omega) (fun e=>by have:=(cz dd.gn e).1;omega)]
    exact aS b hb
   ·have iE:=dd.En (q:=aY + 1) (x:=x) (by omega) k1 k3
    rw [hx] at iE
    rw [gy,← List.append_assoc]
    exact iE
  have kB:(jN++cP (dq fs o) k).length=jN.length + k:=by rw [List.length_append,cT]
  by_cases ho:(k:Int)=o
  ·first
    | (exfalso;omega)
    | (
      skip
      have hx:(-4:Int) - (((fs.getD k []).length:Nat):Int)=dq fs o k:=by unfold dq;rw [if_pos ho]
      generalize Vh:(-4:Int) - (((fs.getD k []).length:Nat):Int)=x at hx
      have QT:Int.negSucc 3 - (((fs.getD k []).length:Nat):Int)=x:=Vh
      repeat' (refine WO.n rfl ?_;(first|refine cH ?_|refine bj ?_|refine aZ ?_|refine iu ?_|refine pA ?_))
      all_goals try (exfalso;omega)
      rw [QT]
      refine WO.n rfl ?_
      have Be:=dd.gn.same (H':=aI H1 aY [.int .i64 x]) (an.refl.set (Nat.le_refl _)) (Nat.le_succ _)
      refine aM.j1 rfl rfl Be (cN Rd.self rfl) (by omega) (by omega) rfl (by rw [kB];unfold small;omega) (by rw [kB];unfold small;omega) ?_
      intro H2 k1 k2
      have k3:∀b,b < aY→cf nv≠some b→ao H2 (at_ b)=ao H1 (at_ b):=fun b hb cG=>by rw [k2 b (by omega) (eS Be cG),ak,if_neg (by omega)]
      obtain ⟨Bb,oG,iE⟩:=fin x H2 hx k1 k3
      repeat' (first|((first|refine WO.n rfl ?_|refine WO.k rfl ?_);(first|refine aK ?_|refine cI ?_|refine ep ?_|refine ba ?_))|with_reducible (first|refine WO.nil ?_|refine WC.aa ?_|refine aA ?_|refine dY ?_|refine nD ?_))
      exact ⟨k + 1,by omega,.cons rfl aN,by omega,oG,by omega,_,iE⟩)
  ·first
    | (exfalso;omega)
    | (
      skip
      have hx:(4:Int) - (((fs.getD k []).length:Nat):Int)=dq fs o k:=by unfold dq;rw [if_neg ho]
      repeat' (refine WO.n rfl ?_;(first|refine cH ?_|refine bj ?_|refine aZ ?_|refine iu ?_|refine pA ?_))
      all_goals try (exfalso;omega)
      refine WO.n rfl ?_
      have Be:=dd.gn.same (H':=aI H1 aY [.int .i64 (4 - (((fs.getD k []).length:Nat):Int))]) (an.refl.set (Nat.le_refl _)) (Nat.le_succ _)
      refine aM.j1 rfl rfl Be (cN Rd.self rfl) (by omega) (by omega) rfl (by rw [kB];unfold small;omega) (by rw [kB];unfold small;omega) ?_
      intro H2 k1 k2
      have k3:∀b,b < aY→cf nv≠some b→ao H2 (at_ b)=ao H1 (at_ b):=fun b hb cG=>by rw [k2 b (by omega) (eS Be cG),ak,if_neg (by omega)]
      obtain ⟨Bb,oG,iE⟩:=fin _ H2 hx k1 k3
      repeat' (first|((first|refine WO.n rfl ?_|refine WO.k rfl ?_);(first|refine aK ?_|refine cI ?_|refine ep ?_|refine ba ?_))|with_reducible (first|refine WO.nil ?_|refine WC.aa ?_|refine aA ?_|refine dY ?_|refine nD ?_))
      exact ⟨k + 1,by omega,.cons rfl aN,by omega,oG,by omega,_,iE⟩)
end Go.Eng

namespace Go.Eng
variable {A:aG} {H H':Heap} {nx nx':Nat} {σ:aP} {L:List Value} {Q:cw}
set_option maxRecDepth 100000
theorem rkA (E:E26 A) {nb tb lo gb ob m:Nat} {c0 n:Int} {v6:Value} {base:Option Addr} {ec oc:Nat} {es:List Ed} {r:List (List Int)} {jN:List Int} {uW:Value} {H0:Heap} (h0:bq n es r=0) (ee:n=(m:Int)) (Ef:(aD es r).length≤20000)
  (he:bP H0 nb 2 bH (.slice base es.length ec) es) (rQ:gb < nb) (hg:Rd H0 gb [.int .i64 n,.slice base es.length ec]) (Ge:ob < nb) (ho:au H0 ob (eu es r)) (bg:an H0 H nb) (Gq:nb≤tb) (st:mW H lo nx tb c0 [] jN (.slice none 0 0) uW)
  (aC:∀σ H' nx' av,aT [(S3,.pointer (some ⟨gb,0,none⟩)),(S6,v6),(S8,.slice (some ⟨ob,0,some 1⟩) (2 * es.length) oc),(S9,.pointer (some ⟨tb,0,none⟩))] σ→mW H' lo nx' tb c0 (cP (oC es (eu es r) m) (2 * es.length)) jN av uW→an H0 H' nb→nx≤nx'→Q (.exit 4) σ H' nx') :
  WC A (.loop Pk) [(S3,.pointer (some ⟨gb,0,none⟩)),(S6,v6),(S8,.slice (some ⟨ob,0,some 1⟩) (2 * es.length) oc),(S9,.pointer (some ⟨tb,0,none⟩)),(kX,.int .i64 0)] H nx Q:=by
 have bR:=st.lt
 have g:=cd h0
 have C2:=g.may
 obtain ⟨m0,m1,m2,_⟩:=g.may
 refine WC.loop (α:=Nat) (fun k=>[(S3,.pointer (some ⟨gb,0,none⟩)),(S6,v6),(S8,.slice (some ⟨ob,0,some 1⟩) (2 * es.length) oc),(S9,.pointer (some ⟨tb,0,none⟩)),(kX,.int .i64 ((k:Nat):Int))])
  (fun k H' nx'=>k≤2 * es.length∧an H0 H' nb∧nx≤nx'∧∃av,mW H' lo nx' tb c0 (cP (oC es (eu es r) m) k) jN av uW) (fun k=>2 * es.length - k)
  ?_ 0 aN ⟨Nat.zero_le _,bg,Nat.le_refl _,_,st⟩
 rintro k H1 aY ⟨hk,aS,b9,av,dd⟩
 have C5:=dd.le
 have fF:=dd.blk
 have nP:Rd H1 tb _:=.inl fF
 have MC:=aS.rd rQ hg
 obtain ⟨ab,ac,rfl⟩:=cu dd.ga
 unfold Pk
 subst ee
 repeat' (first|((first|refine WO.n rfl ?_|refine WO.k rfl ?_);(first|refine cI ?_|refine cH ?_|refine aJ ?_|(refine dt (fun h=>?_) (fun h=>?_)<;>(try simp only [Int.ofNat_eq_natCast] at h))))|with_reducible (first|refine WO.nil ?_|refine WC.aa ?_|refine WC.drawn ?_|refine WC.seq ?_|refine WC.skip ?_|refine WC.exit ?_|refine WC.block ?_)|refine WC.ax rfl ?_|refine WC.ay rfl ?_|with_reducible (first|refine aA ?_|refine ef ?_))
 ·have bF:k < 2 * es.length:=by omega
  have QU:=de bF
  obtain ⟨_,i,hi,CT,_⟩:=of_next h0 QU
  have tX:=au.cell CT
  have C6:oC es (eu es r) m k=(ct es k,((m + i:Nat):Int),3,0):=by
   unfold oC
   rw [getD_some CT,Int.natCast_add]
  obtain ⟨u,huu,Kh⟩:=kk C2 bF
  refine WO.ca rfl ?_
  refine (E.from (h:=k) ((he.same aS).up (by omega)) bF (by omega)).of ?_
  rintro _ H2 nx2 ⟨rfl,bI,fq⟩
  have bt:an H0 H2 nb:=aS.trans bI (by omega)
  have iE:=dd.frame bI fq
  have Ko:=bt.rd rQ hg
  have Bg:=iE.blk
  have yF:Rd H2 tb _:=.inl Bg
  refine ⟨bk.look rfl Ko rfl rfl (by simp [km,fa]) (bk.look rfl yF rfl rfl fx .nil),?_⟩
  refine WO.ca rfl ?_
  refine (E.bT (h:=k) (by omega)).of ?_
  rintro _ Xs QV ⟨rfl,rfl,rfl⟩
  refine ⟨bk.look rfl Ko rfl rfl (by simp [km,fa]) (bk.look rfl yF rfl rfl fx .nil),?_⟩
  have aan:Rd Xs ob _:=bt.rd Ge (.inl ho)
  repeat' (refine WO.n rfl ?_;(first|refine FG ?_|refine bj ?_|refine aZ ?_|refine iu ?_|refine ba ?_))
  refine WO.n rfl ?_
  have pY:(cP (oC es (eu es r) m) k).length=k:=cT
  have Kp:=iE.ga.same (H':=aI Xs QV [.int .i64 (ct es k),.int .i64 ((m + i:Nat):Int),.int .i64 3,.int .i64 0]) (an.refl.set (Nat.le_refl _)) (Nat.le_succ _)
  refine aM.j1 (new:=[.int .i64 (ct es k),.int .i64 ((m + i:Nat):Int),.int .i64 3,.int .i64 0]) rfl rfl Kp (cN Rd.self rfl) (by omega) (by omega) rfl (by rw [pY];unfold small;omega) (by rw [pY];unfold small;omega) ?_
  intro H3 k1 k2
  have k3:∀b,b < QV→cf (.slice ab (cP (oC es (eu es r) m) k).length ac)≠some b→ao H3 (at_ b)=ao Xs (at_ b):=fun b hb cG=>by rw [k2 b (by omega) (eS Kp cG),ak,if_neg (by omega)]
  have sd:=iE.Eo (q:=QV + 1) (x:=(ct es k,((m + i:Nat):Int),3,0)) (H2:=H3) (by omega) k1 k3
  have Bb:ao H3 (at_ tb)=some (.cells [.int .i64 c0,.slice ab (cP (oC es (eu es r) m) k).length ac,uW]):=(k3 tb (by omega) (fun e=>by have:=(cz iE.ga e).1;omega)).trans Bg
  rw [← C6,← gy] at sd
  repeat' (first|((first|refine WO.n rfl ?_|refine WO.k rfl ?_);(first|refine aK ?_|refine cI ?_|refine ep ?_|refine ba ?_))|with_reducible (first|refine WO.nil ?_|refine WC.aa ?_|refine aA ?_|refine dY ?_|refine nD ?_))
  refine ⟨k + 1,by omega,.cons rfl aN,by omega,fun b hb=>?_,by omega,_,sd⟩
  rw [ak,if_neg (by omega),k3 b (by omega) (fun e=>by have:=(cz iE.ga e).1;omega)]
  exact bt b hb
 ·have:k=2 * es.length:=by omega
  subst this
  exact aC _ _ _ _ aN dd aS b9
theorem rkB (E:E26 A) {nb tb lo gb ob m:Nat} {c0 n:Int} {v6 ev:Value} {oc:Nat} {es:List Ed} {r:List (List Int)} {jN:List Int} {VQ uW:Value} {Bh:List BA} {H0:Heap} (h0:bq n es r=0) (ee:n=(m:Int)) (Ef:(aD es r).length≤20000) (has:Bh.length≤1048576)
  (rQ:gb < nb) (hg:Rd H0 gb [.int .i64 n,ev]) (Ge:ob < nb) (ho:au H0 ob (eu es r)) (bg:an H0 H nb) (Gq:nb≤tb) (st:mW H lo nx tb c0 Bh jN VQ uW)
  (aC:∀σ H' nx' av,aT [(S6,v6),(S9,.pointer (some ⟨tb,0,none⟩))] σ→mW H' lo nx' tb c0 (Bh++cP (oD (eu es r) m) (2 * es.length)) jN av uW→an H0 H' nb→nx≤nx'→Q (.exit 6) σ H' nx') :
  WC A (.loop Pm) [(S3,.pointer (some ⟨gb,0,none⟩)),(S6,v6),(S8,.slice (some ⟨ob,0,some 1⟩) (2 * es.length) oc),(S9,.pointer (some ⟨tb,0,none⟩)),(iI,.int .i64 0)] H nx Q:=by
 have bR:=st.lt
 have g:=cd h0
 obtain ⟨m0,m1,m2,_⟩:=g.may
 refine WC.loop (α:=Nat) (fun k=>[(S3,.pointer (some ⟨gb,0,none⟩)),(S6,v6),(S8,.slice (some ⟨ob,0,some 1⟩) (2 * es.length) oc),(S9,.pointer (some ⟨tb,0,none⟩)),(iI,.int .i64 ((k:Nat):Int))])
  (fun k H' nx'=>k≤2 * es.length∧an H0 H' nb∧nx≤nx'∧∃av,mW H' lo nx' tb c0 (Bh++cP (oD (eu es r) m) k) jN av uW) (fun k=>2 * es.length - k)
  ?_ 0 aN ⟨Nat.zero_le _,bg,Nat.le_refl _,_,by rw [nq,List.append_nil];exact st⟩
 rintro k H1 aY ⟨hk,aS,b9,av,dd⟩
 have C5:=dd.le
 have fF:=dd.blk
 have nP:Rd H1 tb _:=.inl fF
 have MC:=aS.rd rQ hg
 have hoR:Rd H1 ob _:=aS.rd Ge (.inl ho)
 obtain ⟨ab,ac,rfl⟩:=cu dd.ga
 unfold Pm
 subst ee
 repeat' (first|((first|refine WO.n rfl ?_|refine WO.k rfl ?_);(first|refine cI ?_|refine cH ?_|refine aJ ?_|refine aZ ?_|(refine dt (fun h=>?_) (fun h=>?_)<;>(try simp only [Int.ofNat_eq_natCast] at h))))|with_reducible (first|refine WO.nil ?_|refine WC.aa ?_|refine WC.drawn ?_|refine WC.seq ?_|refine WC.skip ?_|refine WC.exit ?_|refine WC.block ?_)|refine WC.ax rfl ?_|refine WC.ay rfl ?_|with_reducible (first|refine aA ?_|refine ef ?_))
 ·have bF:k < 2 * es.length:=by omega
  have QU:=de bF
  obtain ⟨_,i,hi,CT,_⟩:=of_next h0 QU
  obtain ⟨_,j,hj,NT,_⟩:=of_next h0 bF
  have tX:=au.cell CT
  have Wr:=au.cell NT
  have C6:oD (eu es r) m k=(((m + j:Nat):Int),((m + i:Nat):Int),4096,1):=by
   unfold oD
   rw [getD_some CT,getD_some NT,Int.natCast_add,Int.natCast_add]
  repeat' (refine WO.n rfl ?_;(first|refine cI ?_|refine aJ ?_|refine bj ?_|refine ba ?_))
  refine WO.ca rfl ?_
  refine (E.bT (h:=k) (by omega)).of ?_
  rintro _ H2 nx2 ⟨rfl,rfl,rfl⟩
  refine ⟨bk.look rfl MC rfl rfl (by simp [km,fa]) (bk.look rfl hoR (jx Wr) rfl (by simp [km,fa]) (bk.look rfl MC rfl rfl (by simp [km,fa]) (bk.look rfl nP rfl rfl fx .nil))),?_⟩
  repeat' (refine WO.n rfl ?_;(first|refine FG ?_|refine bj ?_|refine aZ ?_|refine iu ?_|refine ba ?_))
  refine WO.n rfl ?_
  have pY:(Bh++cP (oD (eu es r) m) k).length=Bh.length + k:=by rw [List.length_append,cT]
  have Kp:=dd.ga.same (H':=aI H2 nx2 [.int .i64 ((m + j:Nat):Int),.int .i64 ((m + i:Nat):Int),.int .i64 4096,.int .i64 1]) (an.refl.set (Nat.le_refl _)) (Nat.le_succ _)
  refine aM.j1 (new:=[.int .i64 ((m + j:Nat):Int),.int .i64 ((m + i:Nat):Int),.int .i64 4096,.int .i64 1]) rfl rfl Kp (cN Rd.self rfl) (by omega) (by omega) rfl (by rw [pY];unfold small;omega) (by rw [pY];unfold small;omega) ?_
  intro H3 k1 k2
  have k3:∀b,b < nx2→cf (.slice ab (Bh++cP (oD (eu es r) m) k).length ac)≠some b→ao H3 (at_ b)=ao H2 (at_ b):=fun b hb cG=>by rw [k2 b (by omega) (eS Kp cG),ak,if_neg (by omega)]
  have sd:=dd.Eo (q:=nx2 + 1) (x:=(((m + j:Nat):Int),((m + i:Nat):Int),4096,1)) (H2:=H3) (by omega) k1 k3
  have Bb:ao H3 (at_ tb)=some (.cells [.int .i64 c0,.slice ab (Bh++cP (oD (eu es r) m) k).length ac,uW]):=(k3 tb (by omega) (fun e=>by have:=(cz dd.ga e).1;omega)).trans fF
  rw [← C6,List.append_assoc,← gy] at sd
  repeat' (first|((first|refine WO.n rfl ?_|refine WO.k rfl ?_);(first|refine aK ?_|refine cI ?_|refine ep ?_|refine ba ?_))|with_reducible (first|refine WO.nil ?_|refine WC.aa ?_|refine aA ?_|refine dY ?_|refine nD ?_))
  refine ⟨k + 1,by omega,.cons rfl aN,by omega,fun b hb=>?_,by omega,_,sd⟩
  rw [ak,if_neg (by omega),k3 b (by omega) (fun e=>by have:=(cz dd.ga e).1;omega)]
  exact aS b hb
 ·have:k=2 * es.length:=by omega
  subst this
  exact aC _ _ _ _ aN dd aS b9
theorem yG (E:E26 A) {n o:Int} {m:Nat} {ev rv:Value} {es:List Ed} {r:List (List Int)} (h0:bq n es r=0) (ee:n=(m:Int)) (he:bP H nx 2 bH ev es) (hr:dZ H nx 1 aW rv r) (cD:bX r) :
  WF A 15 [.agg #[.int .i64 n,ev],rv,.int .i64 o] H nx fun v H' nx'=>∃lo,nx≤lo∧Bd H' lo nx' v ((m + (aD es r).length:Nat):Int) (lL es (eu es r) m) (gQ es (aD es r) m o)∧an H H' nx∧lo≤nx':=by
 obtain ⟨base,ec,rfl⟩:=he.form
 obtain ⟨bu,rc,rfl⟩:=hr.form
 have g:=cd h0
 have C2:=g.may
 obtain ⟨m0,m1,m2,_⟩:=g.may
 have Qi:=g.len
 have ok:=ed h0
 have wO:=ok.Bz
 refine WF.enter (E.h rfl _ _ _) E.f15 ?_
 repeat' (first|((first|refine WO.n rfl ?_|refine WO.k rfl ?_);(first|refine jL ?_|refine uw ?_|refine aJ ?_))|with_reducible (first|refine WO.nil ?_|refine WC.aa ?_|refine WC.seq ?_|refine aA ?_))
 have bg:an H (aI (aI H nx [.int .i64 n,.slice base es.length ec]) (nx + 1) [.int .i64 0,.slice none 0 0,.slice none 0 0]) nx:=(an.refl.set (Nat.le_refl _)).set (by omega)
 refine WO.cn rfl ?_
 refine (E.CY g ((he.same bg).up (by omega)) ((hr.same bg).up (by omega)) cD (by omega)).of ?_
 rintro fv H1 aY ⟨nx0,r9,b9,hL,aS⟩
 obtain ⟨fb,fc,rfl⟩:=hL.form
 have bn:an H H1 nx:=bg.trans aS (by omega)
 have pM:Rd H1 nx [.int .i64 n,.slice base es.length ec]:=aS.rd (by omega) (Rd.skip (by omega) Rd.self)
 have iU:ao H1 (at_ (nx + 1))=some (.cells [.int .i64 0,.slice none 0 0,.slice none 0 0]):=(aS _ (by omega)).trans aw
 clear bg aS
 repeat' (first|((first|refine WO.n rfl ?_|refine WO.k rfl ?_);(first|refine aK ?_|refine aJ ?_))|with_reducible (first|refine WO.nil ?_|refine WC.aa ?_|refine WC.seq ?_|refine aA ?_))
 refine WO.cn rfl ?_
 refine (E.rof h0 ((he.same bn).up (by omega)) ((hr.same bn).up (by omega)) cD).of ?_
 rintro _ H2 nx2 ⟨ob,oc,rfl,O0,QA,A1,Ox,bI,fq⟩
 have bt:an H H2 nx:=bn.trans bI (by omega)
 have sU:Rd H2 nx [.int .i64 n,.slice base es.length ec]:=bI.rd (by omega) pM
 have qi:ao H2 (at_ (nx + 1))=some (.cells [.int .i64 0,.slice none 0 0,.slice none 0 0]):=(bI _ (by omega)).trans iU
 have w3:LL H2 nx0 aY (.slice fb (aD es r).length fc) (aD es r):=hL.JN (fun b h1 h2=>bI b h2) (Nat.le_refl _)
 subst ee
 repeat' (first|((first|refine WO.n rfl ?_|refine WO.k rfl ?_);(first|refine aK ?_|refine cI ?_|refine cH ?_|refine uw ?_|refine FG ?_|refine aJ ?_|refine iQ ?_|refine ba ?_))|with_reducible (first|refine WO.nil ?_|refine WC.aa ?_|refine WC.seq ?_|refine aA ?_))
 have Vo:an H2 (aI (aI H2 nx2 [.int .i64 0,.slice none 0 0,.slice none 0 0]) nx2 [.int .i64 ((m + (aD es r).length:Nat):Int),.slice none 0 0,.slice none 0 0]) nx2:=(an.refl.set (Nat.le_refl _)).set (Nat.le_refl _)
 refine WO.cn rfl ?_
 refine (E.aah C2 rfl ((he.same (bt.trans Vo (by omega))).up (by omega))).of ?_
 rintro _ H3 iY ⟨db,dc,rfl,hdc,aae,aaf,Wt,eL,se⟩
 have Mw:an H2 H3 nx2:=Vo.trans eL (by omega)
 have Vp:ao H3 (at_ nx2)=some (.cells [.int .i64 ((m + (aD es r).length:Nat):Int),.slice none 0 0,.slice none 0 0]):=(eL _ (by omega)).trans aw
 have Kz:r.length=m:=by omega
 generalize yR:aD es r=fs at w3 hL wO ok Vp ⊢
 have Ef:(aD es r).length≤20000:=by rw [yR];exact wO
 repeat' (first|(refine WO.k rfl ?_;refine aK ?_)|with_reducible (first|refine WO.nil ?_|refine WC.aa ?_|refine WC.seq ?_|refine WC.block ?_|refine aA ?_))
 refine WC.sub aN (rkR (H0:=H2) (nb:=nx2) (tb:=nx2) (lo:=iY) (gb:=nx) (db:=db) (m:=m) (c0:=((m + fs.length:Nat):Int)) rfl (by omega) (by omega) Mw (Nat.le_refl _) (by omega) sU (by omega) (by omega) Wt ⟨Vp,.nil,.nil,(fun b hb=>by cases hb),by omega,by omega⟩ (fun σ H4 J6 nv1 hσ dd rL G1=>?_))
 refine ew (aA (WC.sub hσ ?_))
 clear hσ
 repeat' (first|(refine WO.k rfl ?_;refine aK ?_)|with_reducible (first|refine WO.nil ?_|refine WC.aa ?_|refine WC.seq ?_|refine WC.block ?_|refine aA ?_))
 refine WC.sub aN (rkF (H0:=H2) (nb:=nx2) (tb:=nx2) ok (by rw [cT];omega) (w3.UI.up fq) rL (Nat.le_refl _) dd (fun σ H5 A6 nv2 hσ iE yT Vj=>?_))
 refine ew (aA (WC.sub hσ ?_))
 clear hσ
 repeat' (first|(refine WO.k rfl ?_;refine aK ?_)|with_reducible (first|refine WO.nil ?_|refine WC.aa ?_|refine WC.seq ?_|refine WC.block ?_|refine aA ?_))
 refine WC.sub aN (rkA E (H0:=H2) (nb:=nx2) (tb:=nx2) (gb:=nx) (ob:=ob) (m:=m) h0 rfl Ef ((he.same bt).up (by omega)) (by omega) sU A1 Ox yT (Nat.le_refl _) iE (fun σ H6 Gm av1 hσ sd KK VZ=>?_))
 refine ew (aA (WC.sub hσ ?_))
 clear hσ
 repeat' (first|(refine WO.k rfl ?_;refine aK ?_)|with_reducible (first|refine WO.nil ?_|refine WC.aa ?_|refine WC.seq ?_|refine WC.block ?_|refine aA ?_))
 refine WC.sub aN (rkB E (H0:=H2) (nb:=nx2) (tb:=nx2) (gb:=nx) (ob:=ob) (m:=m) h0 rfl Ef (by rw [cT];omega) (by omega) sU A1 Ox KK (Nat.le_refl _) sd (fun σ H7 nx7 av2 hσ yC RV hn7=>?_))
 refine ew (aA (WC.sub hσ ?_))
 clear hσ
 have fF:=yC.blk
 have nP:Rd H7 nx2 _:=.inl fF
 have hc7:ao H7 (at_ (nx + 1))=some (.cells [.int .i64 0,.slice none 0 0,.slice none 0 0]):=(RV _ (by omega)).trans qi
 obtain ⟨ab,ac,rfl⟩:=cu yC.ga
 obtain ⟨nb,nc,rfl⟩:=cu yC.gn
 repeat' (first|(refine WO.n rfl ?_;(first|refine aJ ?_|refine iQ ?_))|with_reducible (first|refine WO.nil ?_|refine WC.aa ?_|refine WC.seq ?_|refine WC.ret ?_|refine aA ?_))
 refine kP rfl aw rfl ⟨iY,by omega,⟨_,_,rfl,?_,?_,yC.Kk⟩,(bt.trans RV (by omega)).set (by omega),yC.le⟩
 ·exact yC.ga.qL (fun b hb hl=>by rw [ak,if_neg (by omega)]) (Nat.le_refl _)
 ·exact yC.gn.qL (fun b hb hl=>by rw [ak,if_neg (by omega)]) (Nat.le_refl _)
end Go.Eng
