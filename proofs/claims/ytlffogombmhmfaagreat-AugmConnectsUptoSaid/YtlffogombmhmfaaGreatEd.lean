import Derived.Test.YtlffogombmhmfaaGreatEc
/- An interpreter of the model's code that follows one order and is proved right for all: part 4. -/

namespace Go.Eng
section
variable {A:aG} {H H':Heap} {nx nx':Nat} {σ:aP} {L:List Value} {Q:ct}
theorem Act.min2 {x y:Od} {a b:Int} (hx:ev σ L x=some (.int .i64 a)) (hy:ev σ L y=some (.int .i64 b)):Act A (.lM true [x,y]) σ L H nx (.int .i64 (min a b)) H nx:=by
 refine ⟨fun T hT k=>?_⟩
 have he:tG σ L [x,y]=some [.int .i64 a,.int .i64 b]:=by simp [tG,hx,hy]
 show cH T L [x,y] (fun vs=>bd (vp A.P true vs) fun v=>k v H nx)=_
 rw [hT.cH he]
 have:(if b < a then b else a)=min a b:=by split<;>omega
 rw [← this]
 rfl
theorem Act.max2 {x y:Od} {a b:Int} (hx:ev σ L x=some (.int .i64 a)) (hy:ev σ L y=some (.int .i64 b)):Act A (.lM false [x,y]) σ L H nx (.int .i64 (max a b)) H nx:=by
 refine ⟨fun T hT k=>?_⟩
 have he:tG σ L [x,y]=some [.int .i64 a,.int .i64 b]:=by simp [tG,hx,hy]
 show cH T L [x,y] (fun vs=>bd (vp A.P false vs) fun v=>k v H nx)=_
 rw [hT.cH he]
 have:(if a < b then b else a)=max a b:=by split<;>omega
 rw [← this]
 rfl
end
section
variable {P:Program}
theorem jd {t:TypeId} {k:IntKind} {a b:Int} (h:P.underlying t=some (.int k)) (d:Nat):quiet P (Op.equalIn (d + 1) t (.int .i64 a) (.int .i64 b))=some (a == b):=by
 unfold Op.equalIn
 rw [cu h]
 rfl
theorem eH {t:TypeId} {cs:Array Value} {off:Nat} {v:Value} (h1:quiet P (isAgg t)=some false) (h2:cs[off]?=some v):quiet P (part t cs off)=some v:=by
 unfold part
 rw [cN,h1]
 show quiet P (if false=true then _ else match cs[off]? with|some v=>pure v|none=>stuck "part: no such cell")=_
 rw [h2]
 rfl
theorem Om {t:TypeId} {f0 f1 f2:Field} {a0 a1 a2 b0 b1 b2:Int} {k:IntKind} (h:P.underlying t=some (.struct #[f0,f1,f2])) (hs:P.stoodInHeld t=false) (n0:f0.name≠ "_") (n1:f1.name≠ "_") (n2:f2.name≠ "_")
  (o0:f0.offset=0) (o1:f1.offset=1) (o2:f2.offset=2) (t0:P.underlying f0.type=some (.int k)) (t1:P.underlying f1.type=some (.int k)) (t2:P.underlying f2.type=some (.int k))
  (g0:quiet P (isAgg f0.type)=some false) (g1:quiet P (isAgg f1.type)=some false) (g2:quiet P (isAgg f2.type)=some false) (d:Nat) :
  quiet P (Op.equalIn (d + 1 + 1) t (.agg #[.int .i64 a0,.int .i64 a1,.int .i64 a2]) (.agg #[.int .i64 b0,.int .i64 b1,.int .i64 b2]))=some (a0 == b0&&(a1 == b1&&a2 == b2)):=by
 unfold Op.equalIn
 rw [cu h]
 have hp:quiet P program=some P:=rfl
 have e0:=fun a b:Int=>jd (P:=P) (a:=a) (b:=b) t0 d
 have e1:=fun a b:Int=>jd (P:=P) (a:=a) (b:=b) t1 d
 have e2:=fun a b:Int=>jd (P:=P) (a:=a) (b:=b) t2 d
 have p0:∀x y z:Int,quiet P (part f0.type #[.int .i64 x,.int .i64 y,.int .i64 z] f0.offset)=some (.int .i64 x):=fun x y z=>eH g0 (by rw [o0];rfl)
 have p1:∀x y z:Int,quiet P (part f1.type #[.int .i64 x,.int .i64 y,.int .i64 z] f1.offset)=some (.int .i64 y):=fun x y z=>eH g1 (by rw [o1];rfl)
 have p2:∀x y z:Int,quiet P (part f2.type #[.int .i64 x,.int .i64 y,.int .i64 z] f2.offset)=some (.int .i64 z):=fun x y z=>eH g2 (by rw [o2];rfl)
 by_cases h0:a0=b0<;>by_cases h1:a1=b1<;>by_cases h2:a2=b2<;>
  simp [cN,hp,hs,n0,n1,n2,e0,e1,e2,p0,p1,p2,fV,h0,h1,h2]
theorem Gq {t:TypeId} {a0 a1 a2 b0 b1 b2:Int} (hq:P.eqGuardType P.depth t=false) (h:∀d,quiet P (Op.equalIn (d + 1 + 1) t (.agg #[.int .i64 a0,.int .i64 a1,.int .i64 a2]) (.agg #[.int .i64 b0,.int .i64 b1,.int .i64 b2]))=some (a0 == b0&&(a1 == b1&&a2 == b2))) :
  ko P .neq t (.agg #[.int .i64 a0,.int .i64 a1,.int .i64 a2]) (.agg #[.int .i64 b0,.int .i64 b1,.int .i64 b2])=some (.bool (!(a0 == b0&&(a1 == b1&&a2 == b2)))):=by
 have h1:quiet P (Op.equal t (.agg #[.int .i64 a0,.int .i64 a1,.int .i64 a2]) (.agg #[.int .i64 b0,.int .i64 b1,.int .i64 b2]))=some (a0 == b0&&(a1 == b1&&a2 == b2)):=h 9998
 have h2:∀s:Sem Bool,∀r,quiet P s=some r→quiet P (do pure (Value.bool (!(← s))):Sem Value)=some (.bool (!r)):=by
  intro s r
  induction s with
  | pure x=>intro h;cases h;rfl
  | program k ih=>intro h;exact ih P h
  | _=>intro h;cases h
 unfold ko
 have h3:quiet P (do eqGuard .neq t (.const (.agg #[.int .i64 a0,.int .i64 a1,.int .i64 a2])) (.const (.agg #[.int .i64 b0,.int .i64 b1,.int .i64 b2])) (.agg #[.int .i64 a0,.int .i64 a1,.int .i64 a2]) (.agg #[.int .i64 b0,.int .i64 b1,.int .i64 b2]);binOp .neq t (.agg #[.int .i64 a0,.int .i64 a1,.int .i64 a2]) (.agg #[.int .i64 b0,.int .i64 b1,.int .i64 b2]):Sem Value)=some (.bool (!(a0 == b0&&(a1 == b1&&a2 == b2)))):=by
  rw [cN]
  have hg:quiet P (eqGuard .neq t (.const (.agg #[.int .i64 a0,.int .i64 a1,.int .i64 a2])) (.const (.agg #[.int .i64 b0,.int .i64 b1,.int .i64 b2])) (.agg #[.int .i64 a0,.int .i64 a1,.int .i64 a2]) (.agg #[.int .i64 b0,.int .i64 b1,.int .i64 b2]))=some ():=by
   show quiet P (if (!(P.eqGuardType P.depth t))=true then _ else _)=_
   rw [hq]
   rfl
  rw [hg]
  exact h2 _ _ h1
 rw [h3]
 rfl
end
section
variable {A:aG} {H H':Heap} {nx nx':Nat} {σ:aP} {L:List Value} {Q:ct}
theorem Act.abz {t:TypeId} {x y:Od} {a0 a1 a2 b0 b1 b2:Int} (hq:A.P.eqGuardType A.P.depth t=false) (h:∀a0 a1 a2 b0 b1 b2:Int,∀d,quiet A.P (Op.equalIn (d + 1 + 1) t (.agg #[.int .i64 a0,.int .i64 a1,.int .i64 a2]) (.agg #[.int .i64 b0,.int .i64 b1,.int .i64 b2]))=some (a0 == b0&&(a1 == b1&&a2 == b2)))
  (hx:ev σ L x=some (.agg ⟨[.int .i64 a0,.int .i64 a1,.int .i64 a2]⟩)) (hy:ev σ L y=some (.agg ⟨[.int .i64 b0,.int .i64 b1,.int .i64 b2]⟩)):Act A (.bin .neq t x y) σ L H nx (.bool (decide ((a0,a1,a2)≠(b0,b1,b2)))) H nx:=by
 refine .eA hx hy fun k=>?_
 unfold Eng.eA
 show bd (ko A.P .neq t (.agg #[.int .i64 a0,.int .i64 a1,.int .i64 a2]) (.agg #[.int .i64 b0,.int .i64 b1,.int .i64 b2])) k=_
 rw [Gq hq (h a0 a1 a2 b0 b1 b2)]
 have:(!(a0 == b0&&(a1 == b1&&a2 == b2)))=decide ((a0,a1,a2)≠(b0,b1,b2)):=by
  by_cases h0:a0=b0<;>by_cases h1:a1=b1<;>by_cases h2:a2=b2<;>simp [h0,h1,h2]
 rw [this]
 rfl
theorem tY {base:Option Addr} {n c:Nat}:ey (.slice base n c) (.slice base n c)=true:=by
 cases base<;>simp [ey]
theorem a6.look {L:List Value} {x:Od} {g:Option Nat} {d b o:Nat} {cs:List Value} {v:Value} {ag:List bx} (hx:ev σ L x=some (.pointer (some ⟨b,o,none⟩))) (hr:Rd H b cs) (hv:partOf cs o g=some v) (hd:L[d]?=some v) (hq:jK v v=true) (CE:a6 A σ L H ag):a6 A σ L H (⟨none,.ah x g,d⟩::ag):=by
 refine ⟨fun T hT X=>?_⟩
 have h2:∀k:KV,dp (.ah x g) A.P T L H k=k v:=fun k=>by
  show aS T L x (fun v=>dd v fun b o=>Eng.cr H b fun cs=>bd (partOf cs o g) k)=_
  rw [hT.aS hx]
  show Eng.cr H b _=_
  rw [hr.cr,hv];rfl
 show dp (.ah x g) A.P T L H (fun v=>vo L d fun u=>cond (jK u v) (fT A.P T L H ag X) none)=X
 rw [h2,jR,hd]
 show cond (jK v v) (fT A.P T L H ag X) none=X
 rw [hq]
 exact CE.reads T hT X
theorem WO.na {op:bE Od} {ag:List bx} {l:List (AO×List bx)} (hp:op.plain=true) (h:aH A op σ L H nx fun v H' nx'=>a6 A σ (v::L) H' ag∧WO A l σ (v::L) H' nx' Q):WO A ((⟨none,none,op⟩,ag)::l) σ L H nx Q:=
 let ⟨_,_,_,ha,h1,h2⟩:=h.Jx
 .act hp ha h1 h2
theorem aH.wZ {z by_ n m nx0:Nat} {zero:List Value} {s x:Od} {v xv:Value} {cs new:List Value} {K:Value→Heap→Nat→Prop} (hs:ev σ L s=some v) (hx:ev σ L x=some xv) (hg:bA H nx0 nx z v n cs) (eF:nt H z xv m new) (hm:m≠0) (hz:0 < z) (h1:br new=true)
  (h2:(n + m) * by_≤small) (h3:n + m≤small)
  (h:∀H',ak H' (at_ nx)=some (.cells (cs++new))→(∀b,b < nx→(∀c z' k,v≠.slice (some ⟨b,0,z'⟩) k c)→ak H' (at_ b)=ak H (at_ b))→K (.slice (some ⟨nx,0,some z⟩) (n + m) (2 * (n + m))) H' (nx + 1)):aH A (.app z by_ zero s x false) σ L H nx K:=by
 obtain ⟨hl,⟨rfl,rfl⟩|⟨b,rfl,yr,dB,hr⟩⟩:=hg
 ·have:cs=[]:=List.eq_nil_of_length_eq_zero (by rw [hl];simp)
  subst this
  have h':=h (aw H nx new) (by rw [ai];simp) (fun b hb _=>by rw [ai,if_neg (by omega)])
  rw [Nat.zero_add] at h'
  exact .of (.Jw hs hx eF hm hz (by simpa using h2) (by simpa using h3)) h'
 ·refine .of (.kO hs hx eF hm hz h1 hr (by rw [← hl];exact take?_all cs) (by rw [bK];omega) (kH n) h2 h3) (h _ (by rw [ai];simp) fun b' fp cy=>?_)
  have:b'≠b:=fun e=>cy _ _ _ (by rw [e])
  rw [ai,if_neg (by omega),dX,if_neg this]
end
end Go.Eng

namespace Go.Lit
open Go.Eng
abbrev t:Bool:=true
abbrev f:Bool:=false
abbrev n0 (o:bE Od):AO×List bx:=(⟨none,none,o⟩,[])
abbrev k0 (p:List Bool) (o:bE Od):AO×List bx:=(⟨some p,none,o⟩,[])
abbrev g0 (i:Nat) (b:Bool) (o:bE Od):AO×List bx:=(⟨none,some (i,b),o⟩,[])
end Go.Lit
