import Derived.Test.YthbaplapbfbnoaaGreatEc
/- An interpreter of the model's code that follows one order and is proved right for all: part 4. -/

set_option maxRecDepth 100000
namespace Go.Eng
section
section
variable {A:aN}{H H':Heap}{nx nx':Nat}{σ:aR}{L:List Value}{Q:cw}
theorem Act.min2{x y:Od}{a b:Int}(hx:ev σ L x=some (.int .i64 a))(hy:ev σ L y=some (.int .i64 b)):Act A (.ur true [x,y]) σ L H nx (.int .i64 (min a b)) H nx:=by
 refine⟨λT hT k=>?_⟩;have he:Az σ L [x,y]=some [.int .i64 a,.int .i64 b]:=by simp[Az,hx,hy]
 show dN T L [x,y] (λvs=>bd (Cc A.P true vs) λv=>k v H nx)=_;rw[hT.dN he];have:(if b<a then b else a)=min a b:=by split<;>omega
 rw[<-this];rfl
theorem Act.max2{x y:Od}{a b:Int}(hx:ev σ L x=some (.int .i64 a))(hy:ev σ L y=some (.int .i64 b)):Act A (.ur false [x,y]) σ L H nx (.int .i64 (max a b)) H nx:=by
 refine⟨λT hT k=>?_⟩;have he:Az σ L [x,y]=some [.int .i64 a,.int .i64 b]:=by simp[Az,hx,hy]
 show dN T L [x,y] (λvs=>bd (Cc A.P false vs) λv=>k v H nx)=_;rw[hT.dN he];have:(if a<b then b else a)=max a b:=by split<;>omega
 rw[<-this];rfl
end
section
variable {P:Program}
theorem uZ{t:TypeId}{k:IntKind}{a b:Int}(h:P.underlying t=some (.int k))(d:Nat):quiet P (Op.equalIn (d+1) t (.int .i64 a) (.int .i64 b))=some (a == b):=by
 unfold Op.equalIn;rw[jW h];rfl
theorem om{t:TypeId}{cs:Array Value}{off:Nat}{v:Value}(h1:quiet P (isAgg t)=some false)(h2:cs[off]?=some v):quiet P (part t cs off)=some v:=by
 unfold part;rw[fO,h1];show quiet P (if false=true then _ else match cs[off]? with|some v=>pure v|none=>stuck "part: no such cell")=_;rw[h2];rfl
end
section
variable {A:aN}{H H':Heap}{nx nx':Nat}{σ:aR}{L:List Value}{Q:cw}
theorem yA{base:Option Addr}{n c:Nat}:ff (.slice base n c) (.slice base n c)=true:=by
 cases base<;>simp[ff]
theorem bB.look{L:List Value}{x:Od}{g:Option Nat}{d b o:Nat}{cs:List Value}{v:Value}{ag:List cz}(hx:ev σ L x=some (.pointer (some ⟨b,o,none⟩)))(hr:Rd H b cs)(hv:partOf cs o g=some v)(hd:L[d]?=some v)(hq:mc v v=true)(OZ:bB A σ L H ag):bB A σ L H (⟨none,.an x g,d⟩::ag):=by
 refine⟨λT hT X=>?_⟩;have h2:∀k:KV,e7 (.an x g) A.P T L H k=k v:=λk=>by
  show bI T L x (λv=>dU v λb o=>Eng.db H b λcs=>bd (partOf cs o g) k)=_;rw[hT.bI hx];show Eng.db H b _=_;rw[hr.db,hv];rfl
 show e7 (.an x g) A.P T L H (λv=>Af L d λu=>cond (mc u v) (jJ A.P T L H ag X) none)=X;rw[h2,nU,hd];show cond (mc v v) (jJ A.P T L H ag X) none=X;rw[hq];exact OZ.reads T hT X
theorem WO.na{op:cr Od}{ag:List cz}{l:List (AO×List cz)}(hp:op.plain=true)(h:bG A op σ L H nx λv H' nx'=>bB A σ (v::L) H' ag/\WO A l σ (v::L) H' nx' Q):WO A ((⟨none,none,op⟩,ag)::l) σ L H nx Q:=
 let ⟨_,_,_,ha,h1,h2⟩:=h.Py
 .act hp ha h1 h2
theorem bG.tz{z by_ n m nx0:Nat}{zero:List Value}{s x:Od}{v xv:Value}{cs new:List Value}{K:Value->Heap->Nat->Prop}(hs:ev σ L s=some v)(hx:ev σ L x=some xv)(hg:bP H nx0 nx z v n cs)(eJ:pN H z xv m new)(hm:m≠0)(hz:0<z)(h1:cq new=true)(h2:(n+m)*by_<=small)(h3:n+m<=small)(h:∀H',ah H' (at_ nx)=some (.cells (cs++new))->(∀b,b<nx->(∀c z' k,v≠.slice (some ⟨b,0,z'⟩) k c)->ah H' (at_ b)=ah H (at_ b))->K (.slice (some ⟨nx,0,some z⟩) (n+m) (2*(n+m))) H' (nx+1)):bG A (.app z by_ zero s x false) σ L H nx K:=by
 obtain⟨hl,⟨rfl,rfl⟩|⟨b,rfl,CR,dS,hr⟩⟩:=hg
 ·have:cs=[]:=mM (by rw[hl];simp);subst this;have h':=h (aC H nx new) (by rw[ak];simp) (λb hb _=>by rw[ak,aw V]);rw[Nat.zero_add]at h';exact .of (.Px hs hx eJ hm hz (by simpa using h2) (by simpa using h3)) h'
 ·refine .of (.nQ hs hx eJ hm hz h1 hr (by rw[<-hl];exact take?_all cs) (by rw[bT];omega) (qz n) h2 h3) (h _ (by rw[ak];simp) λb' ia cG=>?_);have:b'≠b:=λe=>cG _ _ _ (by rw[e])
  rw[ak,aw V,gC,aw this]
end
end
end Go.Eng
namespace Go.Lit
open Go.Eng
abbrev t:Bool:=true
abbrev f:Bool:=false
abbrev n0(o:cr Od):AO×List cz:=(⟨none,none,o⟩,[])
abbrev k0(p:List Bool)(o:cr Od):AO×List cz:=(⟨some p,none,o⟩,[])
abbrev g0(i:Nat)(b:Bool)(o:cr Od):AO×List cz:=(⟨none,some (i,b),o⟩,[])
end Go.Lit
namespace Go.Eng
end Go.Eng
