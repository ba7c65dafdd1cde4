import Derived.Test.YtfejkbfafacdcaaGreatEd
import Derived.Deep.Slices
/- An interpreter of the model's code that follows one order and is proved right for all: part 5. -/

namespace Go.Eng
variable {ρ:bA} {H:Heap} {nx:Nat} {hp:Array Obj}
structure Ro (ρ:bA) (H:Heap) (nx:Nat) (hp:Array Obj):Prop where
 hr:HR ρ H nx hp
 ro:∀b k,ao H (at_ b)=some k→k.ij=false
theorem Ro.empty (hp:Array Obj):Ro (fun _=>none) .e 0 hp:=⟨⟨(fun b k hb=>by cases hb),(fun b b' k k' s s' hb=>by cases hb),fun _ _=>rfl⟩,fun b k hb=>by cases hb⟩
theorem Ro.up (h:Ro ρ H nx hp):Ro ρ H (nx + 1) hp:=⟨⟨h.hr.blk,h.hr.inj,fun b hb=>h.hr.new b (by omega)⟩,h.ro⟩
theorem Kv.mono {ρ ρ':bA} {r:Ref} {cs:List Value} (e:Ext ρ ρ') (h:Kv ρ hp r cs):Kv ρ' hp r cs:=
 let ⟨a,t,f,h1,h2,h3⟩:=h
 ⟨a,t,f,h1,h2,fun i v hv=>let ⟨v',g,hr⟩:=h3 i v hv;⟨v',g,hr.mono e⟩⟩
theorem Ro.add (h:Ro ρ H nx hp) {r:Ref} {cs:List Value} (hr:Kv ρ hp r cs):Ro (ρ.with nx r) (bB (at_ nx) H (some (.ro cs))) (nx + 1) hp:=by
 have ext:=h.hr.eO r
 have j7:∀b x,ao (bB (at_ nx) H (some (.ro cs))) (at_ b)=some x→(b=nx∧x=.ro cs)∨(b≠nx∧ao H (at_ b)=some x):=by
  intro b x hb
  by_cases e:at_ b=at_ nx
  ·rw [e,bp] at hb
   exact .inl ⟨ea e,by simpa using hb.symm⟩
  ·rw [aR _ _ _ _ e] at hb
   exact .inr ⟨fun e'=>e (by rw [e']),hb⟩
 have j9:∀b k,ao (bB (at_ nx) H (some (.ro cs))) (at_ b)=some k→k.ij=false:=by
  intro b k hb
  rcases j7 b k hb with ⟨_,rfl⟩|⟨_,hb⟩
  ·rfl
  ·exact h.ro b k hb
 refine ⟨⟨fun b x hb=>?_,fun b c x y s t hb hc hm=>?_,fun b hb=>?_⟩,j9⟩
 ·rcases j7 b x hb with ⟨rfl,rfl⟩|⟨cG,hb⟩
  ·exact ⟨r,bA.dN _ _ _,hr.mono ext⟩
  ·obtain ⟨s,hs,xm⟩:=h.hr.blk b x hb
   exact ⟨s,ext b s hs,xm.mono ext⟩
 ·rw [j9 b x hb] at hm;cases hm
 ·rw [bA.fO _ _ (by omega)]
  exact h.hr.new b (by omega)
section
variable {X:Type} {enc:TypeId×Value→X} {P:Program} {w:World} {base:Nat}
theorem mapM_cells {w:World} {a:Addr} {n:Nat} {cs:List Value} (h:w.cells? base a n=some cs):cs.length=n∧∀i,i < n→w.cell? (a.add i)=cs[i]?:=by
 unfold World.cells? at h
 split at h
 ·exact ⟨by simpa using mapM_some_length h,fun i hi=>mapM_some_get h i i (by simp [hi])⟩
 ·cases h
theorem oq {α:Type} {encα:α→List Value} {z fuel:Nat} {t e:TypeId} {v:Value} {x:DataW X×List MemPlace} (ht:P.underlying t=some (.slice e)) (hz:P.cellsOf e=z) (sx:0 < z) (hlen:∀a,(encα a).length=z) (lO:∀a,(encα a).all scalar=true)
  (hE:∀fuel c y,DataW.trod enc P w base (fun _=>true) true fuel e c=some y→∃a,c=encα a) (GN:∀a len cap,v=.slice (some a) len cap→a.spot=none∧∃row cells,w.shape? a.block=some (row,cells))
  (hd:DataW.trod enc P w base (fun _=>true) true fuel t [v]=some x) (j9:Ro ρ H nx w.heap) :
  ∃ρ' H' av,∃xs:List α,Ext ρ ρ'∧Ro ρ' H' (nx + 1) w.heap∧an H H' nx∧VR ρ' av v∧bP H' (nx + 1) z encα av xs:=by
 rcases Deep.open_slice ht hd with ⟨h,_⟩|⟨a,len,cap,m,n,D,Pl,h,_,hl,hm,Nn,_,yN⟩
 ·obtain rfl:v=.slice none 0 0:=by simpa using h
  exact ⟨ρ,H,.slice none 0 0,[],.refl ρ,j9.up,.refl,.j5,.nil⟩
 ·obtain rfl:v=.slice (some a) len cap:=by simpa using h
  obtain ⟨xQ,row,cells,jy⟩:=GN a len cap rfl
  obtain ⟨blk,off,spot⟩:=a
  obtain rfl:spot=none:=xQ
  obtain rfl:m=cap:=by simpa using Nn
  rw [hz] at yN
  have oH:∀i,i < m→∃a,w.cells? base ((⟨blk,off,none⟩:Addr).add (i * z)) z=some (encα a):=fun i hi=>by
   obtain ⟨cs,h1,h2⟩:=yN i hi
   obtain ⟨a,rfl⟩:=hE _ _ _ h2
   exact ⟨a,h1⟩
  have X3:∃arr te fz,w.heap[blk]?=some (.cells arr te fz):=by
   unfold World.shape? at jy
   split at jy
   ·rename_i c el fz hh;exact ⟨c,el,fz,hh⟩
   ·cases jy
  obtain ⟨arr,te,fz,Aw⟩:=X3
  have dT:∀o v,w.cell? ⟨blk,o,none⟩=some v→arr[o]?=some v:=fun o v hv=>by
   unfold World.cell? at hv
   rw [Aw] at hv
   simpa using hv
  have ik:∀i,i < m→∃a,∀j,j < z→arr[off + i * z + j]?=(encα a)[j]?:=fun i hi=>by
   obtain ⟨a,ha⟩:=oH i hi
   refine ⟨a,fun j hj=>?_⟩
   have h1:=(mapM_cells ha).2 j hj
   obtain ⟨u,h2⟩:∃u,(encα a)[j]?=some u:=⟨_,List.getElem?_eq_getElem (by rw [hlen];exact hj)⟩
   rw [h2,Go.WideShapes.add_plain,Go.WideShapes.add_plain] at h1
   rw [h2]
   exact dT _ _ h1
  have Tc:∀k,k≤len→∃xs:List α,xs.length=k∧∀i a,xs[i]?=some a→∀j,j < z→arr[off + i * z + j]?=(encα a)[j]?:=by
   intro k
   induction k with
   | zero=>intro _;exact ⟨[],rfl,fun i a h=>by simp at h⟩
   | succ k ih=>
    intro hk
    obtain ⟨xs,h1,h2⟩:=ih (by omega)
    obtain ⟨a,ha⟩:=ik k (by omega)
    refine ⟨xs++[a],by simp [h1],fun i b hb=>?_⟩
    by_cases hi:i < k
    ·rw [List.getElem?_append_left (by omega)] at hb
     exact h2 i b hb
    ·have bR:=(List.getElem?_eq_some_iff.1 hb).1
     simp at bR
     obtain rfl:i=k:=by omega
     rw [List.getElem?_append_right (by omega),h1] at hb
     simp at hb
     subst hb
     exact ha
  obtain ⟨xs,hx1,hx2⟩:=Tc len (Nat.le_refl _)
  have No:∀i v,(xs.flatMap encα)[i]?=some v→arr[off + i]?=some v∧scalar v=true:=by
   intro i v hv
   have hi:=(List.getElem?_eq_some_iff.1 hv).1
   have zD:(xs.flatMap encα).length=xs.length * z:=by
    clear hv hi hx2 hx1
    induction xs with
    | nil=>simp
    | cons y ys ih=>rw [List.flatMap_cons,List.length_append,hlen,ih,List.length_cons,Nat.succ_mul];omega
   have hq:i / z < xs.length:=by
    rw [Nat.div_lt_iff_lt_mul sx];omega
   obtain ⟨l,r,p1,p2⟩:=DR hlen xs (i / z) _ (List.getElem?_eq_getElem hq)
   have Ax:=Nat.mod_lt i sx
   have hdm:=Nat.div_add_mod i z
   rw [Nat.mul_comm] at hdm
   have h3:(xs.flatMap encα)[i]?=(encα xs[i / z])[i % z]?:=by
    rw [p1,List.append_assoc,List.getElem?_append_right (by omega),p2,List.getElem?_append_left (by rw [hlen];omega)]
    congr 1;omega
   have h4:=hx2 (i / z) _ (List.getElem?_eq_getElem hq) (i % z) Ax
   rw [← h3,hv] at h4
   refine ⟨by rw [← h4];congr 1;omega,?_⟩
   rw [hv] at h3
   exact List.all_eq_true.1 (lO _) v (List.mem_of_getElem? h3.symm)
  have po:Kv ρ w.heap ⟨blk,off,arr.size⟩ (xs.flatMap encα):=⟨arr,te,fz,Aw,rfl,fun i v hv=>⟨v,(No i v hv).1,.sc (No i v hv).2⟩⟩
  have Fu:m=0∨off + m * z≤arr.size:=by
   by_cases h0:m=0
   ·exact .inl h0
   ·right
    obtain ⟨a,ha⟩:=ik (m - 1) (by omega)
    have:=ha (z - 1) (by omega)
    rw [List.getElem?_eq_getElem (by rw [hlen];omega)] at this
    have bR:=(Array.getElem?_eq_some_iff.1 this).1
    have:(m - 1) * z + z=m * z:=by rw [← Nat.succ_mul];congr 1;omega
    omega
  have Dt:m≤ei:=by unfold maxLen at hm;unfold ei;omega
  have lq:ao (bB (at_ nx) H (some (.ro (xs.flatMap encα)))) (at_ nx)=some (.ro (xs.flatMap encα)):=bp _ _ _
  refine ⟨ρ.with nx ⟨blk,off,arr.size⟩,_,.slice (some ⟨nx,0,some z⟩) xs.length (2 * len),xs,j9.hr.eO _,j9.add po,fun b hb=>aR _ _ _ _ (fun e=>by have:=ea e;omega),?_,.pre (rest:=[]) (.inr (by rw [List.append_nil];exact lq)) (by omega) (by rw [dD];omega) hlen⟩
  rw [hx1]
  exact .sl (bA.dN _ _ _) ⟨hl,Dt⟩ (by rw [dD];exact hl) (fun e=>by rw [kI] at e;cases e) (Fu.imp id fun h=>⟨rfl,h⟩)
end
end Go.Eng

namespace Go.Eng
variable {ρ:bA} {H H':Heap} {nx nx':Nat} {hp:Array Obj}
def Ay (u:Value):List Value:=[u]
theorem Np (us:List Value):us.flatMap Ay=us:=by
 induction us with
 | nil=>rfl
 | cons u us ih=>rw [List.flatMap_cons,ih];rfl
def dZ {α:Type} (H:Heap) (nx z:Nat) (enc:α→List Value) (v:Value) (ls:List (List α)):Prop:=
 ∃us:List Value,us.length=ls.length∧bP H nx 1 Ay v us∧∀(i:Nat) (u:Value) (l:List α),us[i]?=some u→ls[i]?=some l→bP H nx z enc u l
theorem dZ.same {α:Type} {z:Nat} {enc:α→List Value} {v:Value} {ls:List (List α)} (h:dZ H nx z enc v ls) (hs:an H H' nx):dZ H' nx z enc v ls:=
 let ⟨us,h1,h2,h3⟩:=h
 ⟨us,h1,h2.same hs,fun i u l hu hl=>(h3 i u l hu hl).same hs⟩
theorem dZ.up {α:Type} {z:Nat} {enc:α→List Value} {v:Value} {ls:List (List α)} (h:dZ H nx z enc v ls) (hn:nx≤nx'):dZ H nx' z enc v ls:=
 let ⟨us,h1,h2,h3⟩:=h
 ⟨us,h1,h2.up hn,fun i u l hu hl=>(h3 i u l hu hl).up hn⟩
theorem dZ.form {α:Type} {z:Nat} {enc:α→List Value} {v:Value} {ls:List (List α)} (h:dZ H nx z enc v ls):∃base c,v=.slice base ls.length c:=by
 obtain ⟨us,h1,h2,_⟩:=h
 obtain ⟨b,c,h4⟩:=h2.form
 exact ⟨b,c,by rw [← h1];exact h4⟩
theorem dZ.at {α:Type} {z:Nat} {enc:α→List Value} {base:Option Addr} {n c:Nat} {ls:List (List α)} (h:dZ H nx z enc (.slice base n c) ls) {i:Nat} (hi:i < ls.length) :
  ∃b o cs ib ic,base=some ⟨b,o,some 1⟩∧b < nx∧Rd H b cs∧cs[o + i * 1]?=some (.slice ib (ls[i]).length ic)∧bP H nx z enc (.slice ib (ls[i]).length ic) ls[i]:=by
 obtain ⟨us,h1,h2,h3⟩:=h
 have cG:us≠[]:=by intro e;rw [e] at h1;simp at h1;omega
 obtain ⟨b,o,cs,rfl,g1,g2,g3,g4,g5⟩:=h2.at cG
 have hu:us[i]?=some us[i]:=List.getElem?_eq_getElem (by omega)
 have hs:=h3 i _ _ hu (List.getElem?_eq_getElem hi)
 obtain ⟨ib,ic,he⟩:=hs.form
 have hc:=en (v:=us[i]) (g5 i _ hu)
 rw [he] at hc hs
 exact ⟨b,o,cs,ib,ic,rfl,g1,g4,hc,hs⟩
section
variable {X:Type} {enc:TypeId×Value→X} {P:Program} {w:World} {base:Nat}
theorem um {α:Type} {encα:α→List Value} {z fuel:Nat} {t e:TypeId} {v:Value} {x:DataW X×List MemPlace} (ht:P.underlying t=some (.slice e)) (hz:P.cellsOf e=z) (sx:0 < z) (hlen:∀a,(encα a).length=z) (lO:∀a,(encα a).all scalar=true)
  (hE:∀fuel c y,DataW.trod enc P w base (fun _=>true) true fuel e c=some y→∃a,c=encα a)
  (hd:DataW.trod enc P w base (fun _=>true) true fuel t [v]=some x) (j9:Ro ρ H nx w.heap) :
  ∃ρ' H' av,∃xs:List α,Ext ρ ρ'∧Ro ρ' H' (nx + 1) w.heap∧an H H' nx∧VR ρ' av v∧bP H' (nx + 1) z encα av xs:=by
 rcases Deep.open_slice ht hd with ⟨h,_⟩|⟨a,len,cap,m,n,D,Pl,h,_,hl,hm,Nn,_,yN⟩
 ·obtain rfl:v=.slice none 0 0:=by simpa using h
  exact ⟨ρ,H,.slice none 0 0,[],.refl ρ,j9.up,.refl,.j5,.nil⟩
 ·obtain rfl:v=.slice (some a) len cap:=by simpa using h
  by_cases h0:cap=0
  ·subst h0
   obtain rfl:len=0:=by omega
   exact ⟨ρ,H,_,[],.refl ρ,j9.up,.refl,.Dn,⟨_,_,rfl,fun e=>(by cases e),fun a ha=>(by cases ha;exact .inl ⟨rfl,rfl,rfl⟩)⟩⟩
  ·have GG:m=cap:=by simpa using Nn
   obtain ⟨cs,h1,h2⟩:=yN 0 (by omega)
   obtain ⟨a0,rfl⟩:=hE _ _ _ h2
   have hc:=(mapM_cells h1).2 0 (by rw [hz];exact sx)
   have hx0:∃u,(encα a0)[0]?=some u:=⟨_,List.getElem?_eq_getElem (by rw [hlen];exact sx)⟩
   obtain ⟨u,hu⟩:=hx0
   rw [hu] at hc
   have xQ:a.spot=none∧∃row cells,w.shape? a.block=some (row,cells):=by
    obtain ⟨blk,off,spot⟩:=a
    unfold World.cell? at hc
    split at hc
    ·rename_i c el fz hh
     cases spot with
     | some q=>simp [Addr.add] at hc
     | none=>
      have OA:w.heap[blk]?=some (.cells c el fz):=by simpa [Addr.add] using hh
      exact ⟨rfl,el,c.size,by unfold World.shape?;simp only [OA]⟩
    ·cases hc
   obtain ⟨ρ',H',av,xs,g1,g2,g3,g4,g5⟩:=oq ht hz sx hlen lO hE (fun a' aaQ aaR hv=>by cases hv;exact xQ) hd j9
   exact ⟨ρ',H',av,xs,g1,g2,g3,g4,g5⟩
theorem IM {α:Type} {encα:α→List Value} {z:Nat} {t e:TypeId} (ht:P.underlying t=some (.slice e)) (hz:P.cellsOf e=z) (sx:0 < z) (hlen:∀a,(encα a).length=z) (lO:∀a,(encα a).all scalar=true)
  (hE:∀fuel c y,DataW.trod enc P w base (fun _=>true) true fuel e c=some y→∃a,c=encα a):∀(vs:List Value),(∀v∈vs,∃fuel x,DataW.trod enc P w base (fun _=>true) true fuel t [v]=some x)→∀{ρ:bA} {H:Heap} {nx:Nat},Ro ρ H nx w.heap→
  ∃ρ' H' nx',∃us:List Value,∃ls:List (List α),Ext ρ ρ'∧Ro ρ' H' nx' w.heap∧nx≤nx'∧an H H' nx∧cU ρ' us vs∧us.length=ls.length∧∀(i:Nat) (u:Value) (l:List α),us[i]?=some u→ls[i]?=some l→bP H' nx' z encα u l:=by
 intro vs
 induction vs with
 | nil=>intro _ ρ H nx j9;exact ⟨ρ,H,nx,[],[],.refl ρ,j9,Nat.le_refl _,.refl,.nil,rfl,fun i u l hu=>by simp at hu⟩
 | cons v vs ih=>
  intro hv ρ H nx j9
  obtain ⟨fuel,x,hd⟩:=hv v List.mem_cons_self
  obtain ⟨ρ1,H1,av,xs,e1,r1,s1,v1,l1⟩:=um ht hz sx hlen lO hE hd j9
  obtain ⟨ρ2,H2,nx2,us,ls,e2,r2,n2,s2,v2,q1,q2⟩:=ih (fun v hm=>hv v (List.mem_cons_of_mem _ hm)) r1
  refine ⟨ρ2,H2,nx2,av::us,xs::ls,e1.trans e2,r2,by omega,s1.trans s2 (Nat.le_succ _),.cons (v1.mono e2) v2,by simp [q1],fun i u l hu hl=>?_⟩
  cases i with
  | zero=>
   simp at hu hl
   subst hu;subst hl
   exact (l1.same s2).up n2
  | succ i=>exact q2 i u l (by simpa using hu) (by simpa using hl)
theorem Nq {α:Type} {encα:α→List Value} {z fuel:Nat} {t s e:TypeId} {v:Value} {x:DataW X×List MemPlace} (ht:P.underlying t=some (.slice s)) (hs:P.underlying s=some (.slice e)) (aS:P.cellsOf s=1) (hz:P.cellsOf e=z) (sx:0 < z) (hlen:∀a,(encα a).length=z) (lO:∀a,(encα a).all scalar=true)
  (hE:∀fuel c y,DataW.trod enc P w base (fun _=>true) true fuel e c=some y→∃a,c=encα a) (GN:∀a len cap,v=.slice (some a) len cap→a.spot=none∧∃row cells,w.shape? a.block=some (row,cells))
  (hd:DataW.trod enc P w base (fun _=>true) true fuel t [v]=some x) (j9:Ro ρ H nx w.heap) :
  ∃ρ' H' nx' av,∃ls:List (List α),Ext ρ ρ'∧Ro ρ' H' nx' w.heap∧nx≤nx'∧an H H' nx∧VR ρ' av v∧dZ H' nx' z encα av ls:=by
 rcases Deep.open_slice ht hd with ⟨h,_⟩|⟨a,len,cap,m,n,D,Pl,h,_,hl,hm,Nn,_,yN⟩
 ·obtain rfl:v=.slice none 0 0:=by simpa using h
  exact ⟨ρ,H,nx,.slice none 0 0,[],.refl ρ,j9,Nat.le_refl _,.refl,.j5,[],rfl,.nil,fun i u l hu=>by simp at hu⟩
 ·obtain rfl:v=.slice (some a) len cap:=by simpa using h
  obtain ⟨xQ,row,cells,jy⟩:=GN a len cap rfl
  obtain ⟨blk,off,spot⟩:=a
  obtain rfl:spot=none:=xQ
  obtain rfl:m=cap:=by simpa using Nn
  rw [aS] at yN
  obtain ⟨arr,te,fz,Aw⟩:∃arr te fz,w.heap[blk]?=some (.cells arr te fz):=by
   unfold World.shape? at jy
   split at jy
   ·rename_i c el fz hh;exact ⟨c,el,fz,hh⟩
   ·cases jy
  have dT:∀i,i < m→∃u,arr[off + i]?=some u∧DataW.trod enc P w base (fun _=>true) true n s [u]=some (D i,Pl i):=fun i hi=>by
   obtain ⟨cs,h1,h2⟩:=yN i hi
   obtain ⟨p1,p2⟩:=mapM_cells h1
   match cs,p1 with
   | [u],_=>
    have h3:=p2 0 (by omega)
    refine ⟨u,?_,h2⟩
    rw [Go.WideShapes.add_plain,Go.WideShapes.add_plain] at h3
    unfold World.cell? at h3
    rw [Aw] at h3
    simpa using h3
  obtain ⟨vs,Cn,IN⟩:∃vs:List Value,vs.length=len∧∀i u,vs[i]?=some u→arr[off + i]?=some u∧∃fuel x,DataW.trod enc P w base (fun _=>true) true fuel s [u]=some x:=by
   have:∀k,k≤len→∃vs:List Value,vs.length=k∧∀i u,vs[i]?=some u→arr[off + i]?=some u∧∃fuel x,DataW.trod enc P w base (fun _=>true) true fuel s [u]=some x:=by
    intro k
    induction k with
    | zero=>intro _;exact ⟨[],rfl,fun i u h=>by simp at h⟩
    | succ k ih=>
     intro hk
     obtain ⟨vs,h1,h2⟩:=ih (by omega)
     obtain ⟨u,g1,g2⟩:=dT k (by omega)
     refine ⟨vs++[u],by simp [h1],fun i y hy=>?_⟩
     by_cases hi:i < k
     ·rw [List.getElem?_append_left (by omega)] at hy
      exact h2 i y hy
     ·have bR:=(List.getElem?_eq_some_iff.1 hy).1
      simp at bR
      obtain rfl:i=k:=by omega
      rw [List.getElem?_append_right (by omega),h1] at hy
      simp at hy
      subst hy
      exact ⟨g1,_,_,g2⟩
   exact this len (Nat.le_refl _)
  obtain ⟨ρ1,H1,aY,us,ls,e1,r1,n1,s1,w1,q1,q2⟩:=IM hs hz sx hlen lO hE vs (fun v hm=>by
   obtain ⟨i,hi⟩:=List.getElem?_of_mem hm
   exact (IN i v hi).2) j9
  have yO:us.length=len:=by rw [← w1.length,Cn]
  have po:Kv ρ1 w.heap ⟨blk,off,arr.size⟩ us:=⟨arr,te,fz,Aw,rfl,fun i u hu=>by
   obtain ⟨v',g1,g2⟩:=w1.get hu
   exact ⟨v',(IN i v' g1).1,g2⟩⟩
  have Fu:m=0∨off + m * 1≤arr.size:=by
   by_cases h0:m=0
   ·exact .inl h0
   ·right
    obtain ⟨u,g1,_⟩:=dT (m - 1) (by omega)
    have:=(Array.getElem?_eq_some_iff.1 g1).1
    omega
  have Dt:m≤ei:=by unfold maxLen at hm;unfold ei;omega
  have dk:an H1 (bB (at_ aY) H1 (some (.ro us))) aY:=fun b hb=>aR _ _ _ _ (fun e=>by have:=ea e;omega)
  have zD:=Np us
  refine ⟨ρ1.with aY ⟨blk,off,arr.size⟩,_,aY + 1,.slice (some ⟨aY,0,some 1⟩) us.length (2 * len),ls,e1.trans (r1.hr.eO _),r1.add po,by omega,s1.trans dk n1,?_,us,q1,.pre (rest:=[]) (.inr (by rw [List.append_nil,zD];exact bp _ _ _)) (by omega) (by rw [dD];omega) (fun _=>rfl),fun i u l hu hl=>((q2 i u l hu hl).same dk).up (Nat.le_succ _)⟩
  rw [yO]
  exact .sl (bA.dN _ _ _) ⟨hl,Dt⟩ (by rw [dD];exact hl) (fun e=>by rw [kI] at e;cases e) (Fu.imp id fun h=>⟨rfl,h⟩)
end
end Go.Eng

namespace Go.Eng
variable {P:Program} {ins:List Nat} {A:aG} {ρ:bA} {H:Heap} {nx:Nat} {hp:Array Obj}
theorem dL.refined (hA:BB P ins A) {g:FuncId} {vs:List Value} {v:Value} (xD:gD P g) (hv:scalar v=true)
  (h:∀(ρ:bA) (us:List Value) (w:World),cU ρ vs us→HR ρ H nx w.heap→∃IP H2,cU ρ IP us∧HR ρ H2 nx w.heap∧(∀k,j6 ρ H2 k→j6 ρ H k)∧WF A g IP H2 nx fun v' _ _=>v'=v):dL P g vs H nx (.ok v .e nx):=by
 refine ⟨xD,Nat.le_refl _,fun ρ us w lh hH=>?_⟩
 obtain ⟨IP,H2,g1,g2,g3,g4⟩:=h ρ us w lh hH
 obtain ⟨m,v',H',nx',fw,rfl⟩:=g4.out
 refine (((xR hA m).1 g IP H2 _ _ fw).2 ρ us w g1 g2).mono fun e w' hr=>?_
 obtain ⟨u,ρ',q1,q2,q3⟩:=hr
 refine ⟨u,ρ,q1,?_,⟨⟨(fun b k hb=>by cases hb),(fun b b' k k' s s' hb=>by cases hb),hH.new⟩,⟨.refl ρ,(fun k hk=>by obtain ⟨b,x,r,hb,_⟩:=hk;cases hb),(fun b x hb=>by cases hb),(fun k hk hn=>q3.gM.frame k hk fun ho=>hn (g3 k ho)),q3.gM.size,q3.gM.os,q3.gM.tape,q3.gM.output⟩,Nat.le_refl _,fun _ _=>rfl⟩⟩
 rw [q2.dM hv]
 exact .sc hv
def xX (v u:Value):Prop:=(∀d o z n c,v=.slice (some ⟨d,o,some z⟩) n c→∃c',u=.slice (some ⟨d,o,some z⟩) n (2 * c' + 1)∧n≤c'∧c'≤ei)∧((∀d o z n c,v≠.slice (some ⟨d,o,some z⟩) n c)→u=v)
theorem dp (c:Nat):aE (2 * c + 1)=c:=by
 show (2 * c + 1) / 2=c
 omega
theorem Fv (c:Nat):exact (2 * c + 1)=true:=by
 unfold exact
 have:Nat.mod (2 * c + 1) 2=1:=by
  show (2 * c + 1) % 2=1
  omega
 rw [this];rfl
theorem VR.roomy {v v':Value} (h:VR ρ v v'):∃u,xX v u∧VR ρ u v':=by
 have other:(∀d o z n c,v≠.slice (some ⟨d,o,some z⟩) n c)→∃u,xX v u∧VR ρ u v':=fun hn=>⟨v,⟨fun d o z n c e=>absurd e (hn d o z n c),fun _=>rfl⟩,h⟩
 cases h with
 | @sl b o z len c p c' r hs hl lO he hp=>
  refine ⟨.slice (some ⟨b,o,some z⟩) len (2 * c' + 1),⟨fun d o' z' n c2 e=>?_,fun hn=>absurd rfl (hn _ _ _ _ _)⟩,.sl hs hl (by rw [dp];exact Nat.le_refl _) (fun _=>(dp _).symm) hp⟩
  cases e
  exact ⟨c',rfl,hl.1,hl.2⟩
 | sc hs=>exact other fun d o z n c e=>by subst e;simp [scalar] at hs
 | _=>exact other fun d o z n c e=>by cases e
theorem cU.roomy {vs us:List Value} (h:cU ρ vs us):∃IP:List Value,IP.length=vs.length∧(∀(i:Nat) (v u:Value),vs[i]?=some v→IP[i]?=some u→xX v u)∧cU ρ IP us:=by
 induction vs generalizing us with
 | nil=>exact ⟨[],rfl,fun i v u hv=>by simp at hv,h⟩
 | cons v vs ih=>
  cases h with
  | cons h hs=>
   obtain ⟨u,h1,h2⟩:=h.roomy
   obtain ⟨IP,g1,g2,g3⟩:=ih hs
   refine ⟨u::IP,by simp [g1],fun i x y hx hy=>?_,.cons h2 g3⟩
   cases i with
   | zero=>simp at hx hy;subst hx;subst hy;exact h1
   | succ i=>exact g2 i x y (by simpa using hx) (by simpa using hy)
theorem HR.roomy (h:HR ρ H nx hp) {b:Nat} {cs:List Value} (hb:ao H (at_ b)=some (.cells cs)):∃jf:List Value,jf.length=cs.length∧(∀(i:Nat) (v u:Value),cs[i]?=some v→jf[i]?=some u→xX v u)∧
  HR ρ (bB (at_ b) H (some (.cells jf))) nx hp∧∀k,j6 ρ (bB (at_ b) H (some (.cells jf))) k→j6 ρ H k:=by
 obtain ⟨r,hr,a,e,ha,lk,hc⟩:=h.blk b _ hb
 have lh:∃us:List Value,cU ρ cs us∧∀(i:Nat) (u:Value),us[i]?=some u→a[r.sh + i]?=some u:=by
  clear hb
  have:∀(cs:List Value) (o:Nat),(∀i v,cs[i]?=some v→∃v',a[o + i]?=some v'∧VR ρ v v')→∃us:List Value,cU ρ cs us∧∀(i:Nat) (u:Value),us[i]?=some u→a[o + i]?=some u:=by
   intro cs
   induction cs with
   | nil=>intro o _;exact ⟨[],.nil,fun i u hu=>by simp at hu⟩
   | cons v cs ih=>
    intro o hc
    obtain ⟨v',h1,h2⟩:=hc 0 v rfl
    obtain ⟨us,g1,g2⟩:=ih (o + 1) (fun i x hx=>by
     obtain ⟨x',q1,q2⟩:=hc (i + 1) x (by simpa using hx)
     exact ⟨x',by rw [← q1];congr 1;omega,q2⟩)
    refine ⟨v'::us,.cons h2 g1,fun i u hu=>?_⟩
    cases i with
    | zero=>simp at hu;subst hu;exact h1
    | succ i=>
     have:=g2 i u (by simpa using hu)
     rw [← this];congr 1;omega
  exact this cs r.sh hc
 obtain ⟨us,hv,hu⟩:=lh
 obtain ⟨jf,h1,h2,h3⟩:=hv.roomy
 refine ⟨jf,h1,h2,h.write hb hr (fun _ _=>rfl) ⟨a,e,ha,lk,fun i v hi=>?_⟩,fun k hk=>j6.mf hb hk⟩
 obtain ⟨v',g1,g2⟩:=h3.get hi
 exact ⟨v',hu i v' g1,g2⟩
end Go.Eng

namespace Go.Eng
section
variable {A:aG} {H H':Heap} {nx nx':Nat} {σ:aP} {L:List Value} {Q:cw}
theorem hK {a b:Nat} (hb:b < 18446744073709551616):cr (yI a b)=some (a,b):=by
 show some (yX (Nat.add (Nat.mul a 18446744073709551616) b),vX (Nat.add (Nat.mul a 18446744073709551616) b))=_
 rw [Hz hb,HA hb]
theorem gq {n:Nat}:cr (.int .i64 (n:Int))=some (n,n):=rfl
theorem Act.X4 {x:Od} {a:Addr} {n c:Nat} (hx:ev σ L x=some (.slice (some a) n c)) (he:exact c=false):Act A (.cap x) σ L H nx (yI (aE c) 9223372036854775807) H nx:=by
 refine ⟨fun T hT k=>?_⟩
 show a5 T L x (fun v=>yY v fun v=>k v H nx)=_
 rw [hT.a5 hx]
 show cond (exact c) _ _=_
 rw [he];rfl
theorem Act.TD {x:Od} {a:Addr} {n c:Nat} (hx:ev σ L x=some (.slice (some a) n c)) (he:exact c=true):Act A (.cap x) σ L H nx (.int .i64 ((aE c:Nat):Int)) H nx:=by
 refine ⟨fun T hT k=>?_⟩
 show a5 T L x (fun v=>yY v fun v=>k v H nx)=_
 rw [hT.a5 hx]
 show cond (exact c) _ _=_
 rw [he];rfl
theorem Act.TE {x:Od} {n c:Nat} (hx:ev σ L x=some (.slice none n c)):Act A (.cap x) σ L H nx (.int .i64 ((0:Nat):Int)) H nx:=by
 refine ⟨fun T hT k=>?_⟩
 show a5 T L x (fun v=>yY v fun v=>k v H nx)=_
 rw [hT.a5 hx];rfl
theorem mH {P:Program} {op:BinOp} {t:TypeId} {x y v:Value} {a b c d:Nat} (hf:vg op x y=none) (hn:(flat x&&flat y)=false) (hi:(ey x||ey y)=true) (hx:cr x=some (a,b)) (hy:cr y=some (c,d)) (h:lY op a b c d=some v) (k:KV):eE P op t x y k=k v:=by
 unfold eE
 rw [hf]
 have:kr P op t x y=some v:=by
  unfold kr
  rw [hn]
  show s6 op x y=_
  unfold s6
  rw [hi,hx,hy]
  exact h
 show bd (kr P op t x y) k=_
 rw [this];rfl
theorem qK {op:BinOp} {k:Option Nat} {y:Value}:vg op (.chan k) y=none:=by cases y<;>rfl
theorem uo {op:BinOp} {k:Option Nat} {x:Value}:vg op x (.chan k)=none:=by
 unfold vg
 split<;>simp_all
section one
variable {t:TypeId} {x y:Od} {a b c d:Nat}
theorem Act.aaS {op:BinOp} {v:Value} (hx:ev σ L x=some (yI a b)) (hy:ev σ L y=some (.int .i64 (c:Int))) (hb:b < 18446744073709551616) (h:lY op a b c c=some v):Act A (.bin op t x y) σ L H nx v H nx:=
 .eE hx hy (mH qK rfl rfl (hK hb) gq h)
theorem Act.aaT {op:BinOp} {v:Value} (hx:ev σ L x=some (.int .i64 (a:Int))) (hy:ev σ L y=some (yI c d)) (hd:d < 18446744073709551616) (h:lY op a a c d=some v):Act A (.bin op t x y) σ L H nx v H nx:=
 .eE hx hy (mH uo rfl rfl gq (hK hd) h)
theorem Act.aaU {op:BinOp} {v:Value} (hx:ev σ L x=some (yI a b)) (hy:ev σ L y=some (yI c d)) (hb:b < 18446744073709551616) (hd:d < 18446744073709551616) (h:lY op a b c d=some v):Act A (.bin op t x y) σ L H nx v H nx:=
 .eE hx hy (mH qK rfl rfl (hK hb) (hK hd) h)
end one
theorem Fw {a b c d:Nat} (h:b + d < 9223372036854775808):lY .add a b c d=some (yI (a + c) (b + d)):=by
 show (bif Nat.blt (b + d) 9223372036854775808 then _ else _)=_
 have:Nat.blt (b + d) 9223372036854775808=true:=by rw [Nat.blt_eq];exact h
 rw [this];rfl
theorem Fx {a b c d:Nat} (h:b≤c):lY .leq a b c d=some (.bool true):=by
 show (bif Nat.ble b c then _ else _)=_
 rw [Nat.ble_eq_true_of_le h];rfl
theorem Fy {a b c d:Nat} (h:d < a) (h2:c < b):lY .gtr a b c d=some (.bool true):=by
 show (bif Nat.ble b c then _ else bif Nat.blt d a then _ else _)=_
 have e1:Nat.ble b c=false:=by
  cases hb:Nat.ble b c with
  | false=>rfl
  | true=>have:=Nat.le_of_ble_eq_true hb;omega
 have e2:Nat.blt d a=true:=by rw [Nat.blt_eq];exact h
 rw [e1,e2];rfl
theorem Act.X5 {x y:Od} {vx vy:Value} {a b c d:Nat} (hx:ev σ L x=some vx) (hy:ev σ L y=some vy) (hi:(ey vx||ey vy)=true) (ha:cr vx=some (a,b)) (hb:cr vy=some (c,d)):Act A (.nR true [x,y]) σ L H nx (yI (min a c) (min b d)) H nx:=by
 refine ⟨fun T hT k=>?_⟩
 have he:tO σ L [x,y]=some [vx,vy]:=by simp [tO,hx,hy]
 show cS T L [x,y] (fun vs=>bd (vh A.P true vs) fun v=>k v H nx)=_
 rw [hT.cS he]
 have:vh A.P true [vx,vy]=some (yI (min a c) (min b d)):=by
  unfold vh
  have:p7 true [vx,vy]=some (yI (min a c) (min b d)):=by
   unfold p7
   simp only [hi,ha,hb,cond_true]
   first|done|rfl
  rw [this]
 rw [this];rfl
theorem cV {v:Value} {a b:Nat} (h:cr v=some (a,b)):(v=.int .i64 (a:Int)∧b=a)∨(ey v=true∧flat v=false∧∃k,v=.chan (some k)):=by
 unfold cr at h
 split at h
 ·cases h;exact .inl ⟨rfl,rfl⟩
 ·exact .inr ⟨rfl,rfl,_,rfl⟩
 ·cases h
theorem px {P:Program} {op:BinOp} {t:TypeId} {x y v:Value} {a b c d:Nat} (hx:cr x=some (a,b)) (hy:cr y=some (c,d)) (hn:ey x=true∨ey y=true) (h:lY op a b c d=some v) (k:KV):eE P op t x y k=k v:=by
 rcases cV hx with ⟨rfl,rfl⟩|⟨h1,h2,q,rfl⟩
 ·rcases cV hy with ⟨rfl,rfl⟩|⟨h3,h4,q,rfl⟩
  ·rcases hn with h|h<;>cases h
  ·exact mH uo (by rw [h4];simp) (by rw [h3];simp) hx hy h k
 ·exact mH qK (by rw [h2];rfl) (by rw [h1];rfl) hx hy h k
section X6
variable {t:TypeId} {x y:Od} {a b c d:Nat} {vx vy:Value}
theorem Act.Ly (hx:ev σ L x=some vx) (hy:ev σ L y=some vy) (ha:cr vx=some (a,b)) (hb:cr vy=some (c,d)) (h:b + d < 9223372036854775808):∃v,cr v=some (a + c,b + d)∧Act A (.bin .add t x y) σ L H nx v H nx:=by
 by_cases hn:ey vx=true∨ey vy=true
 ·exact ⟨yI (a + c) (b + d),hK (by omega),.eE hx hy (px ha hb hn (Fw h))⟩
 ·rcases cV ha with ⟨rfl,rfl⟩|⟨h1,_⟩
  ·rcases cV hb with ⟨rfl,rfl⟩|⟨h1,_⟩
   ·refine ⟨.int .i64 ((b + d:Nat):Int),rfl,?_⟩
    have:=Act.add (A:=A) (H:=H) (nx:=nx) (t:=t) hx hy (by unfold qH;omega)
    rwa [show ((b:Int) + (d:Int))=((b + d:Nat):Int) by omega] at this
   ·exact absurd (.inr h1) hn
  ·exact absurd (.inl h1) hn
theorem Act.X7 (hx:ev σ L x=some vx) (hy:ev σ L y=some vy) (ha:cr vx=some (a,b)) (hb:cr vy=some (c,d)) (h:d < a) (h2:c < b):Act A (.bin .gtr t x y) σ L H nx (.bool true) H nx:=by
 by_cases hn:ey vx=true∨ey vy=true
 ·exact .eE hx hy (px ha hb hn (Fy h h2))
 ·rcases cV ha with ⟨rfl,rfl⟩|⟨h1,_⟩
  ·rcases cV hb with ⟨rfl,rfl⟩|⟨h1,_⟩
   ·have:=Act.gtr (A:=A) (H:=H) (nx:=nx) (t:=t) hx hy
    rwa [decide_eq_true (by omega)] at this
   ·exact absurd (.inr h1) hn
  ·exact absurd (.inl h1) hn
theorem Co {a b c d:Nat} (h:b≤c):lY .gtr a b c d=some (.bool false):=by
 show (bif Nat.ble b c then _ else bif Nat.blt d a then _ else _)=_
 rw [Nat.ble_eq_true_of_le h];rfl
theorem Act.X8 (hx:ev σ L x=some vx) (hy:ev σ L y=some vy) (ha:cr vx=some (a,b)) (hb:cr vy=some (c,d)) (h:b≤c):Act A (.bin .gtr t x y) σ L H nx (.bool false) H nx:=by
 by_cases hn:ey vx=true∨ey vy=true
 ·exact .eE hx hy (px ha hb hn (Co h))
 ·rcases cV ha with ⟨rfl,rfl⟩|⟨h1,_⟩
  ·rcases cV hb with ⟨rfl,rfl⟩|⟨h1,_⟩
   ·have:=Act.gtr (A:=A) (H:=H) (nx:=nx) (t:=t) hx hy
    rwa [decide_eq_false (by omega)] at this
   ·exact absurd (.inr h1) hn
  ·exact absurd (.inl h1) hn
theorem Act.X9 (hx:ev σ L x=some vx) (hy:ev σ L y=some vy) (ha:cr vx=some (a,b)) (hb:cr vy=some (c,d)) (h:b≤c):Act A (.bin .leq t x y) σ L H nx (.bool true) H nx:=by
 by_cases hn:ey vx=true∨ey vy=true
 ·exact .eE hx hy (px ha hb hn (Fx h))
 ·rcases cV ha with ⟨rfl,rfl⟩|⟨h1,_⟩
  ·rcases cV hb with ⟨rfl,rfl⟩|⟨h1,_⟩
   ·have:=Act.leq (A:=A) (H:=H) (nx:=nx) (t:=t) hx hy
    rwa [decide_eq_true (by omega)] at this
   ·exact absurd (.inr h1) hn
  ·exact absurd (.inl h1) hn
theorem Act.OS (hx:ev σ L x=some vx) (hy:ev σ L y=some vy) (ha:cr vx=some (a,b)) (hb:cr vy=some (c,d)) (h:min b d < 18446744073709551616):∃v,cr v=some (min a c,min b d)∧Act A (.nR true [x,y]) σ L H nx v H nx:=by
 by_cases hn:(ey vx||ey vy)=true
 ·exact ⟨_,hK h,.X5 hx hy hn ha hb⟩
 ·rcases cV ha with ⟨rfl,rfl⟩|⟨h1,_⟩
  ·rcases cV hb with ⟨rfl,rfl⟩|⟨h1,_⟩
   ·refine ⟨.int .i64 ((min b d:Nat):Int),rfl,?_⟩
    have:=Act.min2 (A:=A) (H:=H) (nx:=nx) hx hy
    rwa [show (min (b:Int) (d:Int))=((min b d:Nat):Int) by omega] at this
   ·exact absurd (by rw [h1];simp) hn
  ·exact absurd (by rw [h1];rfl) hn
theorem Act.OT {x:Od} {ad:Option Addr} {n c:Nat} (hx:ev σ L x=some (.slice ad n c)) (hc:∀e,ad=some e→aE c≤9223372036854775807):∃v lo hi,cr v=some (lo,hi)∧(ad=none→lo=0∧hi=0)∧(∀e,ad=some e→lo=aE c∧lo≤hi)∧hi≤9223372036854775807∧Act A (.cap x) σ L H nx v H nx:=by
 cases ad with
 | none=>exact ⟨_,0,0,rfl,fun _=>⟨rfl,rfl⟩,fun e h=>(by cases h),by omega,.TE hx⟩
 | some e=>
  have:=hc e rfl
  cases he:exact c with
  | true=>exact ⟨_,aE c,aE c,rfl,fun h=>(by cases h),fun _ _=>⟨rfl,Nat.le_refl _⟩,this,.TD hx he⟩
  | false=>exact ⟨_,aE c,9223372036854775807,hK (by omega),fun h=>(by cases h),fun _ _=>⟨rfl,this⟩,Nat.le_refl _,.X4 hx he⟩
section TF
variable {K:Value→Heap→Nat→Prop}
theorem aM.Ly (hx:ev σ L x=some vx) (hy:ev σ L y=some vy) (ha:cr vx=some (a,b)) (hb:cr vy=some (c,d)) (h:b + d < 9223372036854775808) (hk:∀v,cr v=some (a + c,b + d)→K v H nx):aM A (.bin .add t x y) σ L H nx K:=
 let ⟨v,h1,h2⟩:=Act.Ly (A:=A) (H:=H) (nx:=nx) (t:=t) hx hy ha hb h
 .of h2 (hk v h1)
theorem aM.OS (hx:ev σ L x=some vx) (hy:ev σ L y=some vy) (ha:cr vx=some (a,b)) (hb:cr vy=some (c,d)) (h:min b d < 18446744073709551616) (hk:∀v,cr v=some (min a c,min b d)→K v H nx):aM A (.nR true [x,y]) σ L H nx K:=
 let ⟨v,h1,h2⟩:=Act.OS (A:=A) (H:=H) (nx:=nx) hx hy ha hb h
 .of h2 (hk v h1)
theorem aM.OT {ad:Option Addr} {n c:Nat} (hx:ev σ L x=some (.slice ad n c)) (hc:∀e,ad=some e→aE c≤9223372036854775807) (hk:∀v lo hi,cr v=some (lo,hi)→(ad=none→lo=0∧hi=0)→(∀e,ad=some e→lo=aE c∧lo≤hi)→hi≤9223372036854775807→K v H nx):aM A (.cap x) σ L H nx K:=
 let ⟨v,lo,hi,h1,h2,h3,h4,h5⟩:=Act.OT (A:=A) (H:=H) (nx:=nx) hx hc
 .of h5 (hk v lo hi h1 h2 h3 h4)
end TF
end X6
theorem Act.q7 {z by_:Nat} {zero:List Value} {s x:Od} {b o len c n:Nat} {v:Value} {cs l new:List Value} (hs:ev σ L s=some (.slice (some ⟨b,o,some z⟩) len c)) (hx:ev σ L x=some v) (gS:qI H z v n new) (hn:n≠0) (hz:0 < z)
  (h1:bZ new=true) (hr:ao H (at_ b)=some (.cells cs)) (hc:len + n≤aE c) (ho:lM cs (o + len * z) new=some l) :
  Act A (.app z by_ zero s x false) σ L H nx (.slice (some ⟨b,o,some z⟩) (len + n) c) (aI H b l) nx:=by
 refine ⟨fun T hT k=>?_⟩
 show a5 T L s (fun s=>a5 T L x fun x=>iJ H z (p9 z by_ H nx k s) x)=_
 rw [hT.a5 hs,hT.a5 hx,gS.iJ,xW hz h1 hn]
 rw [Nat.ble_eq_true_of_le hc]
 show eU H b (fun cs=>bd (lM cs (Nat.add o (Nat.mul len z)) new) (lR H nx b (.slice (some ⟨b,o,some z⟩) (Nat.add len n) c) k))=_
 rw [kH hr]
 show bd (lM cs (o + len * z) new) _=_
 rw [ho]
 show lR H nx b _ k l=_
 rw [m3]
 rfl
def cf:Value→Option Nat
 | .slice (some ⟨b,_,some _⟩) _ _=>some b
 | _=>none
theorem bP.blk {α:Type} {z:Nat} {enc:α→List Value} {v:Value} {xs:List α} (h:bP H nx z enc v xs) (hs:∀b,cf v=some b→b < nx→ao H' (at_ b)=ao H (at_ b)) (hn:nx≤nx'):bP H' nx' z enc v xs:=by
 obtain ⟨base,c,rfl,h2,h3⟩:=h
 refine ⟨base,c,rfl,h2,fun a ha=>?_⟩
 rcases h3 a ha with h0|⟨g1,b,o,rfl,g3,g4⟩
 ·exact .inl h0
 ·refine .inr ⟨g1,b,o,rfl,by omega,fun hx=>?_⟩
  obtain ⟨cs,q1,q2⟩:=g4 hx
  refine ⟨cs,?_,q2⟩
  unfold Rd
  rw [hs b (by rw [ha];rfl) g3]
  exact q1
theorem bM.qL {nx0 z n:Nat} {v:Value} {cs:List Value} (h:bM H nx0 nx z v n cs) (hs:∀b,nx0≤b→b < nx→ao H' (at_ b)=ao H (at_ b)) (hn:nx≤nx'):bM H' nx0 nx' z v n cs:=by
 obtain ⟨hl,h|⟨b,h1,h2,h3,h4⟩⟩:=h
 ·exact ⟨hl,.inl h⟩
 ·exact ⟨hl,.inr ⟨b,h1,h2,Nat.lt_of_lt_of_le h3 hn,(hs b h2 h3).trans h4⟩⟩
theorem Fz {v:Value} {a b:Nat} (h:cr v=some (a,b)):cellsOf v=[v]∧p8 v=true:=by
 rcases cV h with ⟨rfl,_⟩|⟨_,_,k,rfl⟩<;>exact ⟨rfl,rfl⟩
theorem xY:∀(cs vs:List Value),cs.length < vs.length→eh cs vs=none:=by
 intro cs
 induction cs with
 | nil=>intro vs h;cases vs with
  | nil=>simp at h
  | cons v vs=>rfl
 | cons c cs ih=>
  intro vs h
  cases vs with
  | nil=>simp at h
  | cons v vs=>
   show (match eh cs vs with|some r=>some (v::r)|none=>none)=none
   rw [ih vs (by simpa using h)]
theorem IQ:∀(cs vs:List Value),vs≠[]→gA cs cs.length vs=none:=by
 intro cs
 induction cs with
 | nil=>intro vs h;exact xY [] vs (List.length_pos_iff.2 h)
 | cons c cs ih=>
  intro vs h
  show (Option.rec none (fun r=>some (c::r)) (gA cs cs.length vs):Option (List Value))=none
  rw [ih vs h]
theorem FA {cs vs:List Value} {o:Nat} (h:vs≠[]) (ho:o=cs.length):lM cs o vs=some (cs++vs):=by
 subst ho
 unfold lM
 rw [IQ cs vs h]
 have:Nat.beq cs.length cs.length=true:=by simp
 show cond (Nat.beq cs.length cs.length) _ none=_
 rw [this];rfl
end
end Go.Eng

namespace Go.Eng
section
variable {P:Program}
theorem Cp {t e:TypeId} {a0 a1 b0 b1:Int} {k:IntKind} (h:P.underlying t=some (.array 2 e)) (hz:quiet P (sizeOf e)=some 1) (g:quiet P (isAgg e)=some false) (he:P.underlying e=some (.int k)) (d:Nat) :
  quiet P (Op.equalIn (d + 1 + 1) t (.agg #[.int .i64 a0,.int .i64 a1]) (.agg #[.int .i64 b0,.int .i64 b1]))=some (a0 == b0&&a1 == b1):=by
 unfold Op.equalIn
 rw [cC h]
 have e0:=fun a b:Int=>gp (P:=P) (a:=a) (b:=b) he d
 have p0:∀x y:Int,quiet P (part e #[.int .i64 x,.int .i64 y] 0)=some (.int .i64 x):=fun x y=>dE g rfl
 have p1:∀x y:Int,quiet P (part e #[.int .i64 x,.int .i64 y] 1)=some (.int .i64 y):=fun x y=>dE g rfl
 by_cases h0:a0=b0<;>by_cases h1:a1=b1<;>
  simp [di,hz,List.range',e0,p0,p1,fU,h0,h1]
structure uq (P:Program) (t:TypeId):Prop where
 a:∃e k,P.underlying t=some (.array 2 e)∧quiet P (sizeOf e)=some 1∧quiet P (isAgg e)=some false∧P.underlying e=some (.int k)
def fJ (p:Int×Int):Value:=.agg #[.int .i64 p.1,.int .i64 p.2]
abbrev Mp:=List ((Int×Int)×Int)
def kJ:Mp→Nat→List MapEntry
 | [],_=>[]
 | (p,v)::r,i=>{ key:=fJ p,val:=.int .i64 v,born:=i }::kJ r (i + 1)
def sI (p:Int×Int):Mp→Option Nat
 | []=>none
 | (q,_)::r=>if q=p then some 0 else (sI p r).map (· + 1)
def lV (p:Int×Int):Mp→Int
 | []=>0
 | (q,v)::r=>if q=p then v else lV p r
def py (p:Int×Int) (v:Int):Mp→Mp
 | []=>[(p,v)]
 | (q,u)::r=>if q=p then (q,v)::r else (q,u)::py p v r
def IS:Mp→Nat→Int→Mp
 | [],_,_=>[]
 | (q,_)::r,0,v=>(q,v)::r
 | e::r,i + 1,v=>e::IS r i v
def GO (p:Int×Int) (m:Mp):Mp:=if sI p m=none then m++[(p,0)] else m
def DS (p:Int×Int) (m:Mp):Nat:=(sI p m).getD m.length
theorem LA {p q:Int×Int} {v:Int}:∀{m:Mp},lV q (py p v m)=if p=q then v else lV q m:=by
 intro m
 induction m with
 | nil=>rfl
 | cons e r ih=>
  obtain ⟨k,u⟩:=e
  show lV q (if k=p then (k,v)::r else (k,u)::py p v r)=if p=q then v else if k=q then u else lV q r
  by_cases h:k=p
  ·subst h
   rw [if_pos rfl]
   show (if k=q then v else lV q r)=_
   by_cases h2:k=q
   ·rw [if_pos h2,if_pos h2]
   ·rw [if_neg h2,if_neg h2,if_neg h2]
  ·rw [if_neg h]
   show (if k=q then u else lV q (py p v r))=_
   rw [ih]
   by_cases h2:k=q
   ·subst h2
    rw [if_pos rfl,if_neg (fun e=>h e.symm),if_pos rfl]
   ·rw [if_neg h2,if_neg h2]
theorem LB {p:Int×Int} {v:Int}:∀{m:Mp},IS (GO p m) (DS p m) v=py p v m:=by
 intro m
 induction m with
 | nil=>rfl
 | cons e r ih=>
  obtain ⟨k,u⟩:=e
  unfold GO DS sI py
  by_cases h:k=p
  ·subst h
   simp [IS]
  ·rw [if_neg h,if_neg h]
   unfold GO DS at ih
   cases hf:sI p r with
   | none=>
    rw [hf] at ih
    simp only [Option.map_none,if_true] at ih ⊢
    show IS ((k,u)::(r++[(p,0)])) (r.length + 1) v=_
    show (k,u)::IS (r++[(p,0)]) r.length v=_
    rw [← ih];rfl
   | some i=>
    rw [hf] at ih
    simp only [Option.map_some] at ih ⊢
    rw [if_neg (by simp)] at ih
    rw [if_neg (by simp)]
    show (k,u)::IS r i v=_
    rw [← ih];rfl
theorem OU {p:Int×Int}:∀{m:Mp} {i:Nat},sI p m=some i→i < m.length:=by
 intro m
 induction m with
 | nil=>intro i h;cases h
 | cons e r ih=>
  obtain ⟨k,u⟩:=e
  intro i h
  have h':(if k=p then some 0 else (sI p r).map (· + 1))=some i:=h
  split at h'
  ·cases h';simp
  ·cases hf:sI p r with
   | none=>rw [hf] at h';cases h'
   | some j=>rw [hf] at h';cases h';have:=ih hf;simpa using this
theorem OV {p:Int×Int} {m:Mp}:DS p m < (GO p m).length:=by
 unfold DS GO
 cases hf:sI p m with
 | none=>rw [if_pos rfl];simp
 | some i=>rw [if_neg (by simp)];exact OU hf
theorem V5:∀{m:Mp} {i:Nat},(kJ m i).length=m.length:=by
 intro m
 induction m with
 | nil=>intro i;rfl
 | cons e r ih=>obtain ⟨k,u⟩:=e;intro i;show (kJ r (i + 1)).length + 1=_;rw [ih];rfl
theorem LC:∀{m:Mp} {i:Nat} {p:Int×Int} {v:Int},kJ (m++[(p,v)]) i=kJ m i++[{ key:=fJ p,val:=.int .i64 v,born:=i + m.length }]:=by
 intro m
 induction m with
 | nil=>intro i p v;rfl
 | cons e r ih=>
  obtain ⟨k,u⟩:=e
  intro i p v
  show _::kJ (r++[(p,v)]) (i + 1)=_::(kJ r (i + 1)++_)
  rw [ih,List.length_cons,show i + 1 + r.length=i + (r.length + 1) by omega]
theorem LD:∀{m:Mp} {i:Nat} {v:Int},(IS m i v).length=m.length:=by
 intro m
 induction m with
 | nil=>intro i v;rfl
 | cons e r ih=>
  obtain ⟨k,u⟩:=e
  intro i v
  cases i with
  | zero=>rfl
  | succ i=>show (IS r i v).length + 1=_;rw [ih];rfl
theorem FB:∀{m:Mp} {i j:Nat} {v:Int},gV (kJ m j) i (.int .i64 v)=kJ (IS m i v) j:=by
 intro m
 induction m with
 | nil=>intro i j v;cases i<;>rfl
 | cons e r ih=>
  obtain ⟨k,u⟩:=e
  intro i j v
  cases i with
  | zero=>rfl
  | succ i=>show _::gV (kJ r (j + 1)) i _=_::kJ (IS r i v) (j + 1);rw [ih]
theorem FC:∀{m:Mp} {i j q:Nat},i < m.length→je (kJ m j) (j + i) q=some (q + i):=by
 intro m
 induction m with
 | nil=>intro i j q h;simp at h
 | cons e r ih=>
  obtain ⟨k,u⟩:=e
  intro i j q h
  show (bif Nat.beq j (j + i) then some q else je (kJ r (j + 1)) (j + i) (q + 1))=_
  cases i with
  | zero=>simp
  | succ i=>
   have:Nat.beq j (j + (i + 1))=false:=by
    cases hb:Nat.beq j (j + (i + 1)) with
    | false=>rfl
    | true=>have:=Nat.eq_of_beq_eq_true hb;omega
   rw [this]
   show je (kJ r (j + 1)) (j + (i + 1)) (q + 1)=_
   rw [show j + (i + 1)=j + 1 + i by omega,ih (by simpa using h),show q + 1 + i=q + (i + 1) by omega]
theorem ot {p:Int×Int}:∀{m:Mp} {i j:Nat},sI p m=some i→eY (kJ m j) i=some { key:=fJ p,val:=.int .i64 (lV p m),born:=j + i }∧s5 (kJ m j) i (fJ p)=true:=by
 intro m
 induction m with
 | nil=>intro i j h;cases h
 | cons e r ih=>
  obtain ⟨k,u⟩:=e
  intro i j h
  have h':(if k=p then some 0 else (sI p r).map (· + 1))=some i:=h
  by_cases hk:k=p
  ·rw [if_pos hk] at h';cases h'
   subst hk
   refine ⟨?_,?_⟩
   ·show some _=some _
    have:lV k ((k,u)::r)=u:=by show (if k=k then u else lV k r)=u;rw [if_pos rfl]
    rw [this];rfl
   ·show s4 (fJ k) (fJ k)=true
    simp [s4,fJ,sZ,sY]
  ·rw [if_neg hk] at h'
   cases hf:sI p r with
   | none=>rw [hf] at h';cases h'
   | some i'=>
    rw [hf] at h';cases h'
    obtain ⟨g1,g2⟩:=ih (j:=j + 1) hf
    refine ⟨?_,g2⟩
    show eY (kJ r (j + 1)) i'=_
    rw [g1,show j + 1 + i'=j + (i' + 1) by omega]
    congr 3
    show lV p r=if k=p then u else lV p r
    rw [if_neg hk]
theorem Az {p:Int×Int}:∀{m:Mp},sI p m=none→lV p m=0:=by
 intro m
 induction m with
 | nil=>intro _;rfl
 | cons e r ih=>
  obtain ⟨k,u⟩:=e
  intro h
  have h':(if k=p then some 0 else (sI p r).map (· + 1))=none:=h
  by_cases hk:k=p
  ·rw [if_pos hk] at h';cases h'
  ·rw [if_neg hk] at h'
   show (if k=p then u else lV p r)=0
   rw [if_neg hk]
   exact ih (by simpa using h')
theorem FD {p q:Int×Int} {m:Mp}:lV q (GO p m)=lV q m:=by
 unfold GO
 split
 ·rename_i h
  have:∀m:Mp,lV q (m++[(p,0)])=lV q m:=by
   intro m
   induction m with
   | nil=>show (if p=q then 0 else (0:Int))=0;split<;>rfl
   | cons e r ih=>
    obtain ⟨k,u⟩:=e
    show (if k=q then u else lV q (r++[(p,0)]))=if k=q then u else lV q r
    rw [ih]
  exact this m
 ·rfl
theorem Cq {t:TypeId} (h:uq P t) {emp:Bool} {p:Int×Int} (n:Nat):quiet P (Instr.checkKey emp (n + 1 + 1) t (fJ p))=some ():=by
 obtain ⟨e,k,h1,h2,h3,h4⟩:=h.a
 unfold Instr.checkKey fJ
 rw [cC h1]
 have e0:∀a:Int,quiet P (Instr.checkKey emp (n + 1) e (.int .i64 a))=some ():=fun a=>by
  unfold Instr.checkKey
  rw [cC h4]
  rfl
 have p0:∀x y:Int,quiet P (part e #[.int .i64 x,.int .i64 y] 0)=some (.int .i64 x):=fun x y=>dE h3 rfl
 have p1:∀x y:Int,quiet P (part e #[.int .i64 x,.int .i64 y] 1)=some (.int .i64 y):=fun x y=>dE h3 rfl
 simp [di,h2,List.range',e0,p0,p1,fU]
theorem Cr {t:TypeId} (h:uq P t) {p q:Int×Int}:quiet P (Op.equal t (fJ p) (fJ q))=some (decide (p=q)):=by
 obtain ⟨e,k,h1,h2,h3,h4⟩:=h.a
 have:quiet P (Op.equal t (fJ p) (fJ q))=some (p.1 == q.1&&p.2 == q.2):=Cp (a0:=p.1) (a1:=p.2) (b0:=q.1) (b1:=q.2) h1 h2 h3 h4 9998
 rw [this]
 congr 1
 obtain ⟨p1,p2⟩:=p
 obtain ⟨q1,q2⟩:=q
 by_cases a:p1=q1<;>by_cases b:p2=q2<;>simp [a,b]
theorem FE {t:TypeId} (h:uq P t) {p:Int×Int}:∀(m:Mp) (i j q:Nat),quiet P (Instr.findAsking t (fJ p) (marked (kJ m i) j) q)=some ((sI p m).map fun i=>(q + i,.int .i64 ((j + i:Nat):Int))):=by
 intro m
 induction m with
 | nil=>intro i j q;rfl
 | cons e r ih=>
  obtain ⟨k,u⟩:=e
  intro i j q
  show quiet P (do if ← Op.equal t (fJ p) (fJ k) then pure (some (q,Value.int .i64 ((j:Nat):Int))) else Instr.findAsking t (fJ p) (marked (kJ r (i + 1)) (j + 1)) (q + 1))=_
  rw [di,Cr h]
  by_cases hk:k=p
  ·subst hk
   simp [sI,fU]
  ·have:¬p=k:=fun e=>hk e.symm
   simp only [this,decide_false,Option.bind_some]
   show quiet P (Instr.findAsking t (fJ p) (marked (kJ r (i + 1)) (j + 1)) (q + 1))=_
   rw [ih]
   show _=some (Option.map _ (if k=p then some 0 else (sI p r).map (· + 1)))
   rw [if_neg hk]
   cases sI p r with
   | none=>rfl
   | some i'=>
    show some (some (q + 1 + i',Value.int .i64 ((j + 1 + i':Nat):Int)))=some (some (q + (i' + 1),Value.int .i64 ((j + (i' + 1):Nat):Int)))
    rw [show q + 1 + i'=q + (i' + 1) by omega,show j + 1 + i'=j + (i' + 1) by omega]
theorem qM {t:TypeId} (h:uq P t) {emp:Bool} {p:Int×Int} (m:Mp) (i:Nat):findAt P emp t (fJ p) (kJ m i)=some (sI p m):=by
 have zD:∀(m:Mp) (i:Nat),(kJ m i).all (fun e=>flat e.key)=true:=by
  intro m
  induction m with
  | nil=>intro i;rfl
  | cons e r ih=>obtain ⟨k,u⟩:=e;intro i;show (flat (fJ k)&&(kJ r (i + 1)).all _)=true;rw [ih];rfl
 have BM:quiet P (Instr.checkKey emp 10000 t (fJ p))=some ():=Cq h 9998
 have ES:quiet P (Instr.findKey t (fJ p) (marked (kJ m i) 0))=some ((sI p m).map fun i=>(i,.int .i64 ((i:Nat):Int))):=by
  obtain ⟨e,k,h1,h2,h3,h4⟩:=h.a
  unfold Instr.findKey
  rw [cC h1]
  cases m with
  | nil=>rfl
  | cons x r=>
   obtain ⟨k,u⟩:=x
   show quiet P (Instr.findAsking t (fJ p) (marked (kJ ((k,u)::r) i) 0) 0)=_
   rw [FE h]
   congr 1
   cases sI p ((k,u)::r) with
   | none=>rfl
   | some i'=>show some (0 + i',Value.int .i64 ((0 + i':Nat):Int))=some (i',Value.int .i64 ((i':Nat):Int));rw [Nat.zero_add]
 unfold findAt
 have TG:flat (fJ p)=true:=rfl
 rw [zD,TG]
 show (match quiet P (Instr.checkKey emp 10000 t (fJ p)) with|some ()=>_|none=>none)=_
 rw [BM]
 show (match quiet P (Instr.findKey t (fJ p) (marked (kJ m i) 0)) with|some (some (i',_))=>_|some none=>_|none=>none)=_
 rw [ES]
 cases hf:sI p m with
 | none=>rfl
 | some i'=>
  show (bif s5 (kJ m i) i' (fJ p) then some (some i') else none)=_
  rw [(ot hf).2];rfl
end
section
variable {A:aG} {H H':Heap} {nx nx':Nat} {σ:aP} {L:List Value} {Q:cw}
def nE (H:Heap) (b:Nat) (m:Mp):Prop:=ao H (at_ b)=some (.map (kJ m 0) m.length)
def ur (H:Heap) (b:Nat) (m:Mp):Heap:=bB (at_ b) H (some (.map (kJ m 0) m.length))
theorem kK {b c:Nat} {m:Mp}:ao (ur H b m) (at_ c)=if c=b then some (.map (kJ m 0) m.length) else ao H (at_ c):=by
 unfold ur
 by_cases h:c=b
 ·subst h;rw [bp];simp
 ·rw [aR _ _ _ _ (fun e=>h (ea e))];simp [h]
theorem nE.self {b:Nat} {m:Mp}:nE (ur H b m) b m:=by unfold nE;rw [kK];simp
theorem Act.Bo:Act A (.Bo none) σ L H nx (.map (some nx)) (ur H nx []) (nx + 1):=by
 refine ⟨fun T hT k=>?_⟩
 show dx (at_ nx) H (some (.map [] 0)) (fun H=>k (.map (some nx)) H (Nat.succ nx))=_
 rw [bQ];rfl
theorem Act.nr {x y:Od} {kt b:Nat} {p:Int×Int} {m:Mp} (ha:uq A.P kt) (hx:ev σ L x=some (.map (some b))) (hy:ev σ L y=some (.agg #[.int .i64 p.1,.int .i64 p.2])) (hm:nE H b m):Act A (.nr x y kt (.int .i64 (.ofNat 0)) false) σ L H nx (.int .i64 (lV p m)) H nx:=by
 refine ⟨fun T hT k=>?_⟩
 show a5 T L x (fun u=>a5 T L y fun key=>vj A.P kt _ false H key (fun v=>k v H nx) u)=_
 rw [hT.a5 hx,hT.a5 hy]
 show fe (ao H (at_ b)) _=_
 rw [hm]
 show bd (findAt A.P (kJ m 0).isEmpty kt (fJ p) (kJ m 0)) _=_
 rw [qM ha]
 cases hf:sI p m with
 | none=>
  show k (Rb false (.int .i64 (.ofNat 0)) false) H nx=_
  rw [Az hf];rfl
 | some i=>
  show bd (eY (kJ m 0) i) _=_
  rw [(ot hf).1];rfl
theorem aM.Dd {x y:Od} {kt b:Nat} {p:Int×Int} {m:Mp} {K:Value→Heap→Nat→Prop} (ha:uq A.P kt) (hx:ev σ L x=some (.map (some b))) (hy:ev σ L y=some (.agg #[.int .i64 p.1,.int .i64 p.2])) (hm:nE H b m)
  (h:∀H',nE H' b (GO p m)→(∀c,c≠b→ao H' (at_ c)=ao H (at_ c))→K (.tuple #[.int .i64 (lV p m),.int .i64 ((DS p m:Nat):Int)]) H' nx):aM A (.Dd x y kt (.int .i64 (.ofNat 0))) σ L H nx K:=by
 cases hf:sI p m with
 | none=>
  have hI:DS p m=m.length:=by unfold DS;rw [hf];rfl
  have Ck:GO p m=m++[(p,0)]:=by unfold GO;rw [if_pos hf]
  refine .of (v:=.tuple #[.int .i64 (lV p m),.int .i64 ((DS p m:Nat):Int)]) (H':=ur H b (m++[(p,0)])) (nx':=nx) ⟨fun T hT k=>?_⟩ (h _ (by rw [Ck];exact .self) (fun c hc=>by rw [kK,if_neg hc]))
  show a5 T L x (fun u=>a5 T L y fun key=>oL H u fun r es c=>bd (findAt A.P false kt key es) fun i=>Option.rec (dx (at_ r) H (some (ff es c key (.int .i64 (.ofNat 0)))) fun H=>k (.tuple #[.int .i64 (.ofNat 0),.int .i64 (.ofNat c)]) H nx) (fun i=>bd (eY es i) fun e=>k (.tuple #[e.val,.int .i64 (.ofNat e.born)]) H nx) i)=_
  rw [hT.a5 hx,hT.a5 hy]
  show fe (ao H (at_ b)) _=_
  rw [hm]
  show bd (findAt A.P false kt (fJ p) (kJ m 0)) _=_
  rw [qM ha,hf]
  show dx (at_ b) H (some (ff (kJ m 0) m.length (fJ p) (.int .i64 (.ofNat 0)))) _=_
  rw [bQ,Az hf,hI]
  have:ff (kJ m 0) m.length (fJ p) (.int .i64 (.ofNat 0))=.map (kJ (m++[(p,0)]) 0) (m++[(p,0)]).length:=by
   unfold ff
   rw [LC,List.length_append,Nat.zero_add];rfl
  rw [this];rfl
 | some i=>
  have hI:DS p m=i:=by unfold DS;rw [hf];rfl
  have Ck:GO p m=m:=by unfold GO;rw [if_neg (by rw [hf];simp)]
  refine .of (v:=.tuple #[.int .i64 (lV p m),.int .i64 ((DS p m:Nat):Int)]) (H':=H) (nx':=nx) ⟨fun T hT k=>?_⟩ (h _ (by rw [Ck];exact hm) (fun c hc=>rfl))
  show a5 T L x (fun u=>a5 T L y fun key=>oL H u fun r es c=>bd (findAt A.P false kt key es) fun i=>Option.rec (dx (at_ r) H (some (ff es c key (.int .i64 (.ofNat 0)))) fun H=>k (.tuple #[.int .i64 (.ofNat 0),.int .i64 (.ofNat c)]) H nx) (fun i=>bd (eY es i) fun e=>k (.tuple #[e.val,.int .i64 (.ofNat e.born)]) H nx) i)=_
  rw [hT.a5 hx,hT.a5 hy]
  show fe (ao H (at_ b)) _=_
  rw [hm]
  show bd (findAt A.P false kt (fJ p) (kJ m 0)) _=_
  rw [qM ha,hf]
  show bd (eY (kJ m 0) i) _=_
  rw [(ot hf).1,hI,Nat.zero_add];rfl
theorem Act.De {x y z:Od} {b i:Nat} {v:Int} {m:Mp} (hx:ev σ L x=some (.map (some b))) (hy:ev σ L y=some (.int .i64 (i:Int))) (hz:ev σ L z=some (.int .i64 v)) (hm:nE H b m) (hi:i < m.length):Act A (.De x y z) σ L H nx undef (ur H b (IS m i v)) nx:=by
 refine ⟨fun T hT k=>?_⟩
 show a5 T L x (fun u=>a5 T L y fun s=>cF s fun q=>a5 T L z fun v=>oL H u fun r es c=>bd (je es q 0) fun i=>dx (at_ r) H (some (.map (gV es i v) c)) fun H=>k undef H nx)=_
 rw [hT.a5 hx,hT.a5 hy]
 show a5 T L z (fun v=>oL H (.map (some b)) fun r es c=>bd (je es i 0) fun i=>dx (at_ r) H (some (.map (gV es i v) c)) fun H=>k undef H nx)=_
 rw [hT.a5 hz]
 show fe (ao H (at_ b)) _=_
 rw [hm]
 show bd (je (kJ m 0) i 0) _=_
 have:=FC (m:=m) (j:=0) (q:=0) hi
 rw [Nat.zero_add] at this
 rw [this]
 show dx (at_ b) H (some (.map (gV (kJ m 0) i (.int .i64 v)) m.length)) _=_
 rw [bQ,FB]
 unfold ur
 rw [LD]
theorem bk.nr {L:List Value} {x y:Od} {kt b d:Nat} {p:Int×Int} {m:Mp} {ag:List bL} (ha:uq A.P kt) (hx:ev σ L x=some (.map (some b))) (hy:ev σ L y=some (.agg #[.int .i64 p.1,.int .i64 p.2])) (hm:nE H b m) (hd:L[d]?=some (.int .i64 (lV p m))) (E4:bk A σ L H ag):bk A σ L H (⟨none,.nr x y kt (.int .i64 (.ofNat 0)) false,d⟩::ag):=by
 refine ⟨fun T hT X=>?_⟩
 have h2:∀k:KV,dv (.nr x y kt (.int .i64 (.ofNat 0)) false) A.P T L H k=k (.int .i64 (lV p m)):=fun k=>(Act.nr (nx:=0) ha hx hy hm).comes T hT (fun v _ _=>k v)
 show dv (.nr x y kt (.int .i64 (.ofNat 0)) false) A.P T L H (fun v=>s7 L d fun u=>cond (km u v) (fS A.P T L H ag X) none)=X
 rw [h2,jR,hd]
 show cond (km (.int .i64 (lV p m)) (.int .i64 (lV p m))) (fS A.P T L H ag X) none=X
 have:km (.int .i64 (lV p m)) (.int .i64 (lV p m))=true:=by simp [km,fa]
 rw [this]
 exact E4.reads T hT X
end
end Go.Eng

namespace Go.Eng
variable {ρ:bA} {H H':Heap} {nx nx':Nat} {hp:Array Obj}
section
variable {X:Type} {enc:TypeId×Value→X} {P:Program} {w:World} {base:Nat}
def xZ (d:DataW X) (B:Nat):Prop:=∀elems spare,d=.slice elems spare→elems.length≤B
theorem uu {α:Type} {encα:α→List Value} {z fuel B:Nat} {t e:TypeId} {v av:Value} {xs:List α} {x:DataW X×List MemPlace} (ht:P.underlying t=some (.slice e))
  (hd:DataW.trod enc P w base (fun _=>true) true fuel t [v]=some x) (hv:VR ρ av v) (hs:bP H nx z encα av xs) (hB:xZ x.1 B):xs.length≤B:=by
 obtain ⟨b,c,rfl⟩:=hs.form
 rcases Deep.open_slice ht hd with ⟨h,_⟩|⟨a,len,cap,m,n,D,Pl,h,_,hl,hm,Nn,hx,yN⟩
 ·obtain rfl:v=.slice none 0 0:=by simpa using h
  have:xs.length=0:=by
   generalize hq:xs.length=q at hv
   cases hv with
   | sc h=>simp [scalar] at h
   | j5=>rfl
  omega
 ·obtain rfl:v=.slice (some a) len cap:=by simpa using h
  have hlen:xs.length=len:=by
   generalize hq:xs.length=q at hv
   cases hv with
   | sc h=>rfl
   | sl=>rfl
   | Dn=>rfl
  subst hx
  have:=hB _ _ rfl
  rw [List.length_map,List.length_range] at this
  omega
theorem FF {B:Nat} {α:Type} {encα:α→List Value} {z:Nat} {t e:TypeId} (ht:P.underlying t=some (.slice e)) (hz:P.cellsOf e=z) (sx:0 < z) (hlen:∀a,(encα a).length=z) (lO:∀a,(encα a).all scalar=true)
  (hE:∀fuel c y,DataW.trod enc P w base (fun _=>true) true fuel e c=some y→∃a,c=encα a):∀(vs:List Value),(∀v∈vs,∃fuel x,DataW.trod enc P w base (fun _=>true) true fuel t [v]=some x∧xZ x.1 B)→∀{ρ:bA} {H:Heap} {nx:Nat},Ro ρ H nx w.heap→
  ∃ρ' H' nx',∃us:List Value,∃ls:List (List α),Ext ρ ρ'∧Ro ρ' H' nx' w.heap∧nx≤nx'∧an H H' nx∧cU ρ' us vs∧us.length=ls.length∧(∀l∈ls,l.length≤B)∧∀(i:Nat) (u:Value) (l:List α),us[i]?=some u→ls[i]?=some l→bP H' nx' z encα u l:=by
 intro vs
 induction vs with
 | nil=>intro _ ρ H nx j9;exact ⟨ρ,H,nx,[],[],.refl ρ,j9,Nat.le_refl _,.refl,.nil,rfl,(fun l hl=>by cases hl),fun i u l hu=>by simp at hu⟩
 | cons v vs ih=>
  intro hv ρ H nx j9
  obtain ⟨fuel,x,hd,hBx⟩:=hv v List.mem_cons_self
  obtain ⟨ρ1,H1,av,xs,e1,r1,s1,v1,l1⟩:=um ht hz sx hlen lO hE hd j9
  obtain ⟨ρ2,H2,nx2,us,ls,e2,r2,n2,s2,v2,q1,qB,q2⟩:=ih (fun v hm=>hv v (List.mem_cons_of_mem _ hm)) r1
  refine ⟨ρ2,H2,nx2,av::us,xs::ls,e1.trans e2,r2,by omega,s1.trans s2 (Nat.le_succ _),.cons (v1.mono e2) v2,by simp [q1],(fun l hl=>?_),fun i u l hu hl=>?_⟩
  ·rcases List.mem_cons.1 hl with rfl|hl
   ·exact uu ht hd v1 l1 hBx
   ·exact qB l hl
  cases i with
  | zero=>
   simp at hu hl
   subst hu;subst hl
   exact (l1.same s2).up n2
  | succ i=>exact q2 i u l (by simpa using hu) (by simpa using hl)
theorem pz {B:Nat} {α:Type} {encα:α→List Value} {z fuel:Nat} {t s e:TypeId} {v:Value} {x:DataW X×List MemPlace} (ht:P.underlying t=some (.slice s)) (hs:P.underlying s=some (.slice e)) (aS:P.cellsOf s=1) (hz:P.cellsOf e=z) (sx:0 < z) (hlen:∀a,(encα a).length=z) (lO:∀a,(encα a).all scalar=true)
  (hE:∀fuel c y,DataW.trod enc P w base (fun _=>true) true fuel e c=some y→∃a,c=encα a) (GN:∀a len cap,v=.slice (some a) len cap→a.spot=none∧∃row cells,w.shape? a.block=some (row,cells))
  (hd:DataW.trod enc P w base (fun _=>true) true fuel t [v]=some x) (hB0:xZ x.1 B) (hB:∀elems spare,x.1=.slice elems spare→∀d∈elems,xZ d B) (j9:Ro ρ H nx w.heap) :
  ∃ρ' H' nx' av,∃ls:List (List α),Ext ρ ρ'∧Ro ρ' H' nx' w.heap∧nx≤nx'∧an H H' nx∧VR ρ' av v∧dZ H' nx' z encα av ls∧ls.length≤B∧∀l∈ls,l.length≤B:=by
 rcases Deep.open_slice ht hd with ⟨h,_⟩|⟨a,len,cap,m,n,D,Pl,h,_,hl,hm,Nn,hx,yN⟩
 ·obtain rfl:v=.slice none 0 0:=by simpa using h
  exact ⟨ρ,H,nx,.slice none 0 0,[],.refl ρ,j9,Nat.le_refl _,.refl,.j5,⟨[],rfl,.nil,fun i u l hu=>by simp at hu⟩,Nat.zero_le _,fun l hl=>by cases hl⟩
 ·obtain rfl:v=.slice (some a) len cap:=by simpa using h
  have hBD:∀i,i < len→xZ (D i) B:=fun i hi=>hB _ _ (congrArg Prod.fst hx) _ (List.mem_map.2 ⟨i,List.mem_range.2 hi,rfl⟩)
  have hlB:len≤B:=by
   have:=hB0 _ _ (congrArg Prod.fst hx)
   rwa [List.length_map,List.length_range] at this
  obtain ⟨xQ,row,cells,jy⟩:=GN a len cap rfl
  obtain ⟨blk,off,spot⟩:=a
  obtain rfl:spot=none:=xQ
  obtain rfl:m=cap:=by simpa using Nn
  rw [aS] at yN
  obtain ⟨arr,te,fz,Aw⟩:∃arr te fz,w.heap[blk]?=some (.cells arr te fz):=by
   unfold World.shape? at jy
   split at jy
   ·rename_i c el fz hh;exact ⟨c,el,fz,hh⟩
   ·cases jy
  have dT:∀i,i < m→∃u,arr[off + i]?=some u∧DataW.trod enc P w base (fun _=>true) true n s [u]=some (D i,Pl i):=fun i hi=>by
   obtain ⟨cs,h1,h2⟩:=yN i hi
   obtain ⟨p1,p2⟩:=mapM_cells h1
   match cs,p1 with
   | [u],_=>
    have h3:=p2 0 (by omega)
    refine ⟨u,?_,h2⟩
    rw [Go.WideShapes.add_plain,Go.WideShapes.add_plain] at h3
    unfold World.cell? at h3
    rw [Aw] at h3
    simpa using h3
  obtain ⟨vs,Cn,IN⟩:∃vs:List Value,vs.length=len∧∀i u,vs[i]?=some u→arr[off + i]?=some u∧∃fuel x,DataW.trod enc P w base (fun _=>true) true fuel s [u]=some x∧xZ x.1 B:=by
   have:∀k,k≤len→∃vs:List Value,vs.length=k∧∀i u,vs[i]?=some u→arr[off + i]?=some u∧∃fuel x,DataW.trod enc P w base (fun _=>true) true fuel s [u]=some x∧xZ x.1 B:=by
    intro k
    induction k with
    | zero=>intro _;exact ⟨[],rfl,fun i u h=>by simp at h⟩
    | succ k ih=>
     intro hk
     obtain ⟨vs,h1,h2⟩:=ih (by omega)
     obtain ⟨u,g1,g2⟩:=dT k (by omega)
     refine ⟨vs++[u],by simp [h1],fun i y hy=>?_⟩
     by_cases hi:i < k
     ·rw [List.getElem?_append_left (by omega)] at hy
      exact h2 i y hy
     ·have bR:=(List.getElem?_eq_some_iff.1 hy).1
      simp at bR
      obtain rfl:i=k:=by omega
      rw [List.getElem?_append_right (by omega),h1] at hy
      simp at hy
      subst hy
      exact ⟨g1,_,_,g2,hBD _ (by omega)⟩
   exact this len (Nat.le_refl _)
  obtain ⟨ρ1,H1,aY,us,ls,e1,r1,n1,s1,w1,q1,qB,q2⟩:=FF (B:=B) hs hz sx hlen lO hE vs (fun v hm=>by
   obtain ⟨i,hi⟩:=List.getElem?_of_mem hm
   exact (IN i v hi).2) j9
  have yO:us.length=len:=by rw [← w1.length,Cn]
  have po:Kv ρ1 w.heap ⟨blk,off,arr.size⟩ us:=⟨arr,te,fz,Aw,rfl,fun i u hu=>by
   obtain ⟨v',g1,g2⟩:=w1.get hu
   exact ⟨v',(IN i v' g1).1,g2⟩⟩
  have Fu:m=0∨off + m * 1≤arr.size:=by
   by_cases h0:m=0
   ·exact .inl h0
   ·right
    obtain ⟨u,g1,_⟩:=dT (m - 1) (by omega)
    have:=(Array.getElem?_eq_some_iff.1 g1).1
    omega
  have Dt:m≤ei:=by unfold maxLen at hm;unfold ei;omega
  have dk:an H1 (bB (at_ aY) H1 (some (.ro us))) aY:=fun b hb=>aR _ _ _ _ (fun e=>by have:=ea e;omega)
  have zD:=Np us
  refine ⟨ρ1.with aY ⟨blk,off,arr.size⟩,_,aY + 1,.slice (some ⟨aY,0,some 1⟩) us.length (2 * len),ls,e1.trans (r1.hr.eO _),r1.add po,by omega,s1.trans dk n1,?_,⟨us,q1,.pre (rest:=[]) (.inr (by rw [List.append_nil,zD];exact bp _ _ _)) (by omega) (by rw [dD];omega) (fun _=>rfl),fun i u l hu hl=>((q2 i u l hu hl).same dk).up (Nat.le_succ _)⟩,by omega,qB⟩
  rw [yO]
  exact .sl (bA.dN _ _ _) ⟨hl,Dt⟩ (by rw [dD];exact hl) (fun e=>by rw [kI] at e;cases e) (Fu.imp id fun h=>⟨rfl,h⟩)
end
end Go.Eng

namespace Go.Eng
theorem V6 {P:Prop} (h:P:=by (with_reducible (first|exact Rd.self|assumption|exact Rd.own (by assumption)|((repeat ((apply Rd.skip);(with_unfolding_all omega)));first|exact Rd.self|assumption|exact Rd.own (by assumption))))):P:=h
theorem gtP {P:Prop} (h:P:=by (with_reducible (first|exact aw|assumption|((repeat ((apply cy);(with_unfolding_all omega)));first|exact aw|assumption)))):P:=h
theorem arP {P:Prop} (h:P:=by (unfold qH;(try simp only [Int.ofNat_eq_natCast]);omega)):P:=h
theorem szP {P:Prop} (h:P:=by (first|omega|decide|(simp only [List.length_map,List.length_append,List.length_set,List.length_cons,List.length_nil,List.length_replicate,List.length_range];omega))):P:=h
theorem aN {a b:aP} (h:aT a b:=by (repeat (first|exact aT.nil _|refine aT.cons rfl ?_))):aT a b:=h
section
variable {A:aG} {H H':Heap} {nx nx':Nat} {σ:aP} {L:List Value} {op:bG Od} {v:Value} {K:Value→Heap→Nat→Prop} {P:Prop} {d:Decidable P}
theorem aK (k:K v H' nx') (h:Act A op σ L H nx v H' nx':=by exact Act.ae rfl):aM A op σ L H nx K:=aM.of h k
theorem AA (k:K v H' nx') (h:Act A op σ L H nx v H' nx':=by exact Act.ext rfl rfl):aM A op σ L H nx K:=aM.of h k
theorem wa2 (k:K v H' nx') (h:Act A op σ L H nx v H' nx':=by exact Act.uY rfl rfl):aM A op σ L H nx K:=aM.of h k
theorem cI (k:K v H' nx') (h:Act A op σ L H nx v H' nx':=by exact Act.ar rfl):aM A op σ L H nx K:=aM.of h k
theorem cH (k:K v H' nx') (h:Act A op σ L H nx v H' nx':=by exact Act.len rfl):aM A op σ L H nx K:=aM.of h k
theorem rH (k:K v H' nx') (h:Act A op σ L H nx v H' nx':=by exact Act.not rfl):aM A op σ L H nx K:=aM.of h k
theorem jL (k:K v H' nx') (h:Act A op σ L H nx v H' nx':=by exact Act.box rfl):aM A op σ L H nx K:=aM.of h k
theorem uw (k:K v H' nx') (h:Act A op σ L H nx v H' nx':=by exact Act.eX):aM A op σ L H nx K:=aM.of h k
theorem FG (k:K v H' nx') (h:Act A op σ L H nx v H' nx':=by exact Act.fR rfl rfl):aM A op σ L H nx K:=aM.of h k
theorem fX (k:K v H' nx') (h:Act A op σ L H nx v H' nx':=by exact Act.pick rfl rfl rfl):aM A op σ L H nx K:=aM.of h k
theorem aJ (k:K v H' nx') (h:Act A op σ L H nx v H' nx':=by exact Act.ah rfl V6 rfl):aM A op σ L H nx K:=aM.of h k
theorem bj (k:K v H' nx') (h:Act A op σ L H nx v H' nx':=by exact Act.ah rfl V6 (jx (by assumption))):aM A op σ L H nx K:=aM.of h k
theorem IT (k:K v H' nx') (h:Act A op σ L H nx v H' nx':=by exact Act.ah rfl V6 (Cm (by assumption))):aM A op σ L H nx K:=aM.of h k
theorem aZ (k:K v H' nx') (h:Act A op σ L H nx v H' nx':=by exact Act.aB rfl rfl (by omega)):aM A op σ L H nx K:=aM.of h k
theorem ux (k:K v H' nx') (h:Act A op σ L H nx v H' nx':=by exact Act.kl rfl rfl (by omega)):aM A op σ L H nx K:=aM.of h k
theorem iu (k:K v H' nx') (h:Act A op σ L H nx v H' nx':=by exact Act.gz rfl rfl (by omega)):aM A op σ L H nx K:=aM.of h k
theorem Ya (k:K v H' nx') (h:Act A op σ L H nx v H' nx':=by exact Act.u0 rfl rfl rfl (by omega) (by omega)):aM A op σ L H nx K:=aM.of h k
theorem mI (k:K v H' nx') (h:Act A op σ L H nx v H' nx':=by exact Act.jF rfl rfl (by omega) (by unfold small;omega) (by unfold small;omega) (by omega)):aM A op σ L H nx K:=aM.of h k
theorem ep (k:K v H' nx') (h:Act A op σ L H nx v H' nx':=by exact Act.TB rfl rfl rfl rfl gtP szP):aM A op σ L H nx K:=aM.of h k
theorem iQ (k:K v H' nx') (h:Act A op σ L H nx v H' nx':=by exact Act.X1 rfl rfl rfl (by omega) rfl gtP szP):aM A op σ L H nx K:=aM.of h k
theorem TH (k:K v H' nx') (h:Act A op σ L H nx v H' nx':=by exact Act.ix rfl rfl (by omega) (jx (by assumption))):aM A op σ L H nx K:=aM.of h k
theorem dt (k1:P→K (.bool true) H nx) (k2:¬P→K (.bool false) H nx) (h:Act A op σ L H nx (.bool (decide P)) H nx:=by exact Act.lss rfl rfl):aM A op σ L H nx K:=aM.both h k1 k2
theorem TI (k1:P→K (.bool true) H nx) (k2:¬P→K (.bool false) H nx) (h:Act A op σ L H nx (.bool (decide P)) H nx:=by exact Act.leq rfl rfl):aM A op σ L H nx K:=aM.both h k1 k2
theorem Bu (k1:P→K (.bool true) H nx) (k2:¬P→K (.bool false) H nx) (h:Act A op σ L H nx (.bool (decide P)) H nx:=by exact Act.gtr rfl rfl):aM A op σ L H nx K:=aM.both h k1 k2
theorem IU (k1:P→K (.bool true) H nx) (k2:¬P→K (.bool false) H nx) (h:Act A op σ L H nx (.bool (decide P)) H nx:=by exact Act.geq rfl rfl):aM A op σ L H nx K:=aM.both h k1 k2
theorem sJ (k1:P→K (.bool true) H nx) (k2:¬P→K (.bool false) H nx) (h:Act A op σ L H nx (.bool (decide P)) H nx:=by exact Act.XT rfl rfl):aM A op σ L H nx K:=aM.both h k1 k2
theorem ke (k1:P→K (.bool true) H nx) (k2:¬P→K (.bool false) H nx) (h:Act A op σ L H nx (.bool (decide P)) H nx:=by exact Act.Tz rfl rfl):aM A op σ L H nx K:=aM.both h k1 k2
theorem ba (k:K v H' nx') (h:Act A op σ L H nx v H' nx':=by exact Act.XV rfl rfl (by omega)):aM A op σ L H nx K:=aM.of h k
theorem IV (k:K v H' nx') (h:Act A op σ L H nx v H' nx':=by exact Act.XW rfl rfl (by omega) (by omega)):aM A op σ L H nx K:=aM.of h k
theorem qN (k:K v H' nx') (h:Act A op σ L H nx v H' nx':=by exact Act.XX rfl rfl (by omega)):aM A op σ L H nx K:=aM.of h k
theorem AB (k:K v H' nx') (h:Act A op σ L H nx v H' nx':=by exact Act.XY rfl rfl (by omega) (by omega)):aM A op σ L H nx K:=aM.of h k
theorem sa (k:K v H' nx') (h:Act A op σ L H nx v H' nx':=by exact Act.XZ rfl rfl (by omega)):aM A op σ L H nx K:=aM.of h k
theorem OW (k:K v H' nx') (h:Act A op σ L H nx v H' nx':=by exact Act.Yb rfl rfl (by omega)):aM A op σ L H nx K:=aM.of h k
theorem qO (k:K v H' nx') (h:Act A op σ L H nx v H' nx':=by exact Act.add rfl rfl arP):aM A op σ L H nx K:=aM.of h k
theorem pA (k:K v H' nx') (h:Act A op σ L H nx v H' nx':=by exact Act.sub rfl rfl arP):aM A op σ L H nx K:=aM.of h k
theorem lD (k:K v H' nx') (h:Act A op σ L H nx v H' nx':=by exact Act.aj rfl):aM A op σ L H nx K:=aM.of h k
theorem TJ (k:K v H' nx') (h:Act A op σ L H nx v H' nx':=by exact Act.dP rfl rfl rfl rfl rfl):aM A op σ L H nx K:=aM.of h k
theorem OX (k:K v H' nx') (h:Act A op σ L H nx v H' nx':=by exact Act.min2 rfl rfl):aM A op σ L H nx K:=aM.of h k
theorem TK (k:K v H' nx') (h:Act A op σ L H nx v H' nx':=by exact Act.max2 rfl rfl):aM A op σ L H nx K:=aM.of h k
end
end Go.Eng
