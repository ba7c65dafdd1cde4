import Derived.Test.YtlffogombmhmfaaGreatEd
import Derived.Deep.Slices
/- An interpreter of the model's code that follows one order and is proved right for all: part 5. -/

namespace Go.Eng
variable {ρ:bB} {H:Heap} {nx:Nat} {hp:Array Obj}
structure Ro (ρ:bB) (H:Heap) (nx:Nat) (hp:Array Obj):Prop where
 hr:HR ρ H nx hp
 ro:∀b k,ak H (at_ b)=some k→k.ig=false
theorem Ro.empty (hp:Array Obj):Ro (fun _=>none) .e 0 hp:=⟨⟨(fun b k hb=>by cases hb),(fun b b' k k' s s' hb=>by cases hb),fun _ _=>rfl⟩,fun b k hb=>by cases hb⟩
theorem Ro.up (h:Ro ρ H nx hp):Ro ρ H (nx + 1) hp:=⟨⟨h.hr.blk,h.hr.inj,fun b hb=>h.hr.new b (by omega)⟩,h.ro⟩
theorem LJ.mono {ρ ρ':bB} {r:Ref} {cs:List Value} (e:Ext ρ ρ') (h:LJ ρ hp r cs):LJ ρ' hp r cs:=
 let ⟨a,t,f,h1,h2,h3⟩:=h
 ⟨a,t,f,h1,h2,fun i v hv=>let ⟨v',g,hr⟩:=h3 i v hv;⟨v',g,hr.mono e⟩⟩
theorem Ro.add (h:Ro ρ H nx hp) {r:Ref} {cs:List Value} (hr:LJ ρ hp r cs):Ro (ρ.with nx r) (bD (at_ nx) H (some (.ro cs))) (nx + 1) hp:=by
 have ext:=h.hr.eM r
 have j5:∀b x,ak (bD (at_ nx) H (some (.ro cs))) (at_ b)=some x→(b=nx∧x=.ro cs)∨(b≠nx∧ak H (at_ b)=some x):=by
  intro b x hb
  by_cases e:at_ b=at_ nx
  ·rw [e,bk] at hb
   exact .inl ⟨dO e,by simpa using hb.symm⟩
  ·rw [aO _ _ _ _ e] at hb
   exact .inr ⟨fun e'=>e (by rw [e']),hb⟩
 have j7:∀b k,ak (bD (at_ nx) H (some (.ro cs))) (at_ b)=some k→k.ig=false:=by
  intro b k hb
  rcases j5 b k hb with ⟨_,rfl⟩|⟨_,hb⟩
  ·rfl
  ·exact h.ro b k hb
 refine ⟨⟨fun b x hb=>?_,fun b c x y s t hb hc hm=>?_,fun b hb=>?_⟩,j7⟩
 ·rcases j5 b x hb with ⟨rfl,rfl⟩|⟨cy,hb⟩
  ·exact ⟨r,bB.dF _ _ _,hr.mono ext⟩
  ·obtain ⟨s,hs,vA⟩:=h.hr.blk b x hb
   exact ⟨s,ext b s hs,vA.mono ext⟩
 ·rw [j7 b x hb] at hm;cases hm
 ·rw [bB.fP _ _ (by omega)]
  exact h.hr.new b (by omega)
section
variable {X:Type} {enc:TypeId×Value→X} {P:Program} {w:World} {base:Nat}
theorem mapM_cells {w:World} {a:Addr} {n:Nat} {cs:List Value} (h:w.cells? base a n=some cs):cs.length=n∧∀i,i < n→w.cell? (a.add i)=cs[i]?:=by
 unfold World.cells? at h
 split at h
 ·exact ⟨by simpa using mapM_some_length h,fun i hi=>mapM_some_get h i i (by simp [hi])⟩
 ·cases h
theorem tZ {α:Type} {encα:α→List Value} {z fuel:Nat} {t e:TypeId} {v:Value} {x:DataW X×List MemPlace} (ht:P.underlying t=some (.slice e)) (hz:P.cellsOf e=z) (ri:0 < z) (hlen:∀a,(encα a).length=z) (lE:∀a,(encα a).all scalar=true)
  (hE:∀fuel c y,DataW.trod enc P w base (fun _=>true) true fuel e c=some y→∃a,c=encα a) (MP:∀a len cap,v=.slice (some a) len cap→a.spot=none∧∃row cells,w.shape? a.block=some (row,cells))
  (hd:DataW.trod enc P w base (fun _=>true) true fuel t [v]=some x) (j7:Ro ρ H nx w.heap) :
  ∃ρ' H' av,∃xs:List α,Ext ρ ρ'∧Ro ρ' H' (nx + 1) w.heap∧an H H' nx∧VR ρ' av v∧bS H' (nx + 1) z encα av xs:=by
 rcases Deep.open_slice ht hd with ⟨h,_⟩|⟨a,len,cap,m,n,D,Pl,h,_,hl,hm,On,_,A4⟩
 ·obtain rfl:v=.slice none 0 0:=by simpa using h
  exact ⟨ρ,H,.slice none 0 0,[],.refl ρ,j7.up,.refl,.jL,.nil⟩
 ·obtain rfl:v=.slice (some a) len cap:=by simpa using h
  obtain ⟨ym,row,cells,jB⟩:=MP a len cap rfl
  obtain ⟨blk,off,spot⟩:=a
  obtain rfl:spot=none:=ym
  obtain rfl:m=cap:=by simpa using On
  rw [hz] at A4
  have oD:∀i,i < m→∃a,w.cells? base ((⟨blk,off,none⟩:Addr).add (i * z)) z=some (encα a):=fun i hi=>by
   obtain ⟨cs,h1,h2⟩:=A4 i hi
   obtain ⟨a,rfl⟩:=hE _ _ _ h2
   exact ⟨a,h1⟩
  have Zj:∃arr te fz,w.heap[blk]?=some (.cells arr te fz):=by
   unfold World.shape? at jB
   split at jB
   ·rename_i c el fz hh;exact ⟨c,el,fz,hh⟩
   ·cases jB
  obtain ⟨arr,te,fz,A5⟩:=Zj
  have bC:∀o v,w.cell? ⟨blk,o,none⟩=some v→arr[o]?=some v:=fun o v hv=>by
   unfold World.cell? at hv
   rw [A5] at hv
   simpa using hv
  have ij:∀i,i < m→∃a,∀j,j < z→arr[off + i * z + j]?=(encα a)[j]?:=fun i hi=>by
   obtain ⟨a,ha⟩:=oD i hi
   refine ⟨a,fun j hj=>?_⟩
   have h1:=(mapM_cells ha).2 j hj
   obtain ⟨u,h2⟩:∃u,(encα a)[j]?=some u:=⟨_,List.getElem?_eq_getElem (by rw [hlen];exact hj)⟩
   rw [h2,Go.WideShapes.add_plain,Go.WideShapes.add_plain] at h1
   rw [h2]
   exact bC _ _ h1
  have Ul:∀k,k≤len→∃xs:List α,xs.length=k∧∀i a,xs[i]?=some a→∀j,j < z→arr[off + i * z + j]?=(encα a)[j]?:=by
   intro k
   induction k with
   | zero=>intro _;exact ⟨[],rfl,fun i a h=>by simp at h⟩
   | succ k ih=>
    intro hk
    obtain ⟨xs,h1,h2⟩:=ih (by omega)
    obtain ⟨a,ha⟩:=ij k (by omega)
    refine ⟨xs++[a],by simp [h1],fun i b hb=>?_⟩
    by_cases hi:i < k
    ·rw [List.getElem?_append_left (by omega)] at hb
     exact h2 i b hb
    ·have cf:=(List.getElem?_eq_some_iff.1 hb).1
     simp at cf
     obtain rfl:i=k:=by omega
     rw [List.getElem?_append_right (by omega),h1] at hb
     simp at hb
     subst hb
     exact ha
  obtain ⟨xs,hx1,hx2⟩:=Ul len (Nat.le_refl _)
  have Oo:∀i v,(xs.flatMap encα)[i]?=some v→arr[off + i]?=some v∧scalar v=true:=by
   intro i v hv
   have hi:=(List.getElem?_eq_some_iff.1 hv).1
   have B0:(xs.flatMap encα).length=xs.length * z:=by
    clear hv hi hx2 hx1
    induction xs with
    | nil=>simp
    | cons y ys ih=>rw [List.flatMap_cons,List.length_append,hlen,ih,List.length_cons,Nat.succ_mul];omega
   have hq:i / z < xs.length:=by
    rw [Nat.div_lt_iff_lt_mul ri];omega
   obtain ⟨l,r,p1,p2⟩:=EJ hlen xs (i / z) _ (List.getElem?_eq_getElem hq)
   have A6:=Nat.mod_lt i ri
   have hdm:=Nat.div_add_mod i z
   rw [Nat.mul_comm] at hdm
   have h3:(xs.flatMap encα)[i]?=(encα xs[i / z])[i % z]?:=by
    rw [p1,List.append_assoc,List.getElem?_append_right (by omega),p2,List.getElem?_append_left (by rw [hlen];omega)]
    congr 1;omega
   have h4:=hx2 (i / z) _ (List.getElem?_eq_getElem hq) (i % z) A6
   rw [← h3,hv] at h4
   refine ⟨by rw [← h4];congr 1;omega,?_⟩
   rw [hv] at h3
   exact List.all_eq_true.1 (lE _) v (List.mem_of_getElem? h3.symm)
  have jJ:LJ ρ w.heap ⟨blk,off,arr.size⟩ (xs.flatMap encα):=⟨arr,te,fz,A5,rfl,fun i v hv=>⟨v,(Oo i v hv).1,.sc (Oo i v hv).2⟩⟩
  have C3:m=0∨off + m * z≤arr.size:=by
   by_cases h0:m=0
   ·exact .inl h0
   ·right
    obtain ⟨a,ha⟩:=ij (m - 1) (by omega)
    have:=ha (z - 1) (by omega)
    rw [List.getElem?_eq_getElem (by rw [hlen];omega)] at this
    have cf:=(Array.getElem?_eq_some_iff.1 this).1
    have:(m - 1) * z + z=m * z:=by rw [← Nat.succ_mul];congr 1;omega
    omega
  have Ek:m≤dA:=by unfold maxLen at hm;unfold dA;omega
  have nV:ak (bD (at_ nx) H (some (.ro (xs.flatMap encα)))) (at_ nx)=some (.ro (xs.flatMap encα)):=bk _ _ _
  refine ⟨ρ.with nx ⟨blk,off,arr.size⟩,_,.slice (some ⟨nx,0,some z⟩) xs.length (2 * len),xs,j7.hr.eM _,j7.add jJ,fun b hb=>aO _ _ _ _ (fun e=>by have:=dO e;omega),?_,.pre (rest:=[]) (.inr (by rw [List.append_nil];exact nV)) (by omega) (by rw [bK];omega) hlen⟩
  rw [hx1]
  exact .sl (bB.dF _ _ _) ⟨hl,Ek⟩ (by rw [bK];exact hl) (fun e=>by rw [kH] at e;cases e) (C3.imp id fun h=>⟨rfl,h⟩)
end
end Go.Eng

namespace Go.Eng
variable {ρ:bB} {H H':Heap} {nx nx':Nat} {hp:Array Obj}
def Gr (u:Value):List Value:=[u]
theorem Oq (us:List Value):us.flatMap Gr=us:=by
 induction us with
 | nil=>rfl
 | cons u us ih=>rw [List.flatMap_cons,ih];rfl
def eY {α:Type} (H:Heap) (nx z:Nat) (enc:α→List Value) (v:Value) (ls:List (List α)):Prop:=
 ∃us:List Value,us.length=ls.length∧bS H nx 1 Gr v us∧∀(i:Nat) (u:Value) (l:List α),us[i]?=some u→ls[i]?=some l→bS H nx z enc u l
theorem eY.same {α:Type} {z:Nat} {enc:α→List Value} {v:Value} {ls:List (List α)} (h:eY H nx z enc v ls) (hs:an H H' nx):eY H' nx z enc v ls:=
 let ⟨us,h1,h2,h3⟩:=h
 ⟨us,h1,h2.same hs,fun i u l hu hl=>(h3 i u l hu hl).same hs⟩
theorem eY.up {α:Type} {z:Nat} {enc:α→List Value} {v:Value} {ls:List (List α)} (h:eY H nx z enc v ls) (hn:nx≤nx'):eY H nx' z enc v ls:=
 let ⟨us,h1,h2,h3⟩:=h
 ⟨us,h1,h2.up hn,fun i u l hu hl=>(h3 i u l hu hl).up hn⟩
theorem eY.form {α:Type} {z:Nat} {enc:α→List Value} {v:Value} {ls:List (List α)} (h:eY H nx z enc v ls):∃base c,v=.slice base ls.length c:=by
 obtain ⟨us,h1,h2,_⟩:=h
 obtain ⟨b,c,h4⟩:=h2.form
 exact ⟨b,c,by rw [← h1];exact h4⟩
theorem eY.at {α:Type} {z:Nat} {enc:α→List Value} {base:Option Addr} {n c:Nat} {ls:List (List α)} (h:eY H nx z enc (.slice base n c) ls) {i:Nat} (hi:i < ls.length) :
  ∃b o cs ib ic,base=some ⟨b,o,some 1⟩∧b < nx∧Rd H b cs∧cs[o + i * 1]?=some (.slice ib (ls[i]).length ic)∧bS H nx z enc (.slice ib (ls[i]).length ic) ls[i]:=by
 obtain ⟨us,h1,h2,h3⟩:=h
 have cy:us≠[]:=by intro e;rw [e] at h1;simp at h1;omega
 obtain ⟨b,o,cs,rfl,g1,g2,g3,g4,g5⟩:=h2.at cy
 have hu:us[i]?=some us[i]:=List.getElem?_eq_getElem (by omega)
 have hs:=h3 i _ _ hu (List.getElem?_eq_getElem hi)
 obtain ⟨ib,ic,he⟩:=hs.form
 have hc:=ft (v:=us[i]) (g5 i _ hu)
 rw [he] at hc hs
 exact ⟨b,o,cs,ib,ic,rfl,g1,g4,hc,hs⟩
section
variable {X:Type} {enc:TypeId×Value→X} {P:Program} {w:World} {base:Nat}
theorem ud {α:Type} {encα:α→List Value} {z fuel:Nat} {t e:TypeId} {v:Value} {x:DataW X×List MemPlace} (ht:P.underlying t=some (.slice e)) (hz:P.cellsOf e=z) (ri:0 < z) (hlen:∀a,(encα a).length=z) (lE:∀a,(encα a).all scalar=true)
  (hE:∀fuel c y,DataW.trod enc P w base (fun _=>true) true fuel e c=some y→∃a,c=encα a)
  (hd:DataW.trod enc P w base (fun _=>true) true fuel t [v]=some x) (j7:Ro ρ H nx w.heap) :
  ∃ρ' H' av,∃xs:List α,Ext ρ ρ'∧Ro ρ' H' (nx + 1) w.heap∧an H H' nx∧VR ρ' av v∧bS H' (nx + 1) z encα av xs:=by
 rcases Deep.open_slice ht hd with ⟨h,_⟩|⟨a,len,cap,m,n,D,Pl,h,_,hl,hm,On,_,A4⟩
 ·obtain rfl:v=.slice none 0 0:=by simpa using h
  exact ⟨ρ,H,.slice none 0 0,[],.refl ρ,j7.up,.refl,.jL,.nil⟩
 ·obtain rfl:v=.slice (some a) len cap:=by simpa using h
  by_cases h0:cap=0
  ·subst h0
   obtain rfl:len=0:=by omega
   exact ⟨ρ,H,_,[],.refl ρ,j7.up,.refl,.Ef,⟨_,_,rfl,fun e=>(by cases e),fun a ha=>(by cases ha;exact .inl ⟨rfl,rfl,rfl⟩)⟩⟩
  ·have HB:m=cap:=by simpa using On
   obtain ⟨cs,h1,h2⟩:=A4 0 (by omega)
   obtain ⟨a0,rfl⟩:=hE _ _ _ h2
   have hc:=(mapM_cells h1).2 0 (by rw [hz];exact ri)
   have Zk:∃u,(encα a0)[0]?=some u:=⟨_,List.getElem?_eq_getElem (by rw [hlen];exact ri)⟩
   obtain ⟨u,hu⟩:=Zk
   rw [hu] at hc
   have ym:a.spot=none∧∃row cells,w.shape? a.block=some (row,cells):=by
    obtain ⟨blk,off,spot⟩:=a
    unfold World.cell? at hc
    split at hc
    ·rename_i c el fz hh
     cases spot with
     | some q=>simp [Addr.add] at hc
     | none=>
      have PO:w.heap[blk]?=some (.cells c el fz):=by simpa [Addr.add] using hh
      exact ⟨rfl,el,c.size,by unfold World.shape?;simp only [PO]⟩
    ·cases hc
   obtain ⟨ρ',H',av,xs,g1,g2,g3,g4,g5⟩:=tZ ht hz ri hlen lE hE (fun a' abA abB hv=>by cases hv;exact ym) hd j7
   exact ⟨ρ',H',av,xs,g1,g2,g3,g4,g5⟩
theorem Jz {α:Type} {encα:α→List Value} {z:Nat} {t e:TypeId} (ht:P.underlying t=some (.slice e)) (hz:P.cellsOf e=z) (ri:0 < z) (hlen:∀a,(encα a).length=z) (lE:∀a,(encα a).all scalar=true)
  (hE:∀fuel c y,DataW.trod enc P w base (fun _=>true) true fuel e c=some y→∃a,c=encα a):∀(vs:List Value),(∀v∈vs,∃fuel x,DataW.trod enc P w base (fun _=>true) true fuel t [v]=some x)→∀{ρ:bB} {H:Heap} {nx:Nat},Ro ρ H nx w.heap→
  ∃ρ' H' nx',∃us:List Value,∃ls:List (List α),Ext ρ ρ'∧Ro ρ' H' nx' w.heap∧nx≤nx'∧an H H' nx∧cL ρ' us vs∧us.length=ls.length∧∀(i:Nat) (u:Value) (l:List α),us[i]?=some u→ls[i]?=some l→bS H' nx' z encα u l:=by
 intro vs
 induction vs with
 | nil=>intro _ ρ H nx j7;exact ⟨ρ,H,nx,[],[],.refl ρ,j7,Nat.le_refl _,.refl,.nil,rfl,fun i u l hu=>by simp at hu⟩
 | cons v vs ih=>
  intro hv ρ H nx j7
  obtain ⟨fuel,x,hd⟩:=hv v List.mem_cons_self
  obtain ⟨ρ1,H1,av,xs,e1,r1,s1,v1,l1⟩:=ud ht hz ri hlen lE hE hd j7
  obtain ⟨ρ2,H2,nx2,us,ls,e2,r2,n2,s2,v2,q1,q2⟩:=ih (fun v hm=>hv v (List.mem_cons_of_mem _ hm)) r1
  refine ⟨ρ2,H2,nx2,av::us,xs::ls,e1.trans e2,r2,by omega,s1.trans s2 (Nat.le_succ _),.cons (v1.mono e2) v2,by simp [q1],fun i u l hu hl=>?_⟩
  cases i with
  | zero=>
   simp at hu hl
   subst hu;subst hl
   exact (l1.same s2).up n2
  | succ i=>exact q2 i u l (by simpa using hu) (by simpa using hl)
theorem Ot {α:Type} {encα:α→List Value} {z fuel:Nat} {t s e:TypeId} {v:Value} {x:DataW X×List MemPlace} (ht:P.underlying t=some (.slice s)) (hs:P.underlying s=some (.slice e)) (a7:P.cellsOf s=1) (hz:P.cellsOf e=z) (ri:0 < z) (hlen:∀a,(encα a).length=z) (lE:∀a,(encα a).all scalar=true)
  (hE:∀fuel c y,DataW.trod enc P w base (fun _=>true) true fuel e c=some y→∃a,c=encα a) (MP:∀a len cap,v=.slice (some a) len cap→a.spot=none∧∃row cells,w.shape? a.block=some (row,cells))
  (hd:DataW.trod enc P w base (fun _=>true) true fuel t [v]=some x) (j7:Ro ρ H nx w.heap) :
  ∃ρ' H' nx' av,∃ls:List (List α),Ext ρ ρ'∧Ro ρ' H' nx' w.heap∧nx≤nx'∧an H H' nx∧VR ρ' av v∧eY H' nx' z encα av ls:=by
 rcases Deep.open_slice ht hd with ⟨h,_⟩|⟨a,len,cap,m,n,D,Pl,h,_,hl,hm,On,_,A4⟩
 ·obtain rfl:v=.slice none 0 0:=by simpa using h
  exact ⟨ρ,H,nx,.slice none 0 0,[],.refl ρ,j7,Nat.le_refl _,.refl,.jL,[],rfl,.nil,fun i u l hu=>by simp at hu⟩
 ·obtain rfl:v=.slice (some a) len cap:=by simpa using h
  obtain ⟨ym,row,cells,jB⟩:=MP a len cap rfl
  obtain ⟨blk,off,spot⟩:=a
  obtain rfl:spot=none:=ym
  obtain rfl:m=cap:=by simpa using On
  rw [a7] at A4
  obtain ⟨arr,te,fz,A5⟩:∃arr te fz,w.heap[blk]?=some (.cells arr te fz):=by
   unfold World.shape? at jB
   split at jB
   ·rename_i c el fz hh;exact ⟨c,el,fz,hh⟩
   ·cases jB
  have bC:∀i,i < m→∃u,arr[off + i]?=some u∧DataW.trod enc P w base (fun _=>true) true n s [u]=some (D i,Pl i):=fun i hi=>by
   obtain ⟨cs,h1,h2⟩:=A4 i hi
   obtain ⟨p1,p2⟩:=mapM_cells h1
   match cs,p1 with
   | [u],_=>
    have h3:=p2 0 (by omega)
    refine ⟨u,?_,h2⟩
    rw [Go.WideShapes.add_plain,Go.WideShapes.add_plain] at h3
    unfold World.cell? at h3
    rw [A5] at h3
    simpa using h3
  obtain ⟨vs,yt,JA⟩:∃vs:List Value,vs.length=len∧∀i u,vs[i]?=some u→arr[off + i]?=some u∧∃fuel x,DataW.trod enc P w base (fun _=>true) true fuel s [u]=some x:=by
   have:∀k,k≤len→∃vs:List Value,vs.length=k∧∀i u,vs[i]?=some u→arr[off + i]?=some u∧∃fuel x,DataW.trod enc P w base (fun _=>true) true fuel s [u]=some x:=by
    intro k
    induction k with
    | zero=>intro _;exact ⟨[],rfl,fun i u h=>by simp at h⟩
    | succ k ih=>
     intro hk
     obtain ⟨vs,h1,h2⟩:=ih (by omega)
     obtain ⟨u,g1,g2⟩:=bC k (by omega)
     refine ⟨vs++[u],by simp [h1],fun i y hy=>?_⟩
     by_cases hi:i < k
     ·rw [List.getElem?_append_left (by omega)] at hy
      exact h2 i y hy
     ·have cf:=(List.getElem?_eq_some_iff.1 hy).1
      simp at cf
      obtain rfl:i=k:=by omega
      rw [List.getElem?_append_right (by omega),h1] at hy
      simp at hy
      subst hy
      exact ⟨g1,_,_,g2⟩
   exact this len (Nat.le_refl _)
  obtain ⟨ρ1,H1,aT,us,ls,e1,r1,n1,s1,w1,q1,q2⟩:=Jz hs hz ri hlen lE hE vs (fun v hm=>by
   obtain ⟨i,hi⟩:=List.getElem?_of_mem hm
   exact (JA i v hi).2) j7
  have kI:us.length=len:=by rw [← w1.length,yt]
  have jJ:LJ ρ1 w.heap ⟨blk,off,arr.size⟩ us:=⟨arr,te,fz,A5,rfl,fun i u hu=>by
   obtain ⟨v',g1,g2⟩:=w1.get hu
   exact ⟨v',(JA i v' g1).1,g2⟩⟩
  have C3:m=0∨off + m * 1≤arr.size:=by
   by_cases h0:m=0
   ·exact .inl h0
   ·right
    obtain ⟨u,g1,_⟩:=bC (m - 1) (by omega)
    have:=(Array.getElem?_eq_some_iff.1 g1).1
    omega
  have Ek:m≤dA:=by unfold maxLen at hm;unfold dA;omega
  have cZ:an H1 (bD (at_ aT) H1 (some (.ro us))) aT:=fun b hb=>aO _ _ _ _ (fun e=>by have:=dO e;omega)
  have B0:=Oq us
  refine ⟨ρ1.with aT ⟨blk,off,arr.size⟩,_,aT + 1,.slice (some ⟨aT,0,some 1⟩) us.length (2 * len),ls,e1.trans (r1.hr.eM _),r1.add jJ,by omega,s1.trans cZ n1,?_,us,q1,.pre (rest:=[]) (.inr (by rw [List.append_nil,B0];exact bk _ _ _)) (by omega) (by rw [bK];omega) (fun _=>rfl),fun i u l hu hl=>((q2 i u l hu hl).same cZ).up (Nat.le_succ _)⟩
  rw [kI]
  exact .sl (bB.dF _ _ _) ⟨hl,Ek⟩ (by rw [bK];exact hl) (fun e=>by rw [kH] at e;cases e) (C3.imp id fun h=>⟨rfl,h⟩)
end
end Go.Eng

namespace Go.Eng
variable {P:Program} {ins:List Nat} {A:aG} {ρ:bB} {H:Heap} {nx:Nat} {hp:Array Obj}
theorem cO.refined (hA:zw P ins A) {g:FuncId} {vs:List Value} {v:Value} (np:er P g) (hv:scalar v=true)
  (h:∀(ρ:bB) (us:List Value) (w:World),cL ρ vs us→HR ρ H nx w.heap→∃C4 H2,cL ρ C4 us∧HR ρ H2 nx w.heap∧(∀k,jM ρ H2 k→jM ρ H k)∧WF A g C4 H2 nx fun v' _ _=>v'=v):cO P g vs H nx (.ok v .e nx):=by
 refine ⟨np,Nat.le_refl _,fun ρ us w j6 hH=>?_⟩
 obtain ⟨C4,H2,g1,g2,g3,g4⟩:=h ρ us w j6 hH
 obtain ⟨m,v',H',nx',eN,rfl⟩:=g4.out
 refine (((tS hA m).1 g C4 H2 _ _ eN).2 ρ us w g1 g2).mono fun e w' hr=>?_
 obtain ⟨u,ρ',q1,q2,q3⟩:=hr
 refine ⟨u,ρ,q1,?_,⟨⟨(fun b k hb=>by cases hb),(fun b b' k k' s s' hb=>by cases hb),hH.new⟩,⟨.refl ρ,(fun k hk=>by obtain ⟨b,x,r,hb,_⟩:=hk;cases hb),(fun b x hb=>by cases hb),(fun k hk hn=>q3.fF.frame k hk fun ho=>hn (g3 k ho)),q3.fF.size,q3.fF.os,q3.fF.tape,q3.fF.output⟩,Nat.le_refl _,fun _ _=>rfl⟩⟩
 rw [q2.dE hv]
 exact .sc hv
def yu (v u:Value):Prop:=(∀d o z n c,v=.slice (some ⟨d,o,some z⟩) n c→∃c',u=.slice (some ⟨d,o,some z⟩) n (2 * c' + 1)∧n≤c'∧c'≤dA)∧((∀d o z n c,v≠.slice (some ⟨d,o,some z⟩) n c)→u=v)
theorem cw (c:Nat):au (2 * c + 1)=c:=by
 show (2 * c + 1) / 2=c
 omega
theorem w3 (c:Nat):exact (2 * c + 1)=true:=by
 unfold exact
 have:Nat.mod (2 * c + 1) 2=1:=by
  show (2 * c + 1) % 2=1
  omega
 rw [this];rfl
theorem VR.roomy {v v':Value} (h:VR ρ v v'):∃u,yu v u∧VR ρ u v':=by
 have other:(∀d o z n c,v≠.slice (some ⟨d,o,some z⟩) n c)→∃u,yu v u∧VR ρ u v':=fun hn=>⟨v,⟨fun d o z n c e=>absurd e (hn d o z n c),fun _=>rfl⟩,h⟩
 cases h with
 | @sl b o z len c p c' r hs hl lE he hp=>
  refine ⟨.slice (some ⟨b,o,some z⟩) len (2 * c' + 1),⟨fun d o' z' n c2 e=>?_,fun hn=>absurd rfl (hn _ _ _ _ _)⟩,.sl hs hl (by rw [cw];exact Nat.le_refl _) (fun _=>(cw _).symm) hp⟩
  cases e
  exact ⟨c',rfl,hl.1,hl.2⟩
 | sc hs=>exact other fun d o z n c e=>by subst e;simp [scalar] at hs
 | _=>exact other fun d o z n c e=>by cases e
theorem cL.roomy {vs us:List Value} (h:cL ρ vs us):∃C4:List Value,C4.length=vs.length∧(∀(i:Nat) (v u:Value),vs[i]?=some v→C4[i]?=some u→yu v u)∧cL ρ C4 us:=by
 induction vs generalizing us with
 | nil=>exact ⟨[],rfl,fun i v u hv=>by simp at hv,h⟩
 | cons v vs ih=>
  cases h with
  | cons h hs=>
   obtain ⟨u,h1,h2⟩:=h.roomy
   obtain ⟨C4,g1,g2,g3⟩:=ih hs
   refine ⟨u::C4,by simp [g1],fun i x y hx hy=>?_,.cons h2 g3⟩
   cases i with
   | zero=>simp at hx hy;subst hx;subst hy;exact h1
   | succ i=>exact g2 i x y (by simpa using hx) (by simpa using hy)
theorem HR.roomy (h:HR ρ H nx hp) {b:Nat} {cs:List Value} (hb:ak H (at_ b)=some (.cells cs)):∃gR:List Value,gR.length=cs.length∧(∀(i:Nat) (v u:Value),cs[i]?=some v→gR[i]?=some u→yu v u)∧
  HR ρ (bD (at_ b) H (some (.cells gR))) nx hp∧∀k,jM ρ (bD (at_ b) H (some (.cells gR))) k→jM ρ H k:=by
 obtain ⟨r,hr,a,e,ha,lG,hc⟩:=h.blk b _ hb
 have j6:∃us:List Value,cL ρ cs us∧∀(i:Nat) (u:Value),us[i]?=some u→a[r.sh + i]?=some u:=by
  clear hb
  have:∀(cs:List Value) (o:Nat),(∀i v,cs[i]?=some v→∃v',a[o + i]?=some v'∧VR ρ v v')→∃us:List Value,cL ρ cs us∧∀(i:Nat) (u:Value),us[i]?=some u→a[o + i]?=some u:=by
   intro cs
   induction cs with
   | nil=>intro o _;exact ⟨[],.nil,fun i u hu=>by simp at hu⟩
   | cons v cs ih=>
    intro o hc
    obtain ⟨v',h1,h2⟩:=hc 0 v rfl
    obtain ⟨us,g1,g2⟩:=ih (o + 1) (fun i x hx=>by
     obtain ⟨x',q1,q2⟩:=hc (i + 1) x (by simpa using hx)
     exact ⟨x',by rw [← q1];congr 1;omega,q2⟩)
    refine ⟨v'::us,.cons h2 g1,fun i u hu=>?_⟩
    cases i with
    | zero=>simp at hu;subst hu;exact h1
    | succ i=>
     have:=g2 i u (by simpa using hu)
     rw [← this];congr 1;omega
  exact this cs r.sh hc
 obtain ⟨us,hv,hu⟩:=j6
 obtain ⟨gR,h1,h2,h3⟩:=hv.roomy
 refine ⟨gR,h1,h2,h.write hb hr (fun _ _=>rfl) ⟨a,e,ha,lG,fun i v hi=>?_⟩,fun k hk=>jM.mc hb hk⟩
 obtain ⟨v',g1,g2⟩:=h3.get hi
 exact ⟨v',hu i v' g1,g2⟩
end Go.Eng

namespace Go.Eng
section
variable {A:aG} {H H':Heap} {nx nx':Nat} {σ:aP} {L:List Value} {Q:ct}
theorem hG {a b:Nat} (hb:b < 18446744073709551616):cd (zh a b)=some (a,b):=by
 show some (zA (Nat.add (Nat.mul a 18446744073709551616) b),wm (Nat.add (Nat.mul a 18446744073709551616) b))=_
 rw [Iz hb,IA hb]
theorem hJ {n:Nat}:cd (.int .i64 (n:Int))=some (n,n):=rfl
theorem Act.Zl {x:Od} {a:Addr} {n c:Nat} (hx:ev σ L x=some (.slice (some a) n c)) (he:exact c=false):Act A (.cap x) σ L H nx (zh (au c) 9223372036854775807) H nx:=by
 refine ⟨fun T hT k=>?_⟩
 show aS T L x (fun v=>zB v fun v=>k v H nx)=_
 rw [hT.aS hx]
 show cond (exact c) _ _=_
 rw [he];rfl
theorem Act.P9 {x:Od} {a:Addr} {n c:Nat} (hx:ev σ L x=some (.slice (some a) n c)) (he:exact c=true):Act A (.cap x) σ L H nx (.int .i64 ((au c:Nat):Int)) H nx:=by
 refine ⟨fun T hT k=>?_⟩
 show aS T L x (fun v=>zB v fun v=>k v H nx)=_
 rw [hT.aS hx]
 show cond (exact c) _ _=_
 rw [he];rfl
theorem Act.UN {x:Od} {n c:Nat} (hx:ev σ L x=some (.slice none n c)):Act A (.cap x) σ L H nx (.int .i64 ((0:Nat):Int)) H nx:=by
 refine ⟨fun T hT k=>?_⟩
 show aS T L x (fun v=>zB v fun v=>k v H nx)=_
 rw [hT.aS hx];rfl
theorem mC {P:Program} {op:BinOp} {t:TypeId} {x y v:Value} {a b c d:Nat} (hf:vn op x y=none) (hn:(flat x&&flat y)=false) (hi:(ej x||ej y)=true) (hx:cd x=some (a,b)) (hy:cd y=some (c,d)) (h:lY op a b c d=some v) (k:KV):eA P op t x y k=k v:=by
 unfold eA
 rw [hf]
 have:ko P op t x y=some v:=by
  unfold ko
  rw [hn]
  show sW op x y=_
  unfold sW
  rw [hi,hx,hy]
  exact h
 show bd (ko P op t x y) k=_
 rw [this];rfl
theorem qJ {op:BinOp} {k:Option Nat} {y:Value}:vn op (.chan k) y=none:=by cases y<;>rfl
theorem ue {op:BinOp} {k:Option Nat} {x:Value}:vn op x (.chan k)=none:=by
 unfold vn
 split<;>simp_all
section one
variable {t:TypeId} {x y:Od} {a b c d:Nat}
theorem Act.abC {op:BinOp} {v:Value} (hx:ev σ L x=some (zh a b)) (hy:ev σ L y=some (.int .i64 (c:Int))) (hb:b < 18446744073709551616) (h:lY op a b c c=some v):Act A (.bin op t x y) σ L H nx v H nx:=
 .eA hx hy (mC qJ rfl rfl (hG hb) hJ h)
theorem Act.abD {op:BinOp} {v:Value} (hx:ev σ L x=some (.int .i64 (a:Int))) (hy:ev σ L y=some (zh c d)) (hd:d < 18446744073709551616) (h:lY op a a c d=some v):Act A (.bin op t x y) σ L H nx v H nx:=
 .eA hx hy (mC ue rfl rfl hJ (hG hd) h)
theorem Act.abE {op:BinOp} {v:Value} (hx:ev σ L x=some (zh a b)) (hy:ev σ L y=some (zh c d)) (hb:b < 18446744073709551616) (hd:d < 18446744073709551616) (h:lY op a b c d=some v):Act A (.bin op t x y) σ L H nx v H nx:=
 .eA hx hy (mC qJ rfl rfl (hG hb) (hG hd) h)
end one
theorem Gs {a b c d:Nat} (h:b + d < 9223372036854775808):lY .add a b c d=some (zh (a + c) (b + d)):=by
 show (bif Nat.blt (b + d) 9223372036854775808 then _ else _)=_
 have:Nat.blt (b + d) 9223372036854775808=true:=by rw [Nat.blt_eq];exact h
 rw [this];rfl
theorem Gt {a b c d:Nat} (h:b≤c):lY .leq a b c d=some (.bool true):=by
 show (bif Nat.ble b c then _ else _)=_
 rw [Nat.ble_eq_true_of_le h];rfl
theorem Gu {a b c d:Nat} (h:d < a) (h2:c < b):lY .gtr a b c d=some (.bool true):=by
 show (bif Nat.ble b c then _ else bif Nat.blt d a then _ else _)=_
 have e1:Nat.ble b c=false:=by
  cases hb:Nat.ble b c with
  | false=>rfl
  | true=>have:=Nat.le_of_ble_eq_true hb;omega
 have e2:Nat.blt d a=true:=by rw [Nat.blt_eq];exact h
 rw [e1,e2];rfl
theorem Act.Zm {x y:Od} {vx vy:Value} {a b c d:Nat} (hx:ev σ L x=some vx) (hy:ev σ L y=some vy) (hi:(ej vx||ej vy)=true) (ha:cd vx=some (a,b)) (hb:cd vy=some (c,d)):Act A (.lM true [x,y]) σ L H nx (zh (min a c) (min b d)) H nx:=by
 refine ⟨fun T hT k=>?_⟩
 have he:tG σ L [x,y]=some [vx,vy]:=by simp [tG,hx,hy]
 show cH T L [x,y] (fun vs=>bd (vp A.P true vs) fun v=>k v H nx)=_
 rw [hT.cH he]
 have:vp A.P true [vx,vy]=some (zh (min a c) (min b d)):=by
  unfold vp
  have:p6 true [vx,vy]=some (zh (min a c) (min b d)):=by
   unfold p6
   simp only [hi,ha,hb,cond_true]
   first|done|rfl
  rw [this]
 rw [this];rfl
theorem cP {v:Value} {a b:Nat} (h:cd v=some (a,b)):(v=.int .i64 (a:Int)∧b=a)∨(ej v=true∧flat v=false∧∃k,v=.chan (some k)):=by
 unfold cd at h
 split at h
 ·cases h;exact .inl ⟨rfl,rfl⟩
 ·exact .inr ⟨rfl,rfl,_,rfl⟩
 ·cases h
theorem pz {P:Program} {op:BinOp} {t:TypeId} {x y v:Value} {a b c d:Nat} (hx:cd x=some (a,b)) (hy:cd y=some (c,d)) (hn:ej x=true∨ej y=true) (h:lY op a b c d=some v) (k:KV):eA P op t x y k=k v:=by
 rcases cP hx with ⟨rfl,rfl⟩|⟨h1,h2,q,rfl⟩
 ·rcases cP hy with ⟨rfl,rfl⟩|⟨h3,h4,q,rfl⟩
  ·rcases hn with h|h<;>cases h
  ·exact mC ue (by rw [h4];simp) (by rw [h3];simp) hx hy h k
 ·exact mC qJ (by rw [h2];rfl) (by rw [h1];rfl) hx hy h k
section Zn
variable {t:TypeId} {x y:Od} {a b c d:Nat} {vx vy:Value}
theorem Act.MQ (hx:ev σ L x=some vx) (hy:ev σ L y=some vy) (ha:cd vx=some (a,b)) (hb:cd vy=some (c,d)) (h:b + d < 9223372036854775808):∃v,cd v=some (a + c,b + d)∧Act A (.bin .add t x y) σ L H nx v H nx:=by
 by_cases hn:ej vx=true∨ej vy=true
 ·exact ⟨zh (a + c) (b + d),hG (by omega),.eA hx hy (pz ha hb hn (Gs h))⟩
 ·rcases cP ha with ⟨rfl,rfl⟩|⟨h1,_⟩
  ·rcases cP hb with ⟨rfl,rfl⟩|⟨h1,_⟩
   ·refine ⟨.int .i64 ((b + d:Nat):Int),rfl,?_⟩
    have:=Act.add (A:=A) (H:=H) (nx:=nx) (t:=t) hx hy (by unfold tW;omega)
    rwa [show ((b:Int) + (d:Int))=((b + d:Nat):Int) by omega] at this
   ·exact absurd (.inr h1) hn
  ·exact absurd (.inl h1) hn
theorem Act.Zo (hx:ev σ L x=some vx) (hy:ev σ L y=some vy) (ha:cd vx=some (a,b)) (hb:cd vy=some (c,d)) (h:d < a) (h2:c < b):Act A (.bin .gtr t x y) σ L H nx (.bool true) H nx:=by
 by_cases hn:ej vx=true∨ej vy=true
 ·exact .eA hx hy (pz ha hb hn (Gu h h2))
 ·rcases cP ha with ⟨rfl,rfl⟩|⟨h1,_⟩
  ·rcases cP hb with ⟨rfl,rfl⟩|⟨h1,_⟩
   ·have:=Act.gtr (A:=A) (H:=H) (nx:=nx) (t:=t) hx hy
    rwa [decide_eq_true (by omega)] at this
   ·exact absurd (.inr h1) hn
  ·exact absurd (.inl h1) hn
theorem C5 {a b c d:Nat} (h:b≤c):lY .gtr a b c d=some (.bool false):=by
 show (bif Nat.ble b c then _ else bif Nat.blt d a then _ else _)=_
 rw [Nat.ble_eq_true_of_le h];rfl
theorem Act.Zp (hx:ev σ L x=some vx) (hy:ev σ L y=some vy) (ha:cd vx=some (a,b)) (hb:cd vy=some (c,d)) (h:b≤c):Act A (.bin .gtr t x y) σ L H nx (.bool false) H nx:=by
 by_cases hn:ej vx=true∨ej vy=true
 ·exact .eA hx hy (pz ha hb hn (C5 h))
 ·rcases cP ha with ⟨rfl,rfl⟩|⟨h1,_⟩
  ·rcases cP hb with ⟨rfl,rfl⟩|⟨h1,_⟩
   ·have:=Act.gtr (A:=A) (H:=H) (nx:=nx) (t:=t) hx hy
    rwa [decide_eq_false (by omega)] at this
   ·exact absurd (.inr h1) hn
  ·exact absurd (.inl h1) hn
theorem Act.Zq (hx:ev σ L x=some vx) (hy:ev σ L y=some vy) (ha:cd vx=some (a,b)) (hb:cd vy=some (c,d)) (h:b≤c):Act A (.bin .leq t x y) σ L H nx (.bool true) H nx:=by
 by_cases hn:ej vx=true∨ej vy=true
 ·exact .eA hx hy (pz ha hb hn (Gt h))
 ·rcases cP ha with ⟨rfl,rfl⟩|⟨h1,_⟩
  ·rcases cP hb with ⟨rfl,rfl⟩|⟨h1,_⟩
   ·have:=Act.leq (A:=A) (H:=H) (nx:=nx) (t:=t) hx hy
    rwa [decide_eq_true (by omega)] at this
   ·exact absurd (.inr h1) hn
  ·exact absurd (.inl h1) hn
theorem Act.Qa (hx:ev σ L x=some vx) (hy:ev σ L y=some vy) (ha:cd vx=some (a,b)) (hb:cd vy=some (c,d)) (h:min b d < 18446744073709551616):∃v,cd v=some (min a c,min b d)∧Act A (.lM true [x,y]) σ L H nx v H nx:=by
 by_cases hn:(ej vx||ej vy)=true
 ·exact ⟨_,hG h,.Zm hx hy hn ha hb⟩
 ·rcases cP ha with ⟨rfl,rfl⟩|⟨h1,_⟩
  ·rcases cP hb with ⟨rfl,rfl⟩|⟨h1,_⟩
   ·refine ⟨.int .i64 ((min b d:Nat):Int),rfl,?_⟩
    have:=Act.min2 (A:=A) (H:=H) (nx:=nx) hx hy
    rwa [show (min (b:Int) (d:Int))=((min b d:Nat):Int) by omega] at this
   ·exact absurd (by rw [h1];simp) hn
  ·exact absurd (by rw [h1];rfl) hn
theorem Act.Qb {x:Od} {ad:Option Addr} {n c:Nat} (hx:ev σ L x=some (.slice ad n c)) (hc:∀e,ad=some e→au c≤9223372036854775807):∃v lo hi,cd v=some (lo,hi)∧(ad=none→lo=0∧hi=0)∧(∀e,ad=some e→lo=au c∧lo≤hi)∧hi≤9223372036854775807∧Act A (.cap x) σ L H nx v H nx:=by
 cases ad with
 | none=>exact ⟨_,0,0,rfl,fun _=>⟨rfl,rfl⟩,fun e h=>(by cases h),by omega,.UN hx⟩
 | some e=>
  have:=hc e rfl
  cases he:exact c with
  | true=>exact ⟨_,au c,au c,rfl,fun h=>(by cases h),fun _ _=>⟨rfl,Nat.le_refl _⟩,this,.P9 hx he⟩
  | false=>exact ⟨_,au c,9223372036854775807,hG (by omega),fun h=>(by cases h),fun _ _=>⟨rfl,this⟩,Nat.le_refl _,.Zl hx he⟩
section UO
variable {K:Value→Heap→Nat→Prop}
theorem aH.MQ (hx:ev σ L x=some vx) (hy:ev σ L y=some vy) (ha:cd vx=some (a,b)) (hb:cd vy=some (c,d)) (h:b + d < 9223372036854775808) (hk:∀v,cd v=some (a + c,b + d)→K v H nx):aH A (.bin .add t x y) σ L H nx K:=
 let ⟨v,h1,h2⟩:=Act.MQ (A:=A) (H:=H) (nx:=nx) (t:=t) hx hy ha hb h
 .of h2 (hk v h1)
theorem aH.Qa (hx:ev σ L x=some vx) (hy:ev σ L y=some vy) (ha:cd vx=some (a,b)) (hb:cd vy=some (c,d)) (h:min b d < 18446744073709551616) (hk:∀v,cd v=some (min a c,min b d)→K v H nx):aH A (.lM true [x,y]) σ L H nx K:=
 let ⟨v,h1,h2⟩:=Act.Qa (A:=A) (H:=H) (nx:=nx) hx hy ha hb h
 .of h2 (hk v h1)
theorem aH.Qb {ad:Option Addr} {n c:Nat} (hx:ev σ L x=some (.slice ad n c)) (hc:∀e,ad=some e→au c≤9223372036854775807) (hk:∀v lo hi,cd v=some (lo,hi)→(ad=none→lo=0∧hi=0)→(∀e,ad=some e→lo=au c∧lo≤hi)→hi≤9223372036854775807→K v H nx):aH A (.cap x) σ L H nx K:=
 let ⟨v,lo,hi,h1,h2,h3,h4,h5⟩:=Act.Qb (A:=A) (H:=H) (nx:=nx) hx hc
 .of h5 (hk v lo hi h1 h2 h3 h4)
end UO
end Zn
theorem Act.oJ {z by_:Nat} {zero:List Value} {s x:Od} {b o len c n:Nat} {v:Value} {cs l new:List Value} (hs:ev σ L s=some (.slice (some ⟨b,o,some z⟩) len c)) (hx:ev σ L x=some v) (eF:nt H z v n new) (hn:n≠0) (hz:0 < z)
  (h1:br new=true) (hr:ak H (at_ b)=some (.cells cs)) (hc:len + n≤au c) (ho:lB cs (o + len * z) new=some l) :
  Act A (.app z by_ zero s x false) σ L H nx (.slice (some ⟨b,o,some z⟩) (len + n) c) (aw H b l) nx:=by
 refine ⟨fun T hT k=>?_⟩
 show aS T L s (fun s=>aS T L x fun x=>iK H z (p8 z by_ H nx k s) x)=_
 rw [hT.aS hs,hT.aS hx,eF.iK,yq hz h1 hn]
 rw [Nat.ble_eq_true_of_le hc]
 show dy H b (fun cs=>bd (lB cs (Nat.add o (Nat.mul len z)) new) (lO H nx b (.slice (some ⟨b,o,some z⟩) (Nat.add len n) c) k))=_
 rw [gk hr]
 show bd (lB cs (o + len * z) new) _=_
 rw [ho]
 show lO H nx b _ k l=_
 rw [mT]
 rfl
def bj:Value→Option Nat
 | .slice (some ⟨b,_,some _⟩) _ _=>some b
 | _=>none
theorem bS.blk {α:Type} {z:Nat} {enc:α→List Value} {v:Value} {xs:List α} (h:bS H nx z enc v xs) (hs:∀b,bj v=some b→b < nx→ak H' (at_ b)=ak H (at_ b)) (hn:nx≤nx'):bS H' nx' z enc v xs:=by
 obtain ⟨base,c,rfl,h2,h3⟩:=h
 refine ⟨base,c,rfl,h2,fun a ha=>?_⟩
 rcases h3 a ha with h0|⟨g1,b,o,rfl,g3,g4⟩
 ·exact .inl h0
 ·refine .inr ⟨g1,b,o,rfl,by omega,fun hx=>?_⟩
  obtain ⟨cs,q1,q2⟩:=g4 hx
  refine ⟨cs,?_,q2⟩
  unfold Rd
  rw [hs b (by rw [ha];rfl) g3]
  exact q1
theorem bA.vh {nx0 z n:Nat} {v:Value} {cs:List Value} (h:bA H nx0 nx z v n cs) (hs:∀b,nx0≤b→b < nx→ak H' (at_ b)=ak H (at_ b)) (hn:nx≤nx'):bA H' nx0 nx' z v n cs:=by
 obtain ⟨hl,h|⟨b,h1,h2,h3,h4⟩⟩:=h
 ·exact ⟨hl,.inl h⟩
 ·exact ⟨hl,.inr ⟨b,h1,h2,Nat.lt_of_lt_of_le h3 hn,(hs b h2 h3).trans h4⟩⟩
theorem Gv {v:Value} {a b:Nat} (h:cd v=some (a,b)):cellsOf v=[v]∧p7 v=true:=by
 rcases cP h with ⟨rfl,_⟩|⟨_,_,k,rfl⟩<;>exact ⟨rfl,rfl⟩
theorem yv:∀(cs vs:List Value),cs.length < vs.length→dS cs vs=none:=by
 intro cs
 induction cs with
 | nil=>intro vs h;cases vs with
  | nil=>simp at h
  | cons v vs=>rfl
 | cons c cs ih=>
  intro vs h
  cases vs with
  | nil=>simp at h
  | cons v vs=>
   show (match dS cs vs with|some r=>some (v::r)|none=>none)=none
   rw [ih vs (by simpa using h)]
theorem JB:∀(cs vs:List Value),vs≠[]→gu cs cs.length vs=none:=by
 intro cs
 induction cs with
 | nil=>intro vs h;exact yv [] vs (List.length_pos_iff.2 h)
 | cons c cs ih=>
  intro vs h
  show (Option.rec none (fun r=>some (c::r)) (gu cs cs.length vs):Option (List Value))=none
  rw [ih vs h]
theorem w4 {cs vs:List Value} {o:Nat} (h:vs≠[]) (ho:o=cs.length):lB cs o vs=some (cs++vs):=by
 subst ho
 unfold lB
 rw [JB cs vs h]
 have:Nat.beq cs.length cs.length=true:=by simp
 show cond (Nat.beq cs.length cs.length) _ none=_
 rw [this];rfl
end
end Go.Eng

namespace Go.Eng
section
variable {P:Program}
theorem uf {t e:TypeId} {a0 a1 b0 b1:Int} {k:IntKind} (h:P.underlying t=some (.array 2 e)) (hz:quiet P (sizeOf e)=some 1) (g:quiet P (isAgg e)=some false) (he:P.underlying e=some (.int k)) (d:Nat) :
  quiet P (Op.equalIn (d + 1 + 1) t (.agg #[.int .i64 a0,.int .i64 a1]) (.agg #[.int .i64 b0,.int .i64 b1]))=some (a0 == b0&&a1 == b1):=by
 unfold Op.equalIn
 rw [cu h]
 have e0:=fun a b:Int=>jd (P:=P) (a:=a) (b:=b) he d
 have p0:∀x y:Int,quiet P (part e #[.int .i64 x,.int .i64 y] 0)=some (.int .i64 x):=fun x y=>eH g rfl
 have p1:∀x y:Int,quiet P (part e #[.int .i64 x,.int .i64 y] 1)=some (.int .i64 y):=fun x y=>eH g rfl
 by_cases h0:a0=b0<;>by_cases h1:a1=b1<;>
  simp [cN,hz,List.range',e0,p0,p1,fV,h0,h1]
structure yw (P:Program) (t:TypeId):Prop where
 a:∃e k,P.underlying t=some (.array 2 e)∧quiet P (sizeOf e)=some 1∧quiet P (isAgg e)=some false∧P.underlying e=some (.int k)
def fK (p:Int×Int):Value:=.agg #[.int .i64 p.1,.int .i64 p.2]
abbrev Mp:=List ((Int×Int)×Int)
def kJ:Mp→Nat→List MapEntry
 | [],_=>[]
 | (p,v)::r,i=>{ key:=fK p,val:=.int .i64 v,born:=i }::kJ r (i + 1)
def sB (p:Int×Int):Mp→Option Nat
 | []=>none
 | (q,_)::r=>if q=p then some 0 else (sB p r).map (· + 1)
def oG (p:Int×Int):Mp→Int
 | []=>0
 | (q,v)::r=>if q=p then v else oG p r
def w5 (p:Int×Int) (v:Int):Mp→Mp
 | []=>[(p,v)]
 | (q,u)::r=>if q=p then (q,v)::r else (q,u)::w5 p v r
def JC:Mp→Nat→Int→Mp
 | [],_,_=>[]
 | (q,_)::r,0,v=>(q,v)::r
 | e::r,i + 1,v=>e::JC r i v
def HL (p:Int×Int) (m:Mp):Mp:=if sB p m=none then m++[(p,0)] else m
def HM (p:Int×Int) (m:Mp):Nat:=(sB p m).getD m.length
theorem Xf {p q:Int×Int} {v:Int}:∀{m:Mp},oG q (w5 p v m)=if p=q then v else oG q m:=by
 intro m
 induction m with
 | nil=>rfl
 | cons e r ih=>
  obtain ⟨k,u⟩:=e
  show oG q (if k=p then (k,v)::r else (k,u)::w5 p v r)=if p=q then v else if k=q then u else oG q r
  by_cases h:k=p
  ·subst h
   rw [if_pos rfl]
   show (if k=q then v else oG q r)=_
   by_cases h2:k=q
   ·rw [if_pos h2,if_pos h2]
   ·rw [if_neg h2,if_neg h2,if_neg h2]
  ·rw [if_neg h]
   show (if k=q then u else oG q (w5 p v r))=_
   rw [ih]
   by_cases h2:k=q
   ·subst h2
    rw [if_pos rfl,if_neg (fun e=>h e.symm),if_pos rfl]
   ·rw [if_neg h2,if_neg h2]
theorem Xg {p:Int×Int} {v:Int}:∀{m:Mp},JC (HL p m) (HM p m) v=w5 p v m:=by
 intro m
 induction m with
 | nil=>rfl
 | cons e r ih=>
  obtain ⟨k,u⟩:=e
  unfold HL HM sB w5
  by_cases h:k=p
  ·subst h
   simp [JC]
  ·rw [if_neg h,if_neg h]
   unfold HL HM at ih
   cases hf:sB p r with
   | none=>
    rw [hf] at ih
    simp only [Option.map_none,if_true] at ih ⊢
    show JC ((k,u)::(r++[(p,0)])) (r.length + 1) v=_
    show (k,u)::JC (r++[(p,0)]) r.length v=_
    rw [← ih];rfl
   | some i=>
    rw [hf] at ih
    simp only [Option.map_some] at ih ⊢
    rw [if_neg (by simp)] at ih
    rw [if_neg (by simp)]
    show (k,u)::JC r i v=_
    rw [← ih];rfl
theorem Qc {p:Int×Int}:∀{m:Mp} {i:Nat},sB p m=some i→i < m.length:=by
 intro m
 induction m with
 | nil=>intro i h;cases h
 | cons e r ih=>
  obtain ⟨k,u⟩:=e
  intro i h
  have h':(if k=p then some 0 else (sB p r).map (· + 1))=some i:=h
  split at h'
  ·cases h';simp
  ·cases hf:sB p r with
   | none=>rw [hf] at h';cases h'
   | some j=>rw [hf] at h';cases h';have:=ih hf;simpa using this
theorem Zr {p:Int×Int} {m:Mp}:HM p m < (HL p m).length:=by
 unfold HM HL
 cases hf:sB p m with
 | none=>rw [if_pos rfl];simp
 | some i=>rw [if_neg (by simp)];exact Qc hf
theorem Xh:∀{m:Mp} {i:Nat},(kJ m i).length=m.length:=by
 intro m
 induction m with
 | nil=>intro i;rfl
 | cons e r ih=>obtain ⟨k,u⟩:=e;intro i;show (kJ r (i + 1)).length + 1=_;rw [ih];rfl
theorem MR:∀{m:Mp} {i:Nat} {p:Int×Int} {v:Int},kJ (m++[(p,v)]) i=kJ m i++[{ key:=fK p,val:=.int .i64 v,born:=i + m.length }]:=by
 intro m
 induction m with
 | nil=>intro i p v;rfl
 | cons e r ih=>
  obtain ⟨k,u⟩:=e
  intro i p v
  show _::kJ (r++[(p,v)]) (i + 1)=_::(kJ r (i + 1)++_)
  rw [ih,List.length_cons,show i + 1 + r.length=i + (r.length + 1) by omega]
theorem MS:∀{m:Mp} {i:Nat} {v:Int},(JC m i v).length=m.length:=by
 intro m
 induction m with
 | nil=>intro i v;rfl
 | cons e r ih=>
  obtain ⟨k,u⟩:=e
  intro i v
  cases i with
  | zero=>rfl
  | succ i=>show (JC r i v).length + 1=_;rw [ih];rfl
theorem Gw:∀{m:Mp} {i j:Nat} {v:Int},gQ (kJ m j) i (.int .i64 v)=kJ (JC m i v) j:=by
 intro m
 induction m with
 | nil=>intro i j v;cases i<;>rfl
 | cons e r ih=>
  obtain ⟨k,u⟩:=e
  intro i j v
  cases i with
  | zero=>rfl
  | succ i=>show _::gQ (kJ r (j + 1)) i _=_::kJ (JC r i v) (j + 1);rw [ih]
theorem Gx:∀{m:Mp} {i j q:Nat},i < m.length→jj (kJ m j) (j + i) q=some (q + i):=by
 intro m
 induction m with
 | nil=>intro i j q h;simp at h
 | cons e r ih=>
  obtain ⟨k,u⟩:=e
  intro i j q h
  show (bif Nat.beq j (j + i) then some q else jj (kJ r (j + 1)) (j + i) (q + 1))=_
  cases i with
  | zero=>simp
  | succ i=>
   have:Nat.beq j (j + (i + 1))=false:=by
    cases hb:Nat.beq j (j + (i + 1)) with
    | false=>rfl
    | true=>have:=Nat.eq_of_beq_eq_true hb;omega
   rw [this]
   show jj (kJ r (j + 1)) (j + (i + 1)) (q + 1)=_
   rw [show j + (i + 1)=j + 1 + i by omega,ih (by simpa using h),show q + 1 + i=q + (i + 1) by omega]
theorem oj {p:Int×Int}:∀{m:Mp} {i j:Nat},sB p m=some i→eU (kJ m j) i=some { key:=fK p,val:=.int .i64 (oG p m),born:=j + i }∧sV (kJ m j) i (fK p)=true:=by
 intro m
 induction m with
 | nil=>intro i j h;cases h
 | cons e r ih=>
  obtain ⟨k,u⟩:=e
  intro i j h
  have h':(if k=p then some 0 else (sB p r).map (· + 1))=some i:=h
  by_cases hk:k=p
  ·rw [if_pos hk] at h';cases h'
   subst hk
   refine ⟨?_,?_⟩
   ·show some _=some _
    have:oG k ((k,u)::r)=u:=by show (if k=k then u else oG k r)=u;rw [if_pos rfl]
    rw [this];rfl
   ·show sU (fK k) (fK k)=true
    simp [sU,fK,sT,sS]
  ·rw [if_neg hk] at h'
   cases hf:sB p r with
   | none=>rw [hf] at h';cases h'
   | some i'=>
    rw [hf] at h';cases h'
    obtain ⟨g1,g2⟩:=ih (j:=j + 1) hf
    refine ⟨?_,g2⟩
    show eU (kJ r (j + 1)) i'=_
    rw [g1,show j + 1 + i'=j + (i' + 1) by omega]
    congr 3
    show oG p r=if k=p then u else oG p r
    rw [if_neg hk]
theorem A7 {p:Int×Int}:∀{m:Mp},sB p m=none→oG p m=0:=by
 intro m
 induction m with
 | nil=>intro _;rfl
 | cons e r ih=>
  obtain ⟨k,u⟩:=e
  intro h
  have h':(if k=p then some 0 else (sB p r).map (· + 1))=none:=h
  by_cases hk:k=p
  ·rw [if_pos hk] at h';cases h'
  ·rw [if_neg hk] at h'
   show (if k=p then u else oG p r)=0
   rw [if_neg hk]
   exact ih (by simpa using h')
theorem SM {p q:Int×Int} {m:Mp}:oG q (HL p m)=oG q m:=by
 unfold HL
 split
 ·rename_i h
  have:∀m:Mp,oG q (m++[(p,0)])=oG q m:=by
   intro m
   induction m with
   | nil=>show (if p=q then 0 else (0:Int))=0;split<;>rfl
   | cons e r ih=>
    obtain ⟨k,u⟩:=e
    show (if k=q then u else oG q (r++[(p,0)]))=if k=q then u else oG q r
    rw [ih]
  exact this m
 ·rfl
theorem C6 {t:TypeId} (h:yw P t) {emp:Bool} {p:Int×Int} (n:Nat):quiet P (Instr.checkKey emp (n + 1 + 1) t (fK p))=some ():=by
 obtain ⟨e,k,h1,h2,h3,h4⟩:=h.a
 unfold Instr.checkKey fK
 rw [cu h1]
 have e0:∀a:Int,quiet P (Instr.checkKey emp (n + 1) e (.int .i64 a))=some ():=fun a=>by
  unfold Instr.checkKey
  rw [cu h4]
  rfl
 have p0:∀x y:Int,quiet P (part e #[.int .i64 x,.int .i64 y] 0)=some (.int .i64 x):=fun x y=>eH h3 rfl
 have p1:∀x y:Int,quiet P (part e #[.int .i64 x,.int .i64 y] 1)=some (.int .i64 y):=fun x y=>eH h3 rfl
 simp [cN,h2,List.range',e0,p0,p1,fV]
theorem C7 {t:TypeId} (h:yw P t) {p q:Int×Int}:quiet P (Op.equal t (fK p) (fK q))=some (decide (p=q)):=by
 obtain ⟨e,k,h1,h2,h3,h4⟩:=h.a
 have:quiet P (Op.equal t (fK p) (fK q))=some (p.1 == q.1&&p.2 == q.2):=uf (a0:=p.1) (a1:=p.2) (b0:=q.1) (b1:=q.2) h1 h2 h3 h4 9998
 rw [this]
 congr 1
 obtain ⟨p1,p2⟩:=p
 obtain ⟨q1,q2⟩:=q
 by_cases a:p1=q1<;>by_cases b:p2=q2<;>simp [a,b]
theorem Gy {t:TypeId} (h:yw P t) {p:Int×Int}:∀(m:Mp) (i j q:Nat),quiet P (Instr.findAsking t (fK p) (marked (kJ m i) j) q)=some ((sB p m).map fun i=>(q + i,.int .i64 ((j + i:Nat):Int))):=by
 intro m
 induction m with
 | nil=>intro i j q;rfl
 | cons e r ih=>
  obtain ⟨k,u⟩:=e
  intro i j q
  show quiet P (do if ← Op.equal t (fK p) (fK k) then pure (some (q,Value.int .i64 ((j:Nat):Int))) else Instr.findAsking t (fK p) (marked (kJ r (i + 1)) (j + 1)) (q + 1))=_
  rw [cN,C7 h]
  by_cases hk:k=p
  ·subst hk
   simp [sB,fV]
  ·have:¬p=k:=fun e=>hk e.symm
   simp only [this,decide_false,Option.bind_some]
   show quiet P (Instr.findAsking t (fK p) (marked (kJ r (i + 1)) (j + 1)) (q + 1))=_
   rw [ih]
   show _=some (Option.map _ (if k=p then some 0 else (sB p r).map (· + 1)))
   rw [if_neg hk]
   cases sB p r with
   | none=>rfl
   | some i'=>
    show some (some (q + 1 + i',Value.int .i64 ((j + 1 + i':Nat):Int)))=some (some (q + (i' + 1),Value.int .i64 ((j + (i' + 1):Nat):Int)))
    rw [show q + 1 + i'=q + (i' + 1) by omega,show j + 1 + i'=j + (i' + 1) by omega]
theorem qK {t:TypeId} (h:yw P t) {emp:Bool} {p:Int×Int} (m:Mp) (i:Nat):findAt P emp t (fK p) (kJ m i)=some (sB p m):=by
 have B0:∀(m:Mp) (i:Nat),(kJ m i).all (fun e=>flat e.key)=true:=by
  intro m
  induction m with
  | nil=>intro i;rfl
  | cons e r ih=>obtain ⟨k,u⟩:=e;intro i;show (flat (fK k)&&(kJ r (i + 1)).all _)=true;rw [ih];rfl
 have BZ:quiet P (Instr.checkKey emp 10000 t (fK p))=some ():=C6 h 9998
 have FQ:quiet P (Instr.findKey t (fK p) (marked (kJ m i) 0))=some ((sB p m).map fun i=>(i,.int .i64 ((i:Nat):Int))):=by
  obtain ⟨e,k,h1,h2,h3,h4⟩:=h.a
  unfold Instr.findKey
  rw [cu h1]
  cases m with
  | nil=>rfl
  | cons x r=>
   obtain ⟨k,u⟩:=x
   show quiet P (Instr.findAsking t (fK p) (marked (kJ ((k,u)::r) i) 0) 0)=_
   rw [Gy h]
   congr 1
   cases sB p ((k,u)::r) with
   | none=>rfl
   | some i'=>show some (0 + i',Value.int .i64 ((0 + i':Nat):Int))=some (i',Value.int .i64 ((i':Nat):Int));rw [Nat.zero_add]
 unfold findAt
 have hkf:flat (fK p)=true:=rfl
 rw [B0,hkf]
 show (match quiet P (Instr.checkKey emp 10000 t (fK p)) with|some ()=>_|none=>none)=_
 rw [BZ]
 show (match quiet P (Instr.findKey t (fK p) (marked (kJ m i) 0)) with|some (some (i',_))=>_|some none=>_|none=>none)=_
 rw [FQ]
 cases hf:sB p m with
 | none=>rfl
 | some i'=>
  show (bif sV (kJ m i) i' (fK p) then some (some i') else none)=_
  rw [(oj hf).2];rfl
end
section
variable {A:aG} {H H':Heap} {nx nx':Nat} {σ:aP} {L:List Value} {Q:ct}
def A8 (H:Heap) (b:Nat) (m:Mp):Prop:=ak H (at_ b)=some (.map (kJ m 0) m.length)
def C8 (H:Heap) (b:Nat) (m:Mp):Heap:=bD (at_ b) H (some (.map (kJ m 0) m.length))
theorem A9 {b c:Nat} {m:Mp}:ak (C8 H b m) (at_ c)=if c=b then some (.map (kJ m 0) m.length) else ak H (at_ c):=by
 unfold C8
 by_cases h:c=b
 ·subst h;rw [bk];simp
 ·rw [aO _ _ _ _ (fun e=>h (dO e))];simp [h]
theorem A8.self {b:Nat} {m:Mp}:A8 (C8 H b m) b m:=by unfold A8;rw [A9];simp
theorem Act.zz:Act A (.zz none) σ L H nx (.map (some nx)) (C8 H nx []) (nx + 1):=by
 refine ⟨fun T hT k=>?_⟩
 show cQ (at_ nx) H (some (.map [] 0)) (fun H=>k (.map (some nx)) H (Nat.succ nx))=_
 rw [bN];rfl
theorem Act.lN {x y:Od} {kt b:Nat} {p:Int×Int} {m:Mp} (ha:yw A.P kt) (hx:ev σ L x=some (.map (some b))) (hy:ev σ L y=some (.agg #[.int .i64 p.1,.int .i64 p.2])) (hm:A8 H b m):Act A (.lN x y kt (.int .i64 (.ofNat 0)) false) σ L H nx (.int .i64 (oG p m)) H nx:=by
 refine ⟨fun T hT k=>?_⟩
 show aS T L x (fun u=>aS T L y fun key=>vt A.P kt _ false H key (fun v=>k v H nx) u)=_
 rw [hT.aS hx,hT.aS hy]
 show eZ (ak H (at_ b)) _=_
 rw [hm]
 show bd (findAt A.P (kJ m 0).isEmpty kt (fK p) (kJ m 0)) _=_
 rw [qK ha]
 cases hf:sB p m with
 | none=>
  show k (Sp false (.int .i64 (.ofNat 0)) false) H nx=_
  rw [A7 hf];rfl
 | some i=>
  show bd (eU (kJ m 0) i) _=_
  rw [(oj hf).1];rfl
theorem aH.Cb {x y:Od} {kt b:Nat} {p:Int×Int} {m:Mp} {K:Value→Heap→Nat→Prop} (ha:yw A.P kt) (hx:ev σ L x=some (.map (some b))) (hy:ev σ L y=some (.agg #[.int .i64 p.1,.int .i64 p.2])) (hm:A8 H b m)
  (h:∀H',A8 H' b (HL p m)→(∀c,c≠b→ak H' (at_ c)=ak H (at_ c))→K (.tuple #[.int .i64 (oG p m),.int .i64 ((HM p m:Nat):Int)]) H' nx):aH A (.Cb x y kt (.int .i64 (.ofNat 0))) σ L H nx K:=by
 cases hf:sB p m with
 | none=>
  have hI:HM p m=m.length:=by unfold HM;rw [hf];rfl
  have CZ:HL p m=m++[(p,0)]:=by unfold HL;rw [if_pos hf]
  refine .of (v:=.tuple #[.int .i64 (oG p m),.int .i64 ((HM p m:Nat):Int)]) (H':=C8 H b (m++[(p,0)])) (nx':=nx) ⟨fun T hT k=>?_⟩ (h _ (by rw [CZ];exact .self) (fun c hc=>by rw [A9,if_neg hc]))
  show aS T L x (fun u=>aS T L y fun key=>oI H u fun r es c=>bd (findAt A.P false kt key es) fun i=>Option.rec (cQ (at_ r) H (some (e6 es c key (.int .i64 (.ofNat 0)))) fun H=>k (.tuple #[.int .i64 (.ofNat 0),.int .i64 (.ofNat c)]) H nx) (fun i=>bd (eU es i) fun e=>k (.tuple #[e.val,.int .i64 (.ofNat e.born)]) H nx) i)=_
  rw [hT.aS hx,hT.aS hy]
  show eZ (ak H (at_ b)) _=_
  rw [hm]
  show bd (findAt A.P false kt (fK p) (kJ m 0)) _=_
  rw [qK ha,hf]
  show cQ (at_ b) H (some (e6 (kJ m 0) m.length (fK p) (.int .i64 (.ofNat 0)))) _=_
  rw [bN,A7 hf,hI]
  have:e6 (kJ m 0) m.length (fK p) (.int .i64 (.ofNat 0))=.map (kJ (m++[(p,0)]) 0) (m++[(p,0)]).length:=by
   unfold e6
   rw [MR,List.length_append,Nat.zero_add];rfl
  rw [this];rfl
 | some i=>
  have hI:HM p m=i:=by unfold HM;rw [hf];rfl
  have CZ:HL p m=m:=by unfold HL;rw [if_neg (by rw [hf];simp)]
  refine .of (v:=.tuple #[.int .i64 (oG p m),.int .i64 ((HM p m:Nat):Int)]) (H':=H) (nx':=nx) ⟨fun T hT k=>?_⟩ (h _ (by rw [CZ];exact hm) (fun c hc=>rfl))
  show aS T L x (fun u=>aS T L y fun key=>oI H u fun r es c=>bd (findAt A.P false kt key es) fun i=>Option.rec (cQ (at_ r) H (some (e6 es c key (.int .i64 (.ofNat 0)))) fun H=>k (.tuple #[.int .i64 (.ofNat 0),.int .i64 (.ofNat c)]) H nx) (fun i=>bd (eU es i) fun e=>k (.tuple #[e.val,.int .i64 (.ofNat e.born)]) H nx) i)=_
  rw [hT.aS hx,hT.aS hy]
  show eZ (ak H (at_ b)) _=_
  rw [hm]
  show bd (findAt A.P false kt (fK p) (kJ m 0)) _=_
  rw [qK ha,hf]
  show bd (eU (kJ m 0) i) _=_
  rw [(oj hf).1,hI,Nat.zero_add];rfl
theorem Act.Cc {x y z:Od} {b i:Nat} {v:Int} {m:Mp} (hx:ev σ L x=some (.map (some b))) (hy:ev σ L y=some (.int .i64 (i:Int))) (hz:ev σ L z=some (.int .i64 v)) (hm:A8 H b m) (hi:i < m.length):Act A (.Cc x y z) σ L H nx undef (C8 H b (JC m i v)) nx:=by
 refine ⟨fun T hT k=>?_⟩
 show aS T L x (fun u=>aS T L y fun s=>cx s fun q=>aS T L z fun v=>oI H u fun r es c=>bd (jj es q 0) fun i=>cQ (at_ r) H (some (.map (gQ es i v) c)) fun H=>k undef H nx)=_
 rw [hT.aS hx,hT.aS hy]
 show aS T L z (fun v=>oI H (.map (some b)) fun r es c=>bd (jj es i 0) fun i=>cQ (at_ r) H (some (.map (gQ es i v) c)) fun H=>k undef H nx)=_
 rw [hT.aS hz]
 show eZ (ak H (at_ b)) _=_
 rw [hm]
 show bd (jj (kJ m 0) i 0) _=_
 have:=Gx (m:=m) (j:=0) (q:=0) hi
 rw [Nat.zero_add] at this
 rw [this]
 show cQ (at_ b) H (some (.map (gQ (kJ m 0) i (.int .i64 v)) m.length)) _=_
 rw [bN,Gw]
 unfold C8
 rw [MS]
theorem a6.lN {L:List Value} {x y:Od} {kt b d:Nat} {p:Int×Int} {m:Mp} {ag:List bx} (ha:yw A.P kt) (hx:ev σ L x=some (.map (some b))) (hy:ev σ L y=some (.agg #[.int .i64 p.1,.int .i64 p.2])) (hm:A8 H b m) (hd:L[d]?=some (.int .i64 (oG p m))) (CE:a6 A σ L H ag):a6 A σ L H (⟨none,.lN x y kt (.int .i64 (.ofNat 0)) false,d⟩::ag):=by
 refine ⟨fun T hT X=>?_⟩
 have h2:∀k:KV,dp (.lN x y kt (.int .i64 (.ofNat 0)) false) A.P T L H k=k (.int .i64 (oG p m)):=fun k=>(Act.lN (nx:=0) ha hx hy hm).comes T hT (fun v _ _=>k v)
 show dp (.lN x y kt (.int .i64 (.ofNat 0)) false) A.P T L H (fun v=>vo L d fun u=>cond (jK u v) (fT A.P T L H ag X) none)=X
 rw [h2,jR,hd]
 show cond (jK (.int .i64 (oG p m)) (.int .i64 (oG p m))) (fT A.P T L H ag X) none=X
 have:jK (.int .i64 (oG p m)) (.int .i64 (oG p m))=true:=by simp [jK,ey]
 rw [this]
 exact CE.reads T hT X
end
end Go.Eng

namespace Go.Eng
variable {ρ:bB} {H H':Heap} {nx nx':Nat} {hp:Array Obj}
section
variable {X:Type} {enc:TypeId×Value→X} {P:Program} {w:World} {base:Nat}
def yx (d:DataW X) (B:Nat):Prop:=∀elems spare,d=.slice elems spare→elems.length≤B
theorem JD {α:Type} {encα:α→List Value} {z fuel B:Nat} {t e:TypeId} {v av:Value} {xs:List α} {x:DataW X×List MemPlace} (ht:P.underlying t=some (.slice e))
  (hd:DataW.trod enc P w base (fun _=>true) true fuel t [v]=some x) (hv:VR ρ av v) (hs:bS H nx z encα av xs) (hB:yx x.1 B):xs.length≤B:=by
 obtain ⟨b,c,rfl⟩:=hs.form
 rcases Deep.open_slice ht hd with ⟨h,_⟩|⟨a,len,cap,m,n,D,Pl,h,_,hl,hm,On,hx,A4⟩
 ·obtain rfl:v=.slice none 0 0:=by simpa using h
  have:xs.length=0:=by
   generalize hq:xs.length=q at hv
   cases hv with
   | sc h=>simp [scalar] at h
   | jL=>rfl
  omega
 ·obtain rfl:v=.slice (some a) len cap:=by simpa using h
  have hlen:xs.length=len:=by
   generalize hq:xs.length=q at hv
   cases hv with
   | sc h=>rfl
   | sl=>rfl
   | Ef=>rfl
  subst hx
  have:=hB _ _ rfl
  rw [List.length_map,List.length_range] at this
  omega
theorem Gz {B:Nat} {α:Type} {encα:α→List Value} {z:Nat} {t e:TypeId} (ht:P.underlying t=some (.slice e)) (hz:P.cellsOf e=z) (ri:0 < z) (hlen:∀a,(encα a).length=z) (lE:∀a,(encα a).all scalar=true)
  (hE:∀fuel c y,DataW.trod enc P w base (fun _=>true) true fuel e c=some y→∃a,c=encα a):∀(vs:List Value),(∀v∈vs,∃fuel x,DataW.trod enc P w base (fun _=>true) true fuel t [v]=some x∧yx x.1 B)→∀{ρ:bB} {H:Heap} {nx:Nat},Ro ρ H nx w.heap→
  ∃ρ' H' nx',∃us:List Value,∃ls:List (List α),Ext ρ ρ'∧Ro ρ' H' nx' w.heap∧nx≤nx'∧an H H' nx∧cL ρ' us vs∧us.length=ls.length∧(∀l∈ls,l.length≤B)∧∀(i:Nat) (u:Value) (l:List α),us[i]?=some u→ls[i]?=some l→bS H' nx' z encα u l:=by
 intro vs
 induction vs with
 | nil=>intro _ ρ H nx j7;exact ⟨ρ,H,nx,[],[],.refl ρ,j7,Nat.le_refl _,.refl,.nil,rfl,(fun l hl=>by cases hl),fun i u l hu=>by simp at hu⟩
 | cons v vs ih=>
  intro hv ρ H nx j7
  obtain ⟨fuel,x,hd,hBx⟩:=hv v List.mem_cons_self
  obtain ⟨ρ1,H1,av,xs,e1,r1,s1,v1,l1⟩:=ud ht hz ri hlen lE hE hd j7
  obtain ⟨ρ2,H2,nx2,us,ls,e2,r2,n2,s2,v2,q1,qB,q2⟩:=ih (fun v hm=>hv v (List.mem_cons_of_mem _ hm)) r1
  refine ⟨ρ2,H2,nx2,av::us,xs::ls,e1.trans e2,r2,by omega,s1.trans s2 (Nat.le_succ _),.cons (v1.mono e2) v2,by simp [q1],(fun l hl=>?_),fun i u l hu hl=>?_⟩
  ·rcases List.mem_cons.1 hl with rfl|hl
   ·exact JD ht hd v1 l1 hBx
   ·exact qB l hl
  cases i with
  | zero=>
   simp at hu hl
   subst hu;subst hl
   exact (l1.same s2).up n2
  | succ i=>exact q2 i u l (by simpa using hu) (by simpa using hl)
theorem yy {B:Nat} {α:Type} {encα:α→List Value} {z fuel:Nat} {t s e:TypeId} {v:Value} {x:DataW X×List MemPlace} (ht:P.underlying t=some (.slice s)) (hs:P.underlying s=some (.slice e)) (a7:P.cellsOf s=1) (hz:P.cellsOf e=z) (ri:0 < z) (hlen:∀a,(encα a).length=z) (lE:∀a,(encα a).all scalar=true)
  (hE:∀fuel c y,DataW.trod enc P w base (fun _=>true) true fuel e c=some y→∃a,c=encα a) (MP:∀a len cap,v=.slice (some a) len cap→a.spot=none∧∃row cells,w.shape? a.block=some (row,cells))
  (hd:DataW.trod enc P w base (fun _=>true) true fuel t [v]=some x) (hB0:yx x.1 B) (hB:∀elems spare,x.1=.slice elems spare→∀d∈elems,yx d B) (j7:Ro ρ H nx w.heap) :
  ∃ρ' H' nx' av,∃ls:List (List α),Ext ρ ρ'∧Ro ρ' H' nx' w.heap∧nx≤nx'∧an H H' nx∧VR ρ' av v∧eY H' nx' z encα av ls∧ls.length≤B∧∀l∈ls,l.length≤B:=by
 rcases Deep.open_slice ht hd with ⟨h,_⟩|⟨a,len,cap,m,n,D,Pl,h,_,hl,hm,On,hx,A4⟩
 ·obtain rfl:v=.slice none 0 0:=by simpa using h
  exact ⟨ρ,H,nx,.slice none 0 0,[],.refl ρ,j7,Nat.le_refl _,.refl,.jL,⟨[],rfl,.nil,fun i u l hu=>by simp at hu⟩,Nat.zero_le _,fun l hl=>by cases hl⟩
 ·obtain rfl:v=.slice (some a) len cap:=by simpa using h
  have hBD:∀i,i < len→yx (D i) B:=fun i hi=>hB _ _ (congrArg Prod.fst hx) _ (List.mem_map.2 ⟨i,List.mem_range.2 hi,rfl⟩)
  have hlB:len≤B:=by
   have:=hB0 _ _ (congrArg Prod.fst hx)
   rwa [List.length_map,List.length_range] at this
  obtain ⟨ym,row,cells,jB⟩:=MP a len cap rfl
  obtain ⟨blk,off,spot⟩:=a
  obtain rfl:spot=none:=ym
  obtain rfl:m=cap:=by simpa using On
  rw [a7] at A4
  obtain ⟨arr,te,fz,A5⟩:∃arr te fz,w.heap[blk]?=some (.cells arr te fz):=by
   unfold World.shape? at jB
   split at jB
   ·rename_i c el fz hh;exact ⟨c,el,fz,hh⟩
   ·cases jB
  have bC:∀i,i < m→∃u,arr[off + i]?=some u∧DataW.trod enc P w base (fun _=>true) true n s [u]=some (D i,Pl i):=fun i hi=>by
   obtain ⟨cs,h1,h2⟩:=A4 i hi
   obtain ⟨p1,p2⟩:=mapM_cells h1
   match cs,p1 with
   | [u],_=>
    have h3:=p2 0 (by omega)
    refine ⟨u,?_,h2⟩
    rw [Go.WideShapes.add_plain,Go.WideShapes.add_plain] at h3
    unfold World.cell? at h3
    rw [A5] at h3
    simpa using h3
  obtain ⟨vs,yt,JA⟩:∃vs:List Value,vs.length=len∧∀i u,vs[i]?=some u→arr[off + i]?=some u∧∃fuel x,DataW.trod enc P w base (fun _=>true) true fuel s [u]=some x∧yx x.1 B:=by
   have:∀k,k≤len→∃vs:List Value,vs.length=k∧∀i u,vs[i]?=some u→arr[off + i]?=some u∧∃fuel x,DataW.trod enc P w base (fun _=>true) true fuel s [u]=some x∧yx x.1 B:=by
    intro k
    induction k with
    | zero=>intro _;exact ⟨[],rfl,fun i u h=>by simp at h⟩
    | succ k ih=>
     intro hk
     obtain ⟨vs,h1,h2⟩:=ih (by omega)
     obtain ⟨u,g1,g2⟩:=bC k (by omega)
     refine ⟨vs++[u],by simp [h1],fun i y hy=>?_⟩
     by_cases hi:i < k
     ·rw [List.getElem?_append_left (by omega)] at hy
      exact h2 i y hy
     ·have cf:=(List.getElem?_eq_some_iff.1 hy).1
      simp at cf
      obtain rfl:i=k:=by omega
      rw [List.getElem?_append_right (by omega),h1] at hy
      simp at hy
      subst hy
      exact ⟨g1,_,_,g2,hBD _ (by omega)⟩
   exact this len (Nat.le_refl _)
  obtain ⟨ρ1,H1,aT,us,ls,e1,r1,n1,s1,w1,q1,qB,q2⟩:=Gz (B:=B) hs hz ri hlen lE hE vs (fun v hm=>by
   obtain ⟨i,hi⟩:=List.getElem?_of_mem hm
   exact (JA i v hi).2) j7
  have kI:us.length=len:=by rw [← w1.length,yt]
  have jJ:LJ ρ1 w.heap ⟨blk,off,arr.size⟩ us:=⟨arr,te,fz,A5,rfl,fun i u hu=>by
   obtain ⟨v',g1,g2⟩:=w1.get hu
   exact ⟨v',(JA i v' g1).1,g2⟩⟩
  have C3:m=0∨off + m * 1≤arr.size:=by
   by_cases h0:m=0
   ·exact .inl h0
   ·right
    obtain ⟨u,g1,_⟩:=bC (m - 1) (by omega)
    have:=(Array.getElem?_eq_some_iff.1 g1).1
    omega
  have Ek:m≤dA:=by unfold maxLen at hm;unfold dA;omega
  have cZ:an H1 (bD (at_ aT) H1 (some (.ro us))) aT:=fun b hb=>aO _ _ _ _ (fun e=>by have:=dO e;omega)
  have B0:=Oq us
  refine ⟨ρ1.with aT ⟨blk,off,arr.size⟩,_,aT + 1,.slice (some ⟨aT,0,some 1⟩) us.length (2 * len),ls,e1.trans (r1.hr.eM _),r1.add jJ,by omega,s1.trans cZ n1,?_,⟨us,q1,.pre (rest:=[]) (.inr (by rw [List.append_nil,B0];exact bk _ _ _)) (by omega) (by rw [bK];omega) (fun _=>rfl),fun i u l hu hl=>((q2 i u l hu hl).same cZ).up (Nat.le_succ _)⟩,by omega,qB⟩
  rw [kI]
  exact .sl (bB.dF _ _ _) ⟨hl,Ek⟩ (by rw [bK];exact hl) (fun e=>by rw [kH] at e;cases e) (C3.imp id fun h=>⟨rfl,h⟩)
end
end Go.Eng

namespace Go.Eng
theorem Xi {P:Prop} (h:P:=by (first|with_reducible apply Rd.self|with_reducible assumption|(with_reducible apply Rd.own;with_reducible assumption)|((repeat ((with_reducible apply Rd.skip);omega));first|with_reducible apply Rd.self|with_reducible assumption|(with_reducible apply Rd.own;with_reducible assumption)))):P:=h
theorem gtP {P:Prop} (h:P:=by (first|with_reducible apply aq|with_reducible assumption|((repeat ((with_reducible apply bz);omega));first|with_reducible apply aq|with_reducible assumption))):P:=h
theorem arP {P:Prop} (h:P:=by (unfold tW;(try simp only [Int.ofNat_eq_natCast]);omega)):P:=h
theorem szP {P:Prop} (h:P:=by (first|omega|decide|(simp only [List.length_map,List.length_append,List.length_set,List.length_cons,List.length_nil,List.length_replicate,List.length_range];omega))):P:=h
theorem aW {a b:aP} (h:bg a b:=by (repeat (first|exact bg.nil _|refine bg.cons rfl ?_))):bg a b:=h
section
variable {A:aG} {H H':Heap} {nx nx':Nat} {σ:aP} {L:List Value} {op:bE Od} {v:Value} {K:Value→Heap→Nat→Prop} {P:Prop} {d:Decidable P}
theorem aK (k:K v H' nx') (h:Act A op σ L H nx v H' nx':=by exact Act.ae rfl):aH A op σ L H nx K:=aH.of h k
theorem w6 (k:K v H' nx') (h:Act A op σ L H nx v H' nx':=by exact Act.ext rfl rfl):aH A op σ L H nx K:=aH.of h k
theorem wa2 (k:K v H' nx') (h:Act A op σ L H nx v H' nx':=by exact Act.u9 rfl rfl):aH A op σ L H nx K:=aH.of h k
theorem dD (k:K v H' nx') (h:Act A op σ L H nx v H' nx':=by exact Act.ar rfl):aH A op σ L H nx K:=aH.of h k
theorem cM (k:K v H' nx') (h:Act A op σ L H nx v H' nx':=by exact Act.len rfl):aH A op σ L H nx K:=aH.of h k
theorem pA (k:K v H' nx') (h:Act A op σ L H nx v H' nx':=by exact Act.not rfl):aH A op σ L H nx K:=aH.of h k
theorem jN (k:K v H' nx') (h:Act A op σ L H nx v H' nx':=by exact Act.box rfl):aH A op σ L H nx K:=aH.of h k
theorem sE (k:K v H' nx') (h:Act A op σ L H nx v H' nx':=by exact Act.ef):aH A op σ L H nx K:=aH.of h k
theorem r9 (k:K v H' nx') (h:Act A op σ L H nx v H' nx':=by exact Act.eu rfl rfl):aH A op σ L H nx K:=aH.of h k
theorem kg (k:K v H' nx') (h:Act A op σ L H nx v H' nx':=by exact Act.pick rfl rfl rfl):aH A op σ L H nx K:=aH.of h k
theorem aJ (k:K v H' nx') (h:Act A op σ L H nx v H' nx':=by exact Act.ah rfl Xi rfl):aH A op σ L H nx K:=aH.of h k
theorem bu (k:K v H' nx') (h:Act A op σ L H nx v H' nx':=by exact Act.ah rfl Xi (fX (by assumption))):aH A op σ L H nx K:=aH.of h k
theorem MT (k:K v H' nx') (h:Act A op σ L H nx v H' nx':=by exact Act.ah rfl Xi (C0 (by assumption))):aH A op σ L H nx K:=aH.of h k
theorem aZ (k:K v H' nx') (h:Act A op σ L H nx v H' nx':=by exact Act.aA rfl rfl (by omega)):aH A op σ L H nx K:=aH.of h k
theorem GA (k:K v H' nx') (h:Act A op σ L H nx v H' nx':=by exact Act.iB rfl rfl (by omega)):aH A op σ L H nx K:=aH.of h k
theorem gx (k:K v H' nx') (h:Act A op σ L H nx v H' nx':=by exact Act.fu rfl rfl (by omega)):aH A op σ L H nx K:=aH.of h k
theorem Ba (k:K v H' nx') (h:Act A op σ L H nx v H' nx':=by exact Act.iC rfl rfl rfl (by omega) (by omega)):aH A op σ L H nx K:=aH.of h k
theorem mD (k:K v H' nx') (h:Act A op σ L H nx v H' nx':=by exact Act.iF rfl rfl (by omega) (by unfold small;omega) (by unfold small;omega) (by omega)):aH A op σ L H nx K:=aH.of h k
theorem fj (k:K v H' nx') (h:Act A op σ L H nx v H' nx':=by exact Act.P6 rfl rfl rfl rfl gtP szP):aH A op σ L H nx K:=aH.of h k
theorem fL (k:K v H' nx') (h:Act A op σ L H nx v H' nx':=by exact Act.UL rfl rfl rfl (by omega) rfl gtP szP):aH A op σ L H nx K:=aH.of h k
theorem UP (k:K v H' nx') (h:Act A op σ L H nx v H' nx':=by exact Act.ix rfl rfl (by omega) (fX (by assumption))):aH A op σ L H nx K:=aH.of h k
theorem ei (k1:P→K (.bool true) H nx) (k2:¬P→K (.bool false) H nx) (h:Act A op σ L H nx (.bool (decide P)) H nx:=by exact Act.lss rfl rfl):aH A op σ L H nx K:=aH.both h k1 k2
theorem Zs (k1:P→K (.bool true) H nx) (k2:¬P→K (.bool false) H nx) (h:Act A op σ L H nx (.bool (decide P)) H nx:=by exact Act.leq rfl rfl):aH A op σ L H nx K:=aH.both h k1 k2
theorem LQ (k1:P→K (.bool true) H nx) (k2:¬P→K (.bool false) H nx) (h:Act A op σ L H nx (.bool (decide P)) H nx:=by exact Act.gtr rfl rfl):aH A op σ L H nx K:=aH.both h k1 k2
theorem C9 (k1:P→K (.bool true) H nx) (k2:¬P→K (.bool false) H nx) (h:Act A op σ L H nx (.bool (decide P)) H nx:=by exact Act.geq rfl rfl):aH A op σ L H nx K:=aH.both h k1 k2
theorem zl (k1:P→K (.bool true) H nx) (k2:¬P→K (.bool false) H nx) (h:Act A op σ L H nx (.bool (decide P)) H nx:=by exact Act.Zb rfl rfl):aH A op σ L H nx K:=aH.both h k1 k2
theorem om (k1:P→K (.bool true) H nx) (k2:¬P→K (.bool false) H nx) (h:Act A op σ L H nx (.bool (decide P)) H nx:=by exact Act.Zc rfl rfl):aH A op σ L H nx K:=aH.both h k1 k2
theorem bO (k:K v H' nx') (h:Act A op σ L H nx v H' nx':=by exact Act.Ze rfl rfl (by omega)):aH A op σ L H nx K:=aH.of h k
theorem Bb (k:K v H' nx') (h:Act A op σ L H nx v H' nx':=by exact Act.Zf rfl rfl (by omega) (by omega)):aH A op σ L H nx K:=aH.of h k
theorem qL (k:K v H' nx') (h:Act A op σ L H nx v H' nx':=by exact Act.Zg rfl rfl (by omega)):aH A op σ L H nx K:=aH.of h k
theorem MU (k:K v H' nx') (h:Act A op σ L H nx v H' nx':=by exact Act.Zh rfl rfl (by omega) (by omega)):aH A op σ L H nx K:=aH.of h k
theorem Bc (k:K v H' nx') (h:Act A op σ L H nx v H' nx':=by exact Act.Zi rfl rfl (by omega)):aH A op σ L H nx K:=aH.of h k
theorem Zt (k:K v H' nx') (h:Act A op σ L H nx v H' nx':=by exact Act.Zu rfl rfl (by omega)):aH A op σ L H nx K:=aH.of h k
theorem Da (k:K v H' nx') (h:Act A op σ L H nx v H' nx':=by exact Act.add rfl rfl arP):aH A op σ L H nx K:=aH.of h k
theorem Db (k:K v H' nx') (h:Act A op σ L H nx v H' nx':=by exact Act.sub rfl rfl arP):aH A op σ L H nx K:=aH.of h k
theorem jC (k:K v H' nx') (h:Act A op σ L H nx v H' nx':=by exact Act.al rfl):aH A op σ L H nx K:=aH.of h k
theorem JE (k:K v H' nx') (h:Act A op σ L H nx v H' nx':=by exact Act.dn rfl rfl rfl rfl rfl):aH A op σ L H nx K:=aH.of h k
theorem UQ (k:K v H' nx') (h:Act A op σ L H nx v H' nx':=by exact Act.min2 rfl rfl):aH A op σ L H nx K:=aH.of h k
theorem abF (k:K v H' nx') (h:Act A op σ L H nx v H' nx':=by exact Act.max2 rfl rfl):aH A op σ L H nx K:=aH.of h k
end
end Go.Eng

namespace Go.Eng
section
variable {P:Program}
theorem Bd {t:TypeId} {f0 f1:Field} {a0 a1 b0 b1:Int} {k:IntKind} (h:P.underlying t=some (.struct #[f0,f1])) (hs:P.stoodInHeld t=false) (n0:f0.name≠ "_") (n1:f1.name≠ "_")
  (o0:f0.offset=0) (o1:f1.offset=1) (t0:P.underlying f0.type=some (.int k)) (t1:P.underlying f1.type=some (.int k))
  (g0:quiet P (isAgg f0.type)=some false) (g1:quiet P (isAgg f1.type)=some false) (d:Nat) :
  quiet P (Op.equalIn (d + 1 + 1) t (.agg #[.int .i64 a0,.int .i64 a1]) (.agg #[.int .i64 b0,.int .i64 b1]))=some (a0 == b0&&a1 == b1):=by
 unfold Op.equalIn
 rw [cu h]
 have hp:quiet P program=some P:=rfl
 have e0:=fun a b:Int=>jd (P:=P) (a:=a) (b:=b) t0 d
 have e1:=fun a b:Int=>jd (P:=P) (a:=a) (b:=b) t1 d
 have p0:∀x y:Int,quiet P (part f0.type #[.int .i64 x,.int .i64 y] f0.offset)=some (.int .i64 x):=fun x y=>eH g0 (by rw [o0];rfl)
 have p1:∀x y:Int,quiet P (part f1.type #[.int .i64 x,.int .i64 y] f1.offset)=some (.int .i64 y):=fun x y=>eH g1 (by rw [o1];rfl)
 by_cases h0:a0=b0<;>by_cases h1:a1=b1<;>
  simp [cN,hp,hs,n0,n1,e0,e1,p0,p1,fV,h0,h1]
structure MV (P:Program) (t:TypeId):Prop where
 q:P.eqGuardType P.depth t=false
 n:∀a0 a1 b0 b1:Int,quiet P (Op.equal t (.agg #[.int .i64 a0,.int .i64 a1]) (.agg #[.int .i64 b0,.int .i64 b1]))=some (a0 == b0&&a1 == b1)
theorem MV.arr {t:TypeId} (hq:P.eqGuardType P.depth t=false) (h:yw P t):MV P t:=by
 obtain ⟨e,k,h1,h2,h3,h4⟩:=h.a
 exact ⟨hq,fun a0 a1 b0 b1=>uf (a0:=a0) (a1:=a1) (b0:=b0) (b1:=b1) h1 h2 h3 h4 9998⟩
theorem w7 {s:Sem Bool} {r:Bool} {f:Bool→Bool} (h:quiet P s=some r):quiet P (do pure (Value.bool (f (← s))):Sem Value)=some (.bool (f r)):=by
 have h2:∀s:Sem Bool,∀r,quiet P s=some r→quiet P (do pure (Value.bool (f (← s))):Sem Value)=some (.bool (f r)):=by
  intro s r
  induction s with
  | pure x=>intro h;cases h;rfl
  | program k ih=>intro h;exact ih P h
  | _=>intro h;cases h
 exact h2 _ _ h
theorem JF {op:BinOp} {t:TypeId} (hq:P.eqGuardType P.depth t=false) (ho:op=.eql∨op=.neq) {a0 a1 b0 b1:Int}:quiet P (eqGuard op t (.const (.agg #[.int .i64 a0,.int .i64 a1])) (.const (.agg #[.int .i64 b0,.int .i64 b1])) (.agg #[.int .i64 a0,.int .i64 a1]) (.agg #[.int .i64 b0,.int .i64 b1]))=some ():=by
 rcases ho with rfl|rfl<;>
 ·show quiet P (if (!(P.eqGuardType P.depth t))=true then _ else _)=_
  rw [hq]
  rfl
theorem GB {t:TypeId} (h:MV P t) {a0 a1 b0 b1:Int}:ko P .eql t (.agg #[.int .i64 a0,.int .i64 a1]) (.agg #[.int .i64 b0,.int .i64 b1])=some (.bool (a0 == b0&&a1 == b1)):=by
 unfold ko
 have h3:quiet P (do eqGuard .eql t (.const (.agg #[.int .i64 a0,.int .i64 a1])) (.const (.agg #[.int .i64 b0,.int .i64 b1])) (.agg #[.int .i64 a0,.int .i64 a1]) (.agg #[.int .i64 b0,.int .i64 b1]);binOp .eql t (.agg #[.int .i64 a0,.int .i64 a1]) (.agg #[.int .i64 b0,.int .i64 b1]):Sem Value)=some (.bool (a0 == b0&&a1 == b1)):=by
  rw [cN,JF h.q (.inl rfl)]
  exact w7 (f:=fun b=>b) (h.n a0 a1 b0 b1)
 rw [h3]
 rfl
theorem GC {t:TypeId} (h:MV P t) {a0 a1 b0 b1:Int}:ko P .neq t (.agg #[.int .i64 a0,.int .i64 a1]) (.agg #[.int .i64 b0,.int .i64 b1])=some (.bool (!(a0 == b0&&a1 == b1))):=by
 unfold ko
 have h3:quiet P (do eqGuard .neq t (.const (.agg #[.int .i64 a0,.int .i64 a1])) (.const (.agg #[.int .i64 b0,.int .i64 b1])) (.agg #[.int .i64 a0,.int .i64 a1]) (.agg #[.int .i64 b0,.int .i64 b1]);binOp .neq t (.agg #[.int .i64 a0,.int .i64 a1]) (.agg #[.int .i64 b0,.int .i64 b1]):Sem Value)=some (.bool (!(a0 == b0&&a1 == b1))):=by
  rw [cN,JF h.q (.inr rfl)]
  exact w7 (f:=fun b=>!b) (h.n a0 a1 b0 b1)
 rw [h3]
 rfl
end
section
variable {A:aG} {H H':Heap} {nx nx':Nat} {σ:aP} {L:List Value} {Q:ct}
theorem Act.Qd {t:TypeId} {x y:Od} {a0 a1 b0 b1:Int} (h:MV A.P t) (hx:ev σ L x=some (.agg ⟨[.int .i64 a0,.int .i64 a1]⟩)) (hy:ev σ L y=some (.agg ⟨[.int .i64 b0,.int .i64 b1]⟩)):Act A (.bin .eql t x y) σ L H nx (.bool (decide ((a0,a1)=(b0,b1)))) H nx:=by
 refine .eA hx hy fun k=>?_
 unfold Eng.eA
 show bd (ko A.P .eql t (.agg #[.int .i64 a0,.int .i64 a1]) (.agg #[.int .i64 b0,.int .i64 b1])) k=_
 rw [GB h]
 have:(a0 == b0&&a1 == b1)=decide ((a0,a1)=(b0,b1)):=by
  by_cases h0:a0=b0<;>by_cases h1:a1=b1<;>simp [h0,h1]
 rw [this]
 rfl
theorem Act.Zv {t:TypeId} {x y:Od} {a0 a1 b0 b1:Int} (h:MV A.P t) (hx:ev σ L x=some (.agg ⟨[.int .i64 a0,.int .i64 a1]⟩)) (hy:ev σ L y=some (.agg ⟨[.int .i64 b0,.int .i64 b1]⟩)):Act A (.bin .neq t x y) σ L H nx (.bool (decide ((a0,a1)≠(b0,b1)))) H nx:=by
 refine .eA hx hy fun k=>?_
 unfold Eng.eA
 show bd (ko A.P .neq t (.agg #[.int .i64 a0,.int .i64 a1]) (.agg #[.int .i64 b0,.int .i64 b1])) k=_
 rw [GC h]
 have:(!(a0 == b0&&a1 == b1))=decide ((a0,a1)≠(b0,b1)):=by
  by_cases h0:a0=b0<;>by_cases h1:a1=b1<;>simp [h0,h1]
 rw [this]
 rfl
theorem UR (n:Nat):Nat.beq n n=true:=by simp
theorem Act.US {by_:Nat} {s i x:Od} {b c b2 c2 j:Nat} {cs new:List Value} (hs:ev σ L s=some (.slice (some ⟨b,0,some 1⟩) cs.length c)) (hi:ev σ L i=some (.int .i64 (j:Int))) (hx:ev σ L x=some (.slice (some ⟨b2,0,some 1⟩) new.length c2))
  (hb:ak H (at_ b)=some (.cells cs)) (kl:ak H (at_ b2)=some (.cells new)) (cy:b≠b2) (hn:0 < new.length) (hj:j≤cs.length) (o1:br cs=true) (o2:br new=true) (h1:(cs.length + new.length) * by_≤small) (h2:cs.length + new.length≤small) :
  Act A (.ins 1 by_ s i x) σ L H nx (.slice (some ⟨nx,0,some 1⟩) (cs.length + new.length) (2 * (cs.length + new.length))) (aw (kill H b) nx (cs.take j++(new++cs.drop j))) (nx + 1):=by
 refine ⟨fun T hT k=>?_⟩
 show aS T L s (fun s=>aS T L i fun i=>lA i fun i=>aS T L x fun v=>xK 1 by_ H nx k i s v)=_
 rw [hT.aS hs,hT.aS hi]
 show aS T L x (fun v=>xK 1 by_ H nx k j (.slice (some ⟨b,0,some 1⟩) cs.length c) v)=_
 rw [hT.aS hx]
 show cond (and (Nat.beq 1 1) (and (Nat.beq 1 1) (and (Nat.blt 0 1) (and (Nat.blt 0 new.length) (and (Nat.ble j cs.length) (!(Nat.beq b b2))))))) _ none=_
 have e1:Nat.blt 0 new.length=true:=by rw [Nat.blt_eq];exact hn
 have e2:Nat.ble j cs.length=true:=Nat.ble_eq_true_of_le hj
 have e3:Nat.beq b b2=false:=by
  cases hq:Nat.beq b b2 with
  | false=>rfl
  | true=>exact absurd (Nat.eq_of_beq_eq_true hq) cy
 rw [e1,e2,e3]
 show dy H b (fun cs'=>dy H b2 fun gR=>bd (take? (Nat.mul cs.length 1) (dH cs' 0)) fun old=>bd (take? (Nat.mul new.length 1) (dH gR 0)) fun oY=>bd (take? (Nat.mul j 1) old) fun front=>
   cond (and (br old) (br oY)) (cQ (at_ b) H none fun H=>dg 1 by_ H nx k cs.length new.length front (oY++dH old (Nat.mul j 1))) none)=_
 rw [gk hb,gk kl,du,du]
 have t1:take? (Nat.mul cs.length 1) (cs.drop 0)=some cs:=by rw [show Nat.mul cs.length 1=cs.length from Nat.mul_one _];exact take?_all cs
 have t2:take? (Nat.mul new.length 1) (new.drop 0)=some new:=by rw [show Nat.mul new.length 1=new.length from Nat.mul_one _];exact take?_all new
 have t3:take? (Nat.mul j 1) cs=some (cs.take j):=by rw [show Nat.mul j 1=j from Nat.mul_one _];exact take?_of _ _ hj
 rw [t1]
 show bd (take? (Nat.mul new.length 1) (new.drop 0)) _=_
 rw [t2]
 show bd (take? (Nat.mul j 1) cs) _=_
 rw [t3]
 show cond (and (br cs) (br new)) _ none=_
 rw [o1,o2]
 show cQ (at_ b) H none (fun H=>dg 1 by_ H nx k cs.length new.length (cs.take j) (new++dH cs (Nat.mul j 1)))=_
 rw [bN,kG h1 h2,du,show Nat.mul j 1=j from Nat.mul_one _]
 rfl
theorem Act.Qe {by_:Nat} {s i x:Od} {n0 c0 b2 c2:Nat} {new:List Value} (hs:ev σ L s=some (.slice none n0 c0)) (hi:ev σ L i=some (.int .i64 ((0:Nat):Int))) (hx:ev σ L x=some (.slice (some ⟨b2,0,some 1⟩) new.length c2))
  (kl:ak H (at_ b2)=some (.cells new)) (hn:0 < new.length) (o2:br new=true) (h1:new.length * by_≤small) (h2:new.length≤small) :
  Act A (.ins 1 by_ s i x) σ L H nx (.slice (some ⟨nx,0,some 1⟩) new.length (2 * new.length)) (aw (kill H nx) nx new) (nx + 1):=by
 refine ⟨fun T hT k=>?_⟩
 show aS T L s (fun s=>aS T L i fun i=>lA i fun i=>aS T L x fun v=>xK 1 by_ H nx k i s v)=_
 rw [hT.aS hs,hT.aS hi]
 show aS T L x (fun v=>xK 1 by_ H nx k 0 (.slice none n0 c0) v)=_
 rw [hT.aS hx]
 show cond (and (Nat.beq 1 1) (and (Nat.blt 0 1) (and (Nat.blt 0 new.length) (Nat.beq 0 0)))) _ none=_
 have e1:Nat.blt 0 new.length=true:=by rw [Nat.blt_eq];exact hn
 rw [e1]
 show dy H b2 (fun gR=>bd (take? (Nat.mul new.length 1) (dH gR 0)) fun oY=>cond (br oY) (cQ (at_ nx) H none fun H=>dg 1 by_ H nx k 0 new.length [] oY) none)=_
 rw [gk kl,du]
 have t2:take? (Nat.mul new.length 1) (new.drop 0)=some new:=by rw [show Nat.mul new.length 1=new.length from Nat.mul_one _];exact take?_all new
 rw [t2]
 show cond (br new) _ none=_
 rw [o2]
 show cQ (at_ nx) H none (fun H=>dg 1 by_ H nx k 0 new.length [] new)=_
 rw [bN,kG (by simpa using h1) (by simpa using h2)]
 simp
 rfl
theorem WO.abG {p:Option (List Bool)} {l:List (AO×List bx)} {z by_:Nat} {s i x:Od} {v:Value} (ha:Act A (.ins z by_ s i x) σ L H nx v H' nx') (h:WO A l (kb p v σ) (v::L) H' nx' Q):WO A ((⟨p,none,.ins z by_ s i x⟩,[])::l) σ L H nx Q:=.ins ha .nil h
end
end Go.Eng
