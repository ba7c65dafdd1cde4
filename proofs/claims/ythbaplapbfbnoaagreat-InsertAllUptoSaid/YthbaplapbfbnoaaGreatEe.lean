import Derived.Test.YthbaplapbfbnoaaGreatEd
import Derived.Deep.Slices
/- An interpreter of the model's code that follows one order and is proved right for all: part 5. -/

set_option maxRecDepth 100000
namespace Go.Eng
section
variable {ρ:bY}{H:Heap}{nx:Nat}{hp:Array Obj}
structure Ro(ρ:bY)(H:Heap)(nx:Nat)(hp:Array Obj):Prop where
 hr:HR ρ H nx hp
 ro:∀b k,ah H (at_ b)=some k->k.kj=false
theorem Ro.empty(hp:Array Obj):Ro (λ_=>none) .e 0 hp:=⟨⟨(λb k hb=>by cases hb),(λb b' k k' s s' hb=>by cases hb),λ_ _=>rfl⟩,λb k hb=>by cases hb⟩
theorem Ro.up(h:Ro ρ H nx hp):Ro ρ H (nx+1) hp:=⟨⟨h.hr.blk,h.hr.inj,λb hb=>h.hr.new b V⟩,h.ro⟩
theorem Th.mono{ρ ρ':bY}{r:Ref}{cs:List Value}(e:Ext ρ ρ')(h:Th ρ hp r cs):Th ρ' hp r cs:=
 let ⟨a,t,f,h1,h2,h3⟩:=h
 ⟨a,t,f,h1,h2,λi v hv=>let ⟨v',g,hr⟩:=h3 i v hv;⟨v',g,hr.mono e⟩⟩
theorem Ro.add(h:Ro ρ H nx hp){r:Ref}{cs:List Value}(hr:Th ρ hp r cs):Ro (ρ.with nx r) (cA (at_ nx) H (some (.ro cs))) (nx+1) hp:=by
 have ext:=h.hr.gz r;have mQ:∀b x,ah (cA (at_ nx) H (some (.ro cs))) (at_ b)=some x->(b=nx/\x=.ro cs)\/(b≠nx/\ah H (at_ b)=some x):=by
  intro b x hb;by_cases e:at_ b=at_ nx
  ·rw[e,cB]at hb;exact .inl ⟨gy e,by simpa using hb.symm⟩
  ·rw[bz _ _ _ _ e]at hb;exact .inr ⟨λe'=>e (by rw[e']),hb⟩
 have o8:∀b k,ah (cA (at_ nx) H (some (.ro cs))) (at_ b)=some k->k.kj=false:=by
  intro b k hb;rcases mQ b k hb with⟨_,rfl⟩|⟨_,hb⟩
  ·rfl
  ·exact h.ro b k hb
 refine⟨⟨λb x hb=>?_,λb c x y s t hb hc hm=>?_,λb hb=>?_⟩,o8⟩
 ·rcases mQ b x hb with⟨rfl,rfl⟩|⟨cG,hb⟩
  ·exact⟨r,bY.fu _ _ _,hr.mono ext⟩
  ·obtain⟨s,hs,zO⟩:=h.hr.blk b x hb;exact⟨s,ext b s hs,zO.mono ext⟩
 ·rw[o8 b x hb]at hm;cases hm
 ·rw[bY.iD _ _ V];exact h.hr.new b V
section
variable {X:Type}{enc:TypeId×Value->X}{P:Program}{w:World}{base:Nat}
theorem mapM_cells{w:World}{a:Addr}{n:Nat}{cs:List Value}(h:w.cells? base a n=some cs):cs.length=n/\∀i,i<n->w.cell? (a.add i)=cs[i]?:=by
 unfold World.cells? at h;split at h
 ·exact⟨by simpa using mapM_some_length h,λi hi=>mapM_some_get h i i (by simp[hi])⟩
 ·cases h
theorem yB{α:Type}{encα:α->List Value}{z fuel:Nat}{t e:TypeId}{v:Value}{x:DataW X×List MemPlace}(ht:P.underlying t=some (.slice e))(hz:P.cellsOf e=z)(zT:0<z)(hlen:∀a,(encα a).length=z)(qj:∀a,(encα a).all scalar=true)(hE:∀fuel c y,DataW.trod enc P w base (λ_=>true) true fuel e c=some y->∃a,c=encα a)(Xy:∀a len cap,v=.slice (some a) len cap->a.spot=none/\∃row cells,w.shape? a.block=some (row,cells))(hd:DataW.trod enc P w base (λ_=>true) true fuel t [v]=some x)(o8:Ro ρ H nx w.heap) :
  ∃ρ' H' av,∃xs:List α,Ext ρ ρ'/\Ro ρ' H' (nx+1) w.heap/\aq H H' nx/\VR ρ' av v/\bL H' (nx+1) z encα av xs:=by
 rcases Deep.open_slice ht hd with⟨h,_⟩|⟨a,len,cap,m,n,D,Pl,h,_,hl,hm,VL,_,oX⟩
 ·obtain rfl:v=.slice none 0 0:=by simpa using h
  exact⟨ρ,H,.slice none 0 0,[],.refl ρ,o8.up,.refl,.mP,.nil⟩
 ·obtain rfl:v=.slice (some a) len cap:=by simpa using h
  obtain⟨AF,row,cells,rZ⟩:=Xy a len cap rfl;obtain⟨blk,off,spot⟩:=a;obtain rfl:spot=none:=AF;obtain rfl:m=cap:=by simpa using VL
  rw[hz]at oX;have sy:∀i,i<m->∃a,w.cells? base ((⟨blk,off,none⟩:Addr).add (i*z)) z=some (encα a):=λi hi=>by
   obtain⟨cs,h1,h2⟩:=oX i hi;obtain⟨a,rfl⟩:=hE _ _ _ h2;exact⟨a,h1⟩
  have aeV:∃arr te fz,w.heap[blk]?=some (.cells arr te fz):=by
   unfold World.shape? at rZ;split at rZ
   ·rename_i c el fz hh;exact⟨c,el,fz,hh⟩
   ·cases rZ
  obtain⟨arr,te,fz,PA⟩:=aeV;have bH:∀o v,w.cell? ⟨blk,o,none⟩=some v->arr[o]?=some v:=λo v hv=>by
   unfold World.cell? at hv;rw[PA]at hv
   simpa using hv
  have kk:∀i,i<m->∃a,∀j,j<z->arr[off+i*z+j]?=(encα a)[j]?:=λi hi=>by
   obtain⟨a,ha⟩:=sy i hi;refine⟨a,λj hj=>?_⟩;have h1:=(mapM_cells ha).2 j hj;obtain⟨u,h2⟩:∃u,(encα a)[j]?=some u:=⟨_,aM (by rw[hlen];exact hj)⟩;rw[h2,Go.WideShapes.add_plain,Go.WideShapes.add_plain]at h1;rw[h2];exact bH _ _ h1
  have hxs:∀k,k<=len->∃xs:List α,xs.length=k/\∀i a,xs[i]?=some a->∀j,j<z->arr[off+i*z+j]?=(encα a)[j]?:=by
   intro k
   induction k with
   | zero=>intro _;exact⟨[],rfl,λi a h=>by simp at h⟩
   | succ k ih=>
    intro hk;obtain⟨xs,h1,h2⟩:=ih V;obtain⟨a,ha⟩:=kk k V;refine⟨xs++[a],by simp[h1],λi b hb=>?_⟩;by_cases hi:i<k
    ·rw[eC V]at hb;exact h2 i b hb
    ·have cg:=(cS.1 hb).1;simp at cg;obtain rfl:i=k:=V;rw[aiQ V,h1]at hb;simp at hb;subst hb;exact ha
  obtain⟨xs,hx1,hx2⟩:=hxs len (au _);have VM:∀i v,(xs.flatMap encα)[i]?=some v->arr[off+i]?=some v/\scalar v=true:=by
   intro i v hv;have hi:=(cS.1 hv).1;have oJ:(xs.flatMap encα).length=xs.length*z:=by
    clear hv hi hx2 hx1
    induction xs with
    | nil=>simp
    | cons y ys ih=>rw[List.flatMap_cons,cm,hlen,ih,hO,Nat.succ_mul];omega
   have hq:i / z<xs.length:=by
    rw[Nat.div_lt_iff_lt_mul zT];omega
   obtain⟨l,r,p1,p2⟩:=J3 hlen xs (i / z) _ (aM hq);have yC:=Nat.mod_lt i zT;have hdm:=Nat.div_add_mod i z;rw[Nat.mul_comm]at hdm;have h3:(xs.flatMap encα)[i]?=(encα xs[i / z])[i%z]?:=by
    rw[p1,jj,aiQ V,p2,eC (by rw[hlen];omega)]
    congr 1;omega
   have h4:=hx2 (i / z) _ (aM hq) (i%z) yC;rw[<-h3,hv]at h4;refine⟨by rw[<-h4];congr 1;omega,?_⟩;rw[hv]at h3;exact List.all_eq_true.1 (qj _) v (dM h3.symm)
  have jz:Th ρ w.heap ⟨blk,off,arr.size⟩ (xs.flatMap encα):=⟨arr,te,fz,PA,rfl,λi v hv=>⟨v,(VM i v hv).1,.sc (VM i v hv).2⟩⟩;have PB:m=0\/off+m*z<=arr.size:=by
   by_cases h0:m=0
   ·exact .inl h0
   ·right;obtain⟨a,ha⟩:=kk (m-1) V;have:=ha (z-1) V;rw[aM (by rw[hlen];omega)]at this;have cg:=(Array.getElem?_eq_some_iff.1 this).1;have:(m-1)*z+z=m*z:=by rw[<-Nat.succ_mul];congr 1;omega
    omega
  have Nt:m<=ft:=by unfold maxLen at hm;unfold ft;omega
  have rL:ah (cA (at_ nx) H (some (.ro (xs.flatMap encα)))) (at_ nx)=some (.ro (xs.flatMap encα)):=cB _ _ _;refine⟨ρ.with nx ⟨blk,off,arr.size⟩,_,.slice (some ⟨nx,0,some z⟩) xs.length (2*len),xs,o8.hr.gz _,o8.add jz,λb hb=>bz _ _ _ _ (λe=>by have:=gy e;omega),?_,.pre (rest:=[]) (.inr (by rw[gN];exact rL)) V (by rw[bT];omega) hlen⟩;rw[hx1];exact .sl (bY.fu _ _ _) ⟨hl,Nt⟩ (by rw[bT];exact hl) (λe=>by rw[qz]at e;cases e) (PB.imp id λh=>⟨rfl,h⟩)
end
end
section
variable {ρ:bY}{H H':Heap}{nx nx':Nat}{hp:Array Obj}
def Ft(u:Value):List Value:=[u]
theorem abq(us:List Value):us.flatMap Ft=us:=by
 induction us with
 | nil=>rfl
 | cons u us ih=>rw[List.flatMap_cons,ih];rfl
def er{α:Type}(H:Heap)(nx z:Nat)(enc:α->List Value)(v:Value)(ls:List (List α)):Prop:=
 ∃us:List Value,us.length=ls.length/\bL H nx 1 Ft v us/\∀(i:Nat) (u:Value) (l:List α),us[i]?=some u->ls[i]?=some l->bL H nx z enc u l
theorem er.same{α:Type}{z:Nat}{enc:α->List Value}{v:Value}{ls:List (List α)}(h:er H nx z enc v ls)(hs:aq H H' nx):er H' nx z enc v ls:=
 let ⟨us,h1,h2,h3⟩:=h
 ⟨us,h1,h2.same hs,λi u l hu hl=>(h3 i u l hu hl).same hs⟩
theorem er.up{α:Type}{z:Nat}{enc:α->List Value}{v:Value}{ls:List (List α)}(h:er H nx z enc v ls)(hn:nx<=nx'):er H nx' z enc v ls:=
 let ⟨us,h1,h2,h3⟩:=h
 ⟨us,h1,h2.up hn,λi u l hu hl=>(h3 i u l hu hl).up hn⟩
theorem er.form{α:Type}{z:Nat}{enc:α->List Value}{v:Value}{ls:List (List α)}(h:er H nx z enc v ls):∃base c,v=.slice base ls.length c:=by
 obtain⟨us,h1,h2,_⟩:=h;obtain⟨b,c,h4⟩:=h2.form;exact⟨b,c,by rw[<-h1];exact h4⟩
theorem er.at{α:Type}{z:Nat}{enc:α->List Value}{base:Option Addr}{n c:Nat}{ls:List (List α)}(h:er H nx z enc (.slice base n c) ls){i:Nat}(hi:i<ls.length) :
  ∃b o cs ib ic,base=some ⟨b,o,some 1⟩/\b<nx/\Rd H b cs/\cs[o+i*1]?=some (.slice ib (ls[i]).length ic)/\bL H nx z enc (.slice ib (ls[i]).length ic) ls[i]:=by
 obtain⟨us,h1,h2,h3⟩:=h;have cG:us≠[]:=by intro e;rw[e]at h1;simp at h1;omega
 obtain⟨b,o,cs,rfl,g1,g2,g3,g4,g5⟩:=h2.at cG;have hu:us[i]?=some us[i]:=aM V;have hs:=h3 i _ _ hu (aM hi);obtain⟨ib,ic,he⟩:=hs.form;have hc:=cX (v:=us[i]) (g5 i _ hu);rw[he]at hc hs;exact⟨b,o,cs,ib,ic,rfl,g1,g4,hc,hs⟩
section
variable {X:Type}{enc:TypeId×Value->X}{P:Program}{w:World}{base:Nat}
theorem Il{α:Type}{encα:α->List Value}{z fuel:Nat}{t e:TypeId}{v:Value}{x:DataW X×List MemPlace}(ht:P.underlying t=some (.slice e))(hz:P.cellsOf e=z)(zT:0<z)(hlen:∀a,(encα a).length=z)(qj:∀a,(encα a).all scalar=true)(hE:∀fuel c y,DataW.trod enc P w base (λ_=>true) true fuel e c=some y->∃a,c=encα a)(hd:DataW.trod enc P w base (λ_=>true) true fuel t [v]=some x)(o8:Ro ρ H nx w.heap) :
  ∃ρ' H' av,∃xs:List α,Ext ρ ρ'/\Ro ρ' H' (nx+1) w.heap/\aq H H' nx/\VR ρ' av v/\bL H' (nx+1) z encα av xs:=by
 rcases Deep.open_slice ht hd with⟨h,_⟩|⟨a,len,cap,m,n,D,Pl,h,_,hl,hm,VL,_,oX⟩
 ·obtain rfl:v=.slice none 0 0:=by simpa using h
  exact⟨ρ,H,.slice none 0 0,[],.refl ρ,o8.up,.refl,.mP,.nil⟩
 ·obtain rfl:v=.slice (some a) len cap:=by simpa using h
  by_cases h0:cap=0
  ·subst h0;obtain rfl:len=0:=V;exact⟨ρ,H,_,[],.refl ρ,o8.up,.refl,.Jz,⟨_,_,rfl,λe=>(by cases e),λa ha=>(by cases ha;exact .inl ⟨rfl,rfl,rfl⟩)⟩⟩
  ·have Ck:m=cap:=by simpa using VL
   obtain⟨cs,h1,h2⟩:=oX 0 V;obtain⟨a0,rfl⟩:=hE _ _ _ h2;have hc:=(mapM_cells h1).2 0 (by rw[hz];exact zT);have hx0:∃u,(encα a0)[0]?=some u:=⟨_,aM (by rw[hlen];exact zT)⟩;obtain⟨u,hu⟩:=hx0;rw[hu]at hc;have AF:a.spot=none/\∃row cells,w.shape? a.block=some (row,cells):=by
    obtain⟨blk,off,spot⟩:=a;unfold World.cell? at hc;split at hc
    ·rename_i c el fz hh;cases spot with
     | some q=>simp[Addr.add]at hc
     | none=>
      have Ty:w.heap[blk]?=some (.cells c el fz):=by simpa[Addr.add]using hh
      exact⟨rfl,el,c.size,by unfold World.shape?;simp only[Ty]⟩
    ·cases hc
   obtain⟨ρ',H',av,xs,g1,g2,g3,g4,g5⟩:=yB ht hz zT hlen qj hE (λa' ahO ahP hv=>by cases hv;exact AF) hd o8;exact⟨ρ',H',av,xs,g1,g2,g3,g4,g5⟩
end
end
section
variable {P:Program}{ins:List Nat}{A:aN}{ρ:bY}{H:Heap}{nx:Nat}{hp:Array Obj}
theorem dX.refined(hA:GR P ins A){g:FuncId}{vs:List Value}{v:Value}(qU:fI P g)(hv:scalar v=true)(h:∀(ρ:bY) (us:List Value) (w:World),dJ ρ vs us->HR ρ H nx w.heap->∃GZ H2,dJ ρ GZ us/\HR ρ H2 nx w.heap/\(∀k,mf ρ H2 k->mf ρ H k)/\WF A g GZ H2 nx λv' _ _=>v'=v):dX P g vs H nx (.ok v .e nx):=by
 refine⟨qU,au _,λρ us w mS hH=>?_⟩;obtain⟨GZ,H2,g1,g2,g3,g4⟩:=h ρ us w mS hH;obtain⟨m,v',H',nx',fT,rfl⟩:=g4.out;refine(((CO hA m).1 g GZ H2 _ _ fT).2 ρ us w g1 g2).mono λe w' hr=>?_
 obtain⟨u,ρ',q1,q2,q3⟩:=hr;refine⟨u,ρ,q1,?_,⟨⟨(λb k hb=>by cases hb),(λb b' k k' s s' hb=>by cases hb),hH.new⟩,⟨.refl ρ,(λk hk=>by obtain⟨b,x,r,hb,_⟩:=hk;cases hb),(λb x hb=>by cases hb),(λk hk hn=>q3.iw.frame k hk λho=>hn (g3 k ho)),q3.iw.size,q3.iw.os,q3.iw.tape,q3.iw.output⟩,au _,λ_ _=>rfl⟩⟩;rw[q2.eM hv];exact .sc hv
def CS(v u:Value):Prop:=(∀d o z n c,v=.slice (some ⟨d,o,some z⟩) n c->∃c',u=.slice (some ⟨d,o,some z⟩) n (2*c'+1)/\n<=c'/\c'<=ft)/\((∀d o z n c,v≠.slice (some ⟨d,o,some z⟩) n c)->u=v)
theorem bU(c:Nat):aF (2*c+1)=c:=by
 show (2*c+1) / 2=c;omega
theorem u3(c:Nat):exact (2*c+1)=true:=by
 unfold exact;have:Nat.mod (2*c+1) 2=1:=by
  show (2*c+1)%2=1;omega
 rw[this];rfl
theorem VR.roomy{v v':Value}(h:VR ρ v v'):∃u,CS v u/\VR ρ u v':=by
 have other:(∀d o z n c,v≠.slice (some ⟨d,o,some z⟩) n c)->∃u,CS v u/\VR ρ u v':=λhn=>⟨v,⟨λd o z n c e=>absurd e (hn d o z n c),λ_=>rfl⟩,h⟩
 cases h with
 | @sl b o z len c p c' r hs hl qj he hp=>
  refine⟨.slice (some ⟨b,o,some z⟩) len (2*c'+1),⟨λd o' z' n c2 e=>?_,λhn=>absurd rfl (hn _ _ _ _ _)⟩,.sl hs hl (by rw[bU];exact au _) (λ_=>(bU _).symm) hp⟩;cases e;exact⟨c',rfl,hl.1,hl.2⟩
 | sc hs=>exact other λd o z n c e=>by subst e;simp[scalar]at hs
 | _=>exact other λd o z n c e=>by cases e
theorem dJ.roomy{vs us:List Value}(h:dJ ρ vs us):∃GZ:List Value,GZ.length=vs.length/\(∀(i:Nat) (v u:Value),vs[i]?=some v->GZ[i]?=some u->CS v u)/\dJ ρ GZ us:=by
 induction vs generalizing us with
 | nil=>exact⟨[],rfl,λi v u hv=>by simp at hv,h⟩
 | cons v vs ih=>
  cases h with
  | cons h hs=>
   obtain⟨u,h1,h2⟩:=h.roomy;obtain⟨GZ,g1,g2,g3⟩:=ih hs;refine⟨u::GZ,by simp[g1],λi x y hx hy=>?_,.cons h2 g3⟩;cases i with
   | zero=>simp at hx hy;subst hx;subst hy;exact h1
   | succ i=>exact g2 i x y (by simpa using hx) (by simpa using hy)
theorem HR.roomy(h:HR ρ H nx hp){b:Nat}{cs:List Value}(hb:ah H (at_ b)=some (.cells cs)):∃kf:List Value,kf.length=cs.length/\(∀(i:Nat) (v u:Value),cs[i]?=some v->kf[i]?=some u->CS v u)/\
  HR ρ (cA (at_ b) H (some (.cells kf))) nx hp/\∀k,mf ρ (cA (at_ b) H (some (.cells kf))) k->mf ρ H k:=by
 obtain⟨r,hr,a,e,ha,m7,hc⟩:=h.blk b _ hb;have mS:∃us:List Value,dJ ρ cs us/\∀(i:Nat) (u:Value),us[i]?=some u->a[r.sh+i]?=some u:=by
  clear hb;have:∀(cs:List Value) (o:Nat),(∀i v,cs[i]?=some v->∃v',a[o+i]?=some v'/\VR ρ v v')->∃us:List Value,dJ ρ cs us/\∀(i:Nat) (u:Value),us[i]?=some u->a[o+i]?=some u:=by
   intro cs
   induction cs with
   | nil=>intro o _;exact⟨[],.nil,λi u hu=>by simp at hu⟩
   | cons v cs ih=>
    intro o hc;obtain⟨v',h1,h2⟩:=hc 0 v rfl;obtain⟨us,g1,g2⟩:=ih (o+1) (λi x hx=>by
     obtain⟨x',q1,q2⟩:=hc (i+1) x (by simpa using hx);exact⟨x',by rw[<-q1];congr 1;omega,q2⟩)
    refine⟨v'::us,.cons h2 g1,λi u hu=>?_⟩;cases i with
    | zero=>simp at hu;subst hu;exact h1
    | succ i=>
     have:=g2 i u (by simpa using hu);rw[<-this];congr 1;omega
  exact this cs r.sh hc
 obtain⟨us,hv,hu⟩:=mS;obtain⟨kf,h1,h2,h3⟩:=hv.roomy;refine⟨kf,h1,h2,h.write hb hr (λ_ _=>rfl) ⟨a,e,ha,m7,λi v hi=>?_⟩,λk hk=>mf.pw hb hk⟩;obtain⟨v',g1,g2⟩:=h3.get hi;exact⟨v',hu i v' g1,g2⟩
end
section
section
variable {A:aN}{H H':Heap}{nx nx':Nat}{σ:aR}{L:List Value}{Q:cw}
theorem u4{a b:Nat}(hb:b<18446744073709551616):cW (Js a b)=some (a,b):=by
 show some (DZ (Nat.add (Nat.mul a 18446744073709551616) b),A0 (Nat.add (Nat.mul a 18446744073709551616) b))=_;rw[Oo hb,Oq hb]
theorem nC{n:Nat}:cW (.int .i64 (n:Int))=some (n,n):=rfl
theorem Act.aeW{x:Od}{a:Addr}{n c:Nat}(hx:ev σ L x=some (.slice (some a) n c))(he:exact c=false):Act A (.cap x) σ L H nx (Js (aF c) 9223372036854775807) H nx:=by
 refine⟨λT hT k=>?_⟩;show bI T L x (λv=>D3 v λv=>k v H nx)=_;rw[hT.bI hx];show cond (exact c) _ _=_;rw[he];rfl
theorem Act.Xz{x:Od}{a:Addr}{n c:Nat}(hx:ev σ L x=some (.slice (some a) n c))(he:exact c=true):Act A (.cap x) σ L H nx (.int .i64 ((aF c:Nat):Int)) H nx:=by
 refine⟨λT hT k=>?_⟩;show bI T L x (λv=>D3 v λv=>k v H nx)=_;rw[hT.bI hx];show cond (exact c) _ _=_;rw[he];rfl
theorem Act.abr{x:Od}{n c:Nat}(hx:ev σ L x=some (.slice none n c)):Act A (.cap x) σ L H nx (.int .i64 ((0:Nat):Int)) H nx:=by
 refine⟨λT hT k=>?_⟩;show bI T L x (λv=>D3 v λv=>k v H nx)=_;rw[hT.bI hx];rfl
theorem Fu{P:Program}{op:BinOp}{t:TypeId}{x y v:Value}{a b c d:Nat}(hf:Ae op x y=none)(hn:(flat x&&flat y)=false)(hi:(fF x||fF y)=true)(hx:cW x=some (a,b))(hy:cW y=some (c,d))(h:vz op a b c d=some v)(k:KV):jl P op t x y k=k v:=by
 unfold jl;rw[hf];have:sI P op t x y=some v:=by
  unfold sI;rw[hn];show xB op x y=_;unfold xB;rw[hi,hx,hy];exact h
 show bd (sI P op t x y) k=_;rw[this];rfl
theorem Me{op:BinOp}{k:Option Nat}{y:Value}:Ae op (.chan k) y=none:=by cases y<;>rfl
theorem Im{op:BinOp}{k:Option Nat}{x:Value}:Ae op x (.chan k)=none:=by
 unfold Ae;split<;>simp_all
section one
variable {t:TypeId}{x y:Od}{a b c d:Nat}
end one
theorem Mf{a b c d:Nat}(h:b+d<9223372036854775808):vz .add a b c d=some (Js (a+c) (b+d)):=by
 show (bif Nat.blt (b+d) 9223372036854775808 then _ else _)=_;have:Nat.blt (b+d) 9223372036854775808=true:=by rw[Nat.blt_eq];exact h
 rw[this];rfl
theorem Mg{a b c d:Nat}(h:b<=c):vz .leq a b c d=some (.bool true):=by
 show (bif Nat.ble b c then _ else _)=_;rw[Nat.ble_eq_true_of_le h];rfl
theorem Mh{a b c d:Nat}(h:d<a)(h2:c<b):vz .gtr a b c d=some (.bool true):=by
 show (bif Nat.ble b c then _ else bif Nat.blt d a then _ else _)=_;have e1:Nat.ble b c=false:=by
  cases hb:Nat.ble b c with
  | false=>rfl
  | true=>have:=lu hb;omega
 have e2:Nat.blt d a=true:=by rw[Nat.blt_eq];exact h
 rw[e1,e2];rfl
theorem Act.aeX{x y:Od}{vx vy:Value}{a b c d:Nat}(hx:ev σ L x=some vx)(hy:ev σ L y=some vy)(hi:(fF vx||fF vy)=true)(ha:cW vx=some (a,b))(hb:cW vy=some (c,d)):Act A (.ur true [x,y]) σ L H nx (Js (min a c) (min b d)) H nx:=by
 refine⟨λT hT k=>?_⟩;have he:Az σ L [x,y]=some [vx,vy]:=by simp[Az,hx,hy]
 show dN T L [x,y] (λvs=>bd (Cc A.P true vs) λv=>k v H nx)=_;rw[hT.dN he];have:Cc A.P true [vx,vy]=some (Js (min a c) (min b d)):=by
  unfold Cc;have:uu true [vx,vy]=some (Js (min a c) (min b d)):=by
   unfold uu;simp only[hi,ha,hb,cond_true]
   first|done|rfl
  rw[this]
 rw[this];rfl
theorem dz{v:Value}{a b:Nat}(h:cW v=some (a,b)):(v=.int .i64 (a:Int)/\b=a)\/(fF v=true/\flat v=false/\∃k,v=.chan (some k)):=by
 unfold cW at h;split at h
 ·cases h;exact .inl ⟨rfl,rfl⟩
 ·exact .inr ⟨rfl,rfl,_,rfl⟩
 ·cases h
theorem tA{P:Program}{op:BinOp}{t:TypeId}{x y v:Value}{a b c d:Nat}(hx:cW x=some (a,b))(hy:cW y=some (c,d))(hn:fF x=true\/fF y=true)(h:vz op a b c d=some v)(k:KV):jl P op t x y k=k v:=by
 rcases dz hx with⟨rfl,rfl⟩|⟨h1,h2,q,rfl⟩
 ·rcases dz hy with⟨rfl,rfl⟩|⟨h3,h4,q,rfl⟩
  ·rcases hn with h|h<;>cases h
  ·exact Fu Im (by rw[h4];simp) (by rw[h3];simp) hx hy h k
 ·exact Fu Me (by rw[h2];rfl) (by rw[h1];rfl) hx hy h k
section aeY
variable {t:TypeId}{x y:Od}{a b c d:Nat}{vx vy:Value}
theorem Act.TN(hx:ev σ L x=some vx)(hy:ev σ L y=some vy)(ha:cW vx=some (a,b))(hb:cW vy=some (c,d))(h:b+d<9223372036854775808):∃v,cW v=some (a+c,b+d)/\Act A (.bin .add t x y) σ L H nx v H nx:=by
 by_cases hn:fF vx=true\/fF vy=true
 ·exact⟨Js (a+c) (b+d),u4 V,.jl hx hy (tA ha hb hn (Mf h))⟩
 ·rcases dz ha with⟨rfl,rfl⟩|⟨h1,_⟩
  ·rcases dz hb with⟨rfl,rfl⟩|⟨h1,_⟩
   ·refine⟨.int .i64 ((b+d:Nat):Int),rfl,?_⟩;have:=Act.add (A:=A) (H:=H) (nx:=nx) (t:=t) hx hy (by unfold Fs;omega)
    rwa [show ((b:Int)+(d:Int))=((b+d:Nat):Int) by omega]at this
   ·exact absurd (.inr h1) hn
  ·exact absurd (.inl h1) hn
theorem Act.aeZ(hx:ev σ L x=some vx)(hy:ev σ L y=some vy)(ha:cW vx=some (a,b))(hb:cW vy=some (c,d))(h:d<a)(h2:c<b):Act A (.bin .gtr t x y) σ L H nx (.bool true) H nx:=by
 by_cases hn:fF vx=true\/fF vy=true
 ·exact .jl hx hy (tA ha hb hn (Mh h h2))
 ·rcases dz ha with⟨rfl,rfl⟩|⟨h1,_⟩
  ·rcases dz hb with⟨rfl,rfl⟩|⟨h1,_⟩
   ·have:=Act.gtr (A:=A) (H:=H) (nx:=nx) (t:=t) hx hy
    rwa [fB V]at this
   ·exact absurd (.inr h1) hn
  ·exact absurd (.inl h1) hn
theorem Io{a b c d:Nat}(h:b<=c):vz .gtr a b c d=some (.bool false):=by
 show (bif Nat.ble b c then _ else bif Nat.blt d a then _ else _)=_;rw[Nat.ble_eq_true_of_le h];rfl
theorem Act.ae0(hx:ev σ L x=some vx)(hy:ev σ L y=some vy)(ha:cW vx=some (a,b))(hb:cW vy=some (c,d))(h:b<=c):Act A (.bin .gtr t x y) σ L H nx (.bool false) H nx:=by
 by_cases hn:fF vx=true\/fF vy=true
 ·exact .jl hx hy (tA ha hb hn (Io h))
 ·rcases dz ha with⟨rfl,rfl⟩|⟨h1,_⟩
  ·rcases dz hb with⟨rfl,rfl⟩|⟨h1,_⟩
   ·have:=Act.gtr (A:=A) (H:=H) (nx:=nx) (t:=t) hx hy
    rwa [im V]at this
   ·exact absurd (.inr h1) hn
  ·exact absurd (.inl h1) hn
theorem Act.ae1(hx:ev σ L x=some vx)(hy:ev σ L y=some vy)(ha:cW vx=some (a,b))(hb:cW vy=some (c,d))(h:b<=c):Act A (.bin .leq t x y) σ L H nx (.bool true) H nx:=by
 by_cases hn:fF vx=true\/fF vy=true
 ·exact .jl hx hy (tA ha hb hn (Mg h))
 ·rcases dz ha with⟨rfl,rfl⟩|⟨h1,_⟩
  ·rcases dz hb with⟨rfl,rfl⟩|⟨h1,_⟩
   ·have:=Act.leq (A:=A) (H:=H) (nx:=nx) (t:=t) hx hy
    rwa [fB V]at this
   ·exact absurd (.inr h1) hn
  ·exact absurd (.inl h1) hn
theorem Act.XA(hx:ev σ L x=some vx)(hy:ev σ L y=some vy)(ha:cW vx=some (a,b))(hb:cW vy=some (c,d))(h:min b d<18446744073709551616):∃v,cW v=some (min a c,min b d)/\Act A (.ur true [x,y]) σ L H nx v H nx:=by
 by_cases hn:(fF vx||fF vy)=true
 ·exact⟨_,u4 h,.aeX hx hy hn ha hb⟩
 ·rcases dz ha with⟨rfl,rfl⟩|⟨h1,_⟩
  ·rcases dz hb with⟨rfl,rfl⟩|⟨h1,_⟩
   ·refine⟨.int .i64 ((min b d:Nat):Int),rfl,?_⟩;have:=Act.min2 (A:=A) (H:=H) (nx:=nx) hx hy
    rwa [show (min (b:Int) (d:Int))=((min b d:Nat):Int) by omega]at this
   ·exact absurd (by rw[h1];simp) hn
  ·exact absurd (by rw[h1];rfl) hn
theorem Act.XB{x:Od}{ad:Option Addr}{n c:Nat}(hx:ev σ L x=some (.slice ad n c))(hc:∀e,ad=some e->aF c<=9223372036854775807):∃v lo hi,cW v=some (lo,hi)/\(ad=none->lo=0/\hi=0)/\(∀e,ad=some e->lo=aF c/\lo<=hi)/\hi<=9223372036854775807/\Act A (.cap x) σ L H nx v H nx:=by
 cases ad with
 | none=>exact⟨_,0,0,rfl,λ_=>⟨rfl,rfl⟩,λe h=>(by cases h),V,.abr hx⟩
 | some e=>
  have:=hc e rfl;cases he:exact c with
  | true=>exact⟨_,aF c,aF c,rfl,λh=>(by cases h),λ_ _=>⟨rfl,au _⟩,this,.Xz hx he⟩
  | false=>exact⟨_,aF c,9223372036854775807,u4 V,λh=>(by cases h),λ_ _=>⟨rfl,this⟩,au _,.aeW hx he⟩
section abt
variable {K:Value->Heap->Nat->Prop}
theorem bG.TN(hx:ev σ L x=some vx)(hy:ev σ L y=some vy)(ha:cW vx=some (a,b))(hb:cW vy=some (c,d))(h:b+d<9223372036854775808)(hk:∀v,cW v=some (a+c,b+d)->K v H nx):bG A (.bin .add t x y) σ L H nx K:=
 let ⟨v,h1,h2⟩:=Act.TN (A:=A) (H:=H) (nx:=nx) (t:=t) hx hy ha hb h
 .of h2 (hk v h1)
theorem bG.XA(hx:ev σ L x=some vx)(hy:ev σ L y=some vy)(ha:cW vx=some (a,b))(hb:cW vy=some (c,d))(h:min b d<18446744073709551616)(hk:∀v,cW v=some (min a c,min b d)->K v H nx):bG A (.ur true [x,y]) σ L H nx K:=
 let ⟨v,h1,h2⟩:=Act.XA (A:=A) (H:=H) (nx:=nx) hx hy ha hb h
 .of h2 (hk v h1)
theorem bG.XB{ad:Option Addr}{n c:Nat}(hx:ev σ L x=some (.slice ad n c))(hc:∀e,ad=some e->aF c<=9223372036854775807)(hk:∀v lo hi,cW v=some (lo,hi)->(ad=none->lo=0/\hi=0)->(∀e,ad=some e->lo=aF c/\lo<=hi)->hi<=9223372036854775807->K v H nx):bG A (.cap x) σ L H nx K:=
 let ⟨v,lo,hi,h1,h2,h3,h4,h5⟩:=Act.XB (A:=A) (H:=H) (nx:=nx) hx hc
 .of h5 (hk v lo hi h1 h2 h3 h4)
end abt
end aeY
theorem Act.pk{z by_:Nat}{zero:List Value}{s x:Od}{b o len c n:Nat}{v:Value}{cs l new:List Value}(hs:ev σ L s=some (.slice (some ⟨b,o,some z⟩) len c))(hx:ev σ L x=some v)(eJ:pN H z v n new)(hn:n≠0)(hz:0<z)(h1:cq new=true)(hr:ah H (at_ b)=some (.cells cs))(hc:len+n<=aF c)(ho:mm cs (o+len*z) new=some l) :
  Act A (.app z by_ zero s x false) σ L H nx (.slice (some ⟨b,o,some z⟩) (len+n) c) (aC H b l) nx:=by
 refine⟨λT hT k=>?_⟩;show bI T L s (λs=>bI T L x λx=>kO H z (uy z by_ H nx k s) x)=_;rw[hT.bI hs,hT.bI hx,eJ.kO,CQ hz h1 hn];rw[Nat.ble_eq_true_of_le hc];show eY H b (λcs=>bd (mm cs (Nat.add o (Nat.mul len z)) new) (oR H nx b (.slice (some ⟨b,o,some z⟩) (Nat.add len n) c) k))=_;rw[jV hr];show bd (mm cs (o+len*z) new) _=_;rw[ho];show oR H nx b _ k l=_;rw[qn];rfl
def bk:Value->Option Nat
 | .slice (some ⟨b,_,some _⟩) _ _=>some b
 | _=>none
theorem bL.blk{α:Type}{z:Nat}{enc:α->List Value}{v:Value}{xs:List α}(h:bL H nx z enc v xs)(hs:∀b,bk v=some b->b<nx->ah H' (at_ b)=ah H (at_ b))(hn:nx<=nx'):bL H' nx' z enc v xs:=by
 obtain⟨base,c,rfl,h2,h3⟩:=h;refine⟨base,c,rfl,h2,λa ha=>?_⟩;rcases h3 a ha with h0|⟨g1,b,o,rfl,g3,g4⟩
 ·exact .inl h0
 ·refine .inr ⟨g1,b,o,rfl,V,λhx=>?_⟩;obtain⟨cs,q1,q2⟩:=g4 hx;refine⟨cs,?_,q2⟩;unfold Rd;rw[hs b (by rw[ha];rfl) g3];exact q1
theorem bP.vX{nx0 z n:Nat}{v:Value}{cs:List Value}(h:bP H nx0 nx z v n cs)(hs:∀b,nx0<=b->b<nx->ah H' (at_ b)=ah H (at_ b))(hn:nx<=nx'):bP H' nx0 nx' z v n cs:=by
 obtain⟨hl,h|⟨b,h1,h2,h3,h4⟩⟩:=h
 ·exact⟨hl,.inl h⟩
 ·exact⟨hl,.inr ⟨b,h1,h2,kN h3 hn,(hs b h2 h3).trans h4⟩⟩
theorem Mi{v:Value}{a b:Nat}(h:cW v=some (a,b)):cellsOf v=[v]/\ux v=true:=by
 rcases dz h with⟨rfl,_⟩|⟨_,_,k,rfl⟩<;>exact⟨rfl,rfl⟩
theorem CT:∀(cs vs:List Value),cs.length<vs.length->fi cs vs=none:=by
 intro cs
 induction cs with
 | nil=>intro vs h;cases vs with
  | nil=>simp at h
  | cons v vs=>rfl
 | cons c cs ih=>
  intro vs h;cases vs with
  | nil=>simp at h
  | cons v vs=>
   show (match fi cs vs with|some r=>some (v::r)|none=>none)=none;rw[ih vs (by simpa using h)]
theorem PC:∀(cs vs:List Value),vs≠[]->jc cs cs.length vs=none:=by
 intro cs
 induction cs with
 | nil=>intro vs h;exact CT [] vs (List.length_pos_iff.2 h)
 | cons c cs ih=>
  intro vs h;show (Option.rec none (λr=>some (c::r)) (jc cs cs.length vs):Option (List Value))=none;rw[ih vs h]
theorem By{cs vs:List Value}{o:Nat}(h:vs≠[])(ho:o=cs.length):mm cs o vs=some (cs++vs):=by
 subst ho;unfold mm;rw[PC cs vs h];have:Nat.beq cs.length cs.length=true:=by simp
 show cond (Nat.beq cs.length cs.length) _ none=_;rw[this];rfl
end
end
section
section
variable {P:Program}
theorem Ip{t e:TypeId}{a0 a1 b0 b1:Int}{k:IntKind}(h:P.underlying t=some (.array 2 e))(hz:quiet P (sizeOf e)=some 1)(g:quiet P (isAgg e)=some false)(he:P.underlying e=some (.int k))(d:Nat) :
  quiet P (Op.equalIn (d+1+1) t (.agg #[.int .i64 a0,.int .i64 a1]) (.agg #[.int .i64 b0,.int .i64 b1]))=some (a0 == b0&&a1 == b1):=by
 unfold Op.equalIn;rw[jW h];have e0:=λa b:Int=>uZ (P:=P) (a:=a) (b:=b) he d
 have p0:∀x y:Int,quiet P (part e #[.int .i64 x,.int .i64 y] 0)=some (.int .i64 x):=λx y=>om g rfl
 have p1:∀x y:Int,quiet P (part e #[.int .i64 x,.int .i64 y] 1)=some (.int .i64 y):=λx y=>om g rfl
 by_cases h0:a0=b0<;>by_cases h1:a1=b1<;>
  simp[fO,hz,List.range',e0,p0,p1,rJ,h0,h1]
structure abu(P:Program)(t:TypeId):Prop where
 a:∃e k,P.underlying t=some (.array 2 e)/\quiet P (sizeOf e)=some 1/\quiet P (isAgg e)=some false/\P.underlying e=some (.int k)
end
section
variable {A:aN}{H H':Heap}{nx nx':Nat}{σ:aR}{L:List Value}{Q:cw}
end
end
section
variable {ρ:bY}{H H':Heap}{nx nx':Nat}{hp:Array Obj}
section
variable {X:Type}{enc:TypeId×Value->X}{P:Program}{w:World}{base:Nat}
def CU(d:DataW X)(B:Nat):Prop:=∀elems spare,d=.slice elems spare->elems.length<=B
theorem PD{α:Type}{encα:α->List Value}{z fuel B:Nat}{t e:TypeId}{v av:Value}{xs:List α}{x:DataW X×List MemPlace}(ht:P.underlying t=some (.slice e))(hd:DataW.trod enc P w base (λ_=>true) true fuel t [v]=some x)(hv:VR ρ av v)(hs:bL H nx z encα av xs)(hB:CU x.1 B):xs.length<=B:=by
 obtain⟨b,c,rfl⟩:=hs.form;rcases Deep.open_slice ht hd with⟨h,_⟩|⟨a,len,cap,m,n,D,Pl,h,_,hl,hm,VL,hx,oX⟩
 ·obtain rfl:v=.slice none 0 0:=by simpa using h
  have:xs.length=0:=by
   generalize hq:xs.length=q at hv;cases hv with
   | sc h=>simp[scalar]at h
   | mP=>rfl
  omega
 ·obtain rfl:v=.slice (some a) len cap:=by simpa using h
  have hlen:xs.length=len:=by
   generalize hq:xs.length=q at hv;cases hv with
   | sc h=>rfl
   | sl=>rfl
   | Jz=>rfl
  subst hx;have:=hB _ _ rfl;rw[ja,SQ]at this;omega
theorem Mj{B:Nat}{α:Type}{encα:α->List Value}{z:Nat}{t e:TypeId}(ht:P.underlying t=some (.slice e))(hz:P.cellsOf e=z)(zT:0<z)(hlen:∀a,(encα a).length=z)(qj:∀a,(encα a).all scalar=true)(hE:∀fuel c y,DataW.trod enc P w base (λ_=>true) true fuel e c=some y->∃a,c=encα a):∀(vs:List Value),(∀v∈vs,∃fuel x,DataW.trod enc P w base (λ_=>true) true fuel t [v]=some x/\CU x.1 B)->∀{ρ:bY} {H:Heap} {nx:Nat},Ro ρ H nx w.heap->
  ∃ρ' H' nx',∃us:List Value,∃ls:List (List α),Ext ρ ρ'/\Ro ρ' H' nx' w.heap/\nx<=nx'/\aq H H' nx/\dJ ρ' us vs/\us.length=ls.length/\(∀l∈ls,l.length<=B)/\∀(i:Nat) (u:Value) (l:List α),us[i]?=some u->ls[i]?=some l->bL H' nx' z encα u l:=by
 intro vs
 induction vs with
 | nil=>intro _ ρ H nx o8;exact⟨ρ,H,nx,[],[],.refl ρ,o8,au _,.refl,.nil,rfl,(λl hl=>by cases hl),λi u l hu=>by simp at hu⟩
 | cons v vs ih=>
  intro hv ρ H nx o8;obtain⟨fuel,x,hd,hBx⟩:=hv v hJ;obtain⟨ρ1,H1,av,xs,e1,r1,s1,v1,l1⟩:=Il ht hz zT hlen qj hE hd o8;obtain⟨ρ2,H2,nx2,us,ls,e2,r2,n2,s2,v2,q1,qB,q2⟩:=ih (λv hm=>hv v (fY _ hm)) r1;refine⟨ρ2,H2,nx2,av::us,xs::ls,e1.trans e2,r2,V,s1.trans s2 (cE _),.cons (v1.mono e2) v2,by simp[q1],(λl hl=>?_),λi u l hu hl=>?_⟩
  ·rcases dT.1 hl with rfl|hl
   ·exact PD ht hd v1 l1 hBx
   ·exact qB l hl
  cases i with
  | zero=>
   simp at hu hl;subst hu;subst hl
   exact(l1.same s2).up n2
  | succ i=>exact q2 i u l (by simpa using hu) (by simpa using hl)
theorem CV{B:Nat}{α:Type}{encα:α->List Value}{z fuel:Nat}{t s e:TypeId}{v:Value}{x:DataW X×List MemPlace}(ht:P.underlying t=some (.slice s))(hs:P.underlying s=some (.slice e))(bt:P.cellsOf s=1)(hz:P.cellsOf e=z)(zT:0<z)(hlen:∀a,(encα a).length=z)(qj:∀a,(encα a).all scalar=true)(hE:∀fuel c y,DataW.trod enc P w base (λ_=>true) true fuel e c=some y->∃a,c=encα a)(Xy:∀a len cap,v=.slice (some a) len cap->a.spot=none/\∃row cells,w.shape? a.block=some (row,cells))(hd:DataW.trod enc P w base (λ_=>true) true fuel t [v]=some x)(hB0:CU x.1 B)(hB:∀elems spare,x.1=.slice elems spare->∀d∈elems,CU d B)(o8:Ro ρ H nx w.heap) :
  ∃ρ' H' nx' av,∃ls:List (List α),Ext ρ ρ'/\Ro ρ' H' nx' w.heap/\nx<=nx'/\aq H H' nx/\VR ρ' av v/\er H' nx' z encα av ls/\ls.length<=B/\∀l∈ls,l.length<=B:=by
 rcases Deep.open_slice ht hd with⟨h,_⟩|⟨a,len,cap,m,n,D,Pl,h,_,hl,hm,VL,hx,oX⟩
 ·obtain rfl:v=.slice none 0 0:=by simpa using h
  exact⟨ρ,H,nx,.slice none 0 0,[],.refl ρ,o8,au _,.refl,.mP,⟨[],rfl,.nil,λi u l hu=>by simp at hu⟩,bS _,λl hl=>by cases hl⟩
 ·obtain rfl:v=.slice (some a) len cap:=by simpa using h
  have hBD:∀i,i<len->CU (D i) B:=λi hi=>hB _ _ (congrArg Prod.fst hx) _ (pg.2 ⟨i,wC.2 hi,rfl⟩)
  have hlB:len<=B:=by
   have:=hB0 _ _ (congrArg Prod.fst hx)
   rwa [ja,SQ]at this
  obtain⟨AF,row,cells,rZ⟩:=Xy a len cap rfl;obtain⟨blk,off,spot⟩:=a;obtain rfl:spot=none:=AF;obtain rfl:m=cap:=by simpa using VL
  rw[bt]at oX;obtain⟨arr,te,fz,PA⟩:∃arr te fz,w.heap[blk]?=some (.cells arr te fz):=by
   unfold World.shape? at rZ;split at rZ
   ·rename_i c el fz hh;exact⟨c,el,fz,hh⟩
   ·cases rZ
  have bH:∀i,i<m->∃u,arr[off+i]?=some u/\DataW.trod enc P w base (λ_=>true) true n s [u]=some (D i,Pl i):=λi hi=>by
   obtain⟨cs,h1,h2⟩:=oX i hi;obtain⟨p1,p2⟩:=mapM_cells h1
   match cs,p1 with
   | [u],_=>
    have h3:=p2 0 V;refine⟨u,?_,h2⟩;rw[Go.WideShapes.add_plain,Go.WideShapes.add_plain]at h3;unfold World.cell? at h3;rw[PA]at h3
    simpa using h3
  obtain⟨vs,Fv,J4⟩:∃vs:List Value,vs.length=len/\∀i u,vs[i]?=some u->arr[off+i]?=some u/\∃fuel x,DataW.trod enc P w base (λ_=>true) true fuel s [u]=some x/\CU x.1 B:=by
   have:∀k,k<=len->∃vs:List Value,vs.length=k/\∀i u,vs[i]?=some u->arr[off+i]?=some u/\∃fuel x,DataW.trod enc P w base (λ_=>true) true fuel s [u]=some x/\CU x.1 B:=by
    intro k
    induction k with
    | zero=>intro _;exact⟨[],rfl,λi u h=>by simp at h⟩
    | succ k ih=>
     intro hk;obtain⟨vs,h1,h2⟩:=ih V;obtain⟨u,g1,g2⟩:=bH k V;refine⟨vs++[u],by simp[h1],λi y hy=>?_⟩;by_cases hi:i<k
     ·rw[eC V]at hy;exact h2 i y hy
     ·have cg:=(cS.1 hy).1;simp at cg;obtain rfl:i=k:=V;rw[aiQ V,h1]at hy;simp at hy;subst hy;exact⟨g1,_,_,g2,hBD _ V⟩
   exact this len (au _)
  obtain⟨ρ1,H1,aQ,us,ls,e1,r1,n1,s1,w1,q1,qB,q2⟩:=Mj (B:=B) hs hz zT hlen qj hE vs (λv hm=>by
   obtain⟨i,hi⟩:=List.getElem?_of_mem hm;exact(J4 i v hi).2) o8
  have iF:us.length=len:=by rw[<-w1.length,Fv]
  have jz:Th ρ1 w.heap ⟨blk,off,arr.size⟩ us:=⟨arr,te,fz,PA,rfl,λi u hu=>by
   obtain⟨v',g1,g2⟩:=w1.get hu;exact⟨v',(J4 i v' g1).1,g2⟩⟩
  have PB:m=0\/off+m*1<=arr.size:=by
   by_cases h0:m=0
   ·exact .inl h0
   ·right;obtain⟨u,g1,_⟩:=bH (m-1) V;have:=(Array.getElem?_eq_some_iff.1 g1).1;omega
  have Nt:m<=ft:=by unfold maxLen at hm;unfold ft;omega
  have eK:aq H1 (cA (at_ aQ) H1 (some (.ro us))) aQ:=λb hb=>bz _ _ _ _ (λe=>by have:=gy e;omega)
  have oJ:=abq us;refine⟨ρ1.with aQ ⟨blk,off,arr.size⟩,_,aQ+1,.slice (some ⟨aQ,0,some 1⟩) us.length (2*len),ls,e1.trans (r1.hr.gz _),r1.add jz,V,s1.trans eK n1,?_,⟨us,q1,.pre (rest:=[]) (.inr (by rw[gN,oJ];exact cB _ _ _)) V (by rw[bT];omega) (λ_=>rfl),λi u l hu hl=>((q2 i u l hu hl).same eK).up (cE _)⟩,V,qB⟩;rw[iF];exact .sl (bY.fu _ _ _) ⟨hl,Nt⟩ (by rw[bT];exact hl) (λe=>by rw[qz]at e;cases e) (PB.imp id λh=>⟨rfl,h⟩)
end
end
section
theorem rdP{P:Prop}(h:P:=by (first|with_reducible apply Rd.self|with_reducible assumption|(with_reducible apply Rd.own;with_reducible assumption)|((repeat ((with_reducible apply Rd.skip);omega));first|with_reducible apply Rd.self|with_reducible assumption|(with_reducible apply Rd.own;with_reducible assumption)))):P:=h
theorem gtP{P:Prop}(h:P:=by (first|with_reducible apply aj|with_reducible assumption|((repeat ((with_reducible apply ay);omega));first|with_reducible apply aj|with_reducible assumption))):P:=h
theorem arP{P:Prop}(h:P:=by (unfold Fs;(try simp only[aL]);omega)):P:=h
theorem szP{P:Prop}(h:P:=by (first|omega|decide|(simp only[ja,cm,iq,hO,gp,NY,SQ];omega))):P:=h
theorem aX{a b:aR}(h:bD a b:=by (repeat (first|exact bD.nil _|refine bD.cons rfl ?_))):bD a b:=h
section
variable {A:aN}{H H':Heap}{nx nx':Nat}{σ:aR}{L:List Value}{op:cr Od}{v:Value}{K:Value->Heap->Nat->Prop}{P:Prop}{d:Decidable P}
end
end
section
section
variable {P:Program}
theorem Fw{t:TypeId}{f0 f1:Field}{a0 a1 b0 b1:Int}{k:IntKind}(h:P.underlying t=some (.struct #[f0,f1]))(hs:P.stoodInHeld t=false)(n0:f0.name≠ "_") (n1:f1.name≠ "_")
  (o0:f0.offset=0) (o1:f1.offset=1) (t0:P.underlying f0.type=some (.int k)) (t1:P.underlying f1.type=some (.int k))
  (g0:quiet P (isAgg f0.type)=some false) (g1:quiet P (isAgg f1.type)=some false) (d:Nat) :
  quiet P (Op.equalIn (d+1+1) t (.agg #[.int .i64 a0,.int .i64 a1]) (.agg #[.int .i64 b0,.int .i64 b1]))=some (a0 == b0&&a1 == b1):=by
 unfold Op.equalIn;rw[jW h];have hp:quiet P program=some P:=rfl;have e0:=λa b:Int=>uZ (P:=P) (a:=a) (b:=b) t0 d
 have e1:=λa b:Int=>uZ (P:=P) (a:=a) (b:=b) t1 d
 have p0:∀x y:Int,quiet P (part f0.type #[.int .i64 x,.int .i64 y] f0.offset)=some (.int .i64 x):=λx y=>om g0 (by rw[o0];rfl)
 have p1:∀x y:Int,quiet P (part f1.type #[.int .i64 x,.int .i64 y] f1.offset)=some (.int .i64 y):=λx y=>om g1 (by rw[o1];rfl)
 by_cases h0:a0=b0<;>by_cases h1:a1=b1<;>
  simp[fO,hp,hs,n0,n1,e0,e1,p0,p1,rJ,h0,h1]
structure TO(P:Program)(t:TypeId):Prop where
 q:P.eqGuardType P.depth t=false
 n:∀a0 a1 b0 b1:Int,quiet P (Op.equal t (.agg #[.int .i64 a0,.int .i64 a1]) (.agg #[.int .i64 b0,.int .i64 b1]))=some (a0 == b0&&a1 == b1)
theorem TO.arr{t:TypeId}(hq:P.eqGuardType P.depth t=false)(h:abu P t):TO P t:=by
 obtain⟨e,k,h1,h2,h3,h4⟩:=h.a;exact⟨hq,λa0 a1 b0 b1=>Ip (a0:=a0) (a1:=a1) (b0:=b0) (b1:=b1) h1 h2 h3 h4 9998⟩
theorem Bz{s:Sem Bool}{r:Bool}{f:Bool->Bool}(h:quiet P s=some r):quiet P (do pure (Value.bool (f (<-s))):Sem Value)=some (.bool (f r)):=by
 have h2:∀s:Sem Bool,∀r,quiet P s=some r->quiet P (do pure (Value.bool (f (<-s))):Sem Value)=some (.bool (f r)):=by
  intro s r
  induction s with
  | pure x=>intro h;cases h;rfl
  | program k ih=>intro h;exact ih P h
  | _=>intro h;cases h
 exact h2 _ _ h
theorem PE{op:BinOp}{t:TypeId}(hq:P.eqGuardType P.depth t=false)(ho:op=.eql\/op=.neq){a0 a1 b0 b1:Int}:quiet P (eqGuard op t (.const (.agg #[.int .i64 a0,.int .i64 a1])) (.const (.agg #[.int .i64 b0,.int .i64 b1])) (.agg #[.int .i64 a0,.int .i64 a1]) (.agg #[.int .i64 b0,.int .i64 b1]))=some ():=by
 rcases ho with rfl|rfl<;>
 ·show quiet P (if (!(P.eqGuardType P.depth t))=true then _ else _)=_;rw[hq];rfl
theorem Ml{t:TypeId}(h:TO P t){a0 a1 b0 b1:Int}:sI P .eql t (.agg #[.int .i64 a0,.int .i64 a1]) (.agg #[.int .i64 b0,.int .i64 b1])=some (.bool (a0 == b0&&a1 == b1)):=by
 unfold sI;have h3:quiet P (do eqGuard .eql t (.const (.agg #[.int .i64 a0,.int .i64 a1])) (.const (.agg #[.int .i64 b0,.int .i64 b1])) (.agg #[.int .i64 a0,.int .i64 a1]) (.agg #[.int .i64 b0,.int .i64 b1]);binOp .eql t (.agg #[.int .i64 a0,.int .i64 a1]) (.agg #[.int .i64 b0,.int .i64 b1]):Sem Value)=some (.bool (a0 == b0&&a1 == b1)):=by
  rw[fO,PE h.q (.inl rfl)];exact Bz (f:=λb=>b) (h.n a0 a1 b0 b1)
 rw[h3];rfl
theorem Mm{t:TypeId}(h:TO P t){a0 a1 b0 b1:Int}:sI P .neq t (.agg #[.int .i64 a0,.int .i64 a1]) (.agg #[.int .i64 b0,.int .i64 b1])=some (.bool (!(a0 == b0&&a1 == b1))):=by
 unfold sI;have h3:quiet P (do eqGuard .neq t (.const (.agg #[.int .i64 a0,.int .i64 a1])) (.const (.agg #[.int .i64 b0,.int .i64 b1])) (.agg #[.int .i64 a0,.int .i64 a1]) (.agg #[.int .i64 b0,.int .i64 b1]);binOp .neq t (.agg #[.int .i64 a0,.int .i64 a1]) (.agg #[.int .i64 b0,.int .i64 b1]):Sem Value)=some (.bool (!(a0 == b0&&a1 == b1))):=by
  rw[fO,PE h.q (.inr rfl)];exact Bz (f:=λb=>!b) (h.n a0 a1 b0 b1)
 rw[h3];rfl
end
section
variable {A:aN}{H H':Heap}{nx nx':Nat}{σ:aR}{L:List Value}{Q:cw}
theorem Act.XC{t:TypeId}{x y:Od}{a0 a1 b0 b1:Int}(h:TO A.P t)(hx:ev σ L x=some (.agg ⟨[.int .i64 a0,.int .i64 a1]⟩))(hy:ev σ L y=some (.agg ⟨[.int .i64 b0,.int .i64 b1]⟩)):Act A (.bin .eql t x y) σ L H nx (.bool (decide ((a0,a1)=(b0,b1)))) H nx:=by
 refine .jl hx hy λk=>?_
 unfold Eng.jl;show bd (sI A.P .eql t (.agg #[.int .i64 a0,.int .i64 a1]) (.agg #[.int .i64 b0,.int .i64 b1])) k=_;rw[Ml h];have:(a0 == b0&&a1 == b1)=decide ((a0,a1)=(b0,b1)):=by
  by_cases h0:a0=b0<;>by_cases h1:a1=b1<;>simp[h0,h1]
 rw[this];rfl
theorem Act.ae2{t:TypeId}{x y:Od}{a0 a1 b0 b1:Int}(h:TO A.P t)(hx:ev σ L x=some (.agg ⟨[.int .i64 a0,.int .i64 a1]⟩))(hy:ev σ L y=some (.agg ⟨[.int .i64 b0,.int .i64 b1]⟩)):Act A (.bin .neq t x y) σ L H nx (.bool (decide ((a0,a1)≠(b0,b1)))) H nx:=by
 refine .jl hx hy λk=>?_
 unfold Eng.jl;show bd (sI A.P .neq t (.agg #[.int .i64 a0,.int .i64 a1]) (.agg #[.int .i64 b0,.int .i64 b1])) k=_;rw[Mm h];have:(!(a0 == b0&&a1 == b1))=decide ((a0,a1)≠(b0,b1)):=by
  by_cases h0:a0=b0<;>by_cases h1:a1=b1<;>simp[h0,h1]
 rw[this];rfl
theorem Act.abv{by_:Nat}{s i x:Od}{b c b2 c2 j:Nat}{cs new:List Value}(hs:ev σ L s=some (.slice (some ⟨b,0,some 1⟩) cs.length c))(hi:ev σ L i=some (.int .i64 (j:Int)))(hx:ev σ L x=some (.slice (some ⟨b2,0,some 1⟩) new.length c2))(hb:ah H (at_ b)=some (.cells cs))(k9:ah H (at_ b2)=some (.cells new))(cG:b≠b2)(hn:0<new.length)(hj:j<=cs.length)(o1:cq cs=true)(o2:cq new=true)(h1:(cs.length+new.length)*by_<=small)(h2:cs.length+new.length<=small) :
  Act A (.ins 1 by_ s i x) σ L H nx (.slice (some ⟨nx,0,some 1⟩) (cs.length+new.length) (2*(cs.length+new.length))) (aC (kill H b) nx (cs.take j++(new++cs.drop j))) (nx+1):=by
 refine⟨λT hT k=>?_⟩;show bI T L s (λs=>bI T L i λi=>pj i λi=>bI T L x λv=>Hi 1 by_ H nx k i s v)=_;rw[hT.bI hs,hT.bI hi];show bI T L x (λv=>Hi 1 by_ H nx k j (.slice (some ⟨b,0,some 1⟩) cs.length c) v)=_;rw[hT.bI hx];show cond (and (Nat.beq 1 1) (and (Nat.beq 1 1) (and (Nat.blt 0 1) (and (Nat.blt 0 new.length) (and (Nat.ble j cs.length) (!(Nat.beq b b2))))))) _ none=_;have e1:Nat.blt 0 new.length=true:=by rw[Nat.blt_eq];exact hn
 have e2:Nat.ble j cs.length=true:=Nat.ble_eq_true_of_le hj;have e3:Nat.beq b b2=false:=by
  cases hq:Nat.beq b b2 with
  | false=>rfl
  | true=>exact absurd (dB hq) cG
 rw[e1,e2,e3];show eY H b (λcs'=>eY H b2 λkf=>bd (take? (Nat.mul cs.length 1) (fq cs' 0)) λold=>bd (take? (Nat.mul new.length 1) (fq kf 0)) λyc=>bd (take? (Nat.mul j 1) old) λfront=>
   cond (and (cq old) (cq yc)) (eQ (at_ b) H none λH=>eG 1 by_ H nx k cs.length new.length front (yc++fq old (Nat.mul j 1))) none)=_
 rw[jV hb,jV k9,fw,fw];have t1:take? (Nat.mul cs.length 1) (cs.drop 0)=some cs:=by rw[show Nat.mul cs.length 1=cs.length from Nat.mul_one _];exact take?_all cs
 have t2:take? (Nat.mul new.length 1) (new.drop 0)=some new:=by rw[show Nat.mul new.length 1=new.length from Nat.mul_one _];exact take?_all new
 have t3:take? (Nat.mul j 1) cs=some (cs.take j):=by rw[show Nat.mul j 1=j from Nat.mul_one _];exact take?_of _ _ hj
 rw[t1];show bd (take? (Nat.mul new.length 1) (new.drop 0)) _=_;rw[t2];show bd (take? (Nat.mul j 1) cs) _=_;rw[t3];show cond (and (cq cs) (cq new)) _ none=_;rw[o1,o2];show eQ (at_ b) H none (λH=>eG 1 by_ H nx k cs.length new.length (cs.take j) (new++fq cs (Nat.mul j 1)))=_;rw[cL,qy h1 h2,fw,show Nat.mul j 1=j from Nat.mul_one _];rfl
end
end
section
section
variable {A:aN}{H H':Heap}{nx nx':Nat}{σ:aR}{L:List Value}{op:cr Od}{v:Value}{Q:cw}{l:List (AO×List cz)}{q:List Bool}{P:Prop}{d:Decidable P}
theorem onP(hp:op.plain=true)(h:Act A op σ L H nx v H' nx'):WO A l σ (v::L) H' nx' Q->WO A ((⟨none,none,op⟩,[])::l) σ L H nx Q:=λk=>.n hp (.of h k)
theorem okP(hp:op.plain=true)(h:Act A op σ L H nx v H' nx'):WO A l ((q,v)::σ) (v::L) H' nx' Q->WO A ((⟨some q,none,op⟩,[])::l) σ L H nx Q:=λk=>.k hp (.of h k)
theorem bnP(hp:op.plain=true)(h:Act A op σ L H nx (.bool (decide P)) H nx):(P->WO A l σ (.bool true::L) H nx Q)->(¬P->WO A l σ (.bool false::L) H nx Q)->WO A ((⟨none,none,op⟩,[])::l) σ L H nx Q:=λa b=>.n hp (.both h a b)
theorem bkP(hp:op.plain=true)(h:Act A op σ L H nx (.bool (decide P)) H nx):(P->WO A l ((q,.bool true)::σ) (.bool true::L) H nx Q)->(¬P->WO A l ((q,.bool false)::σ) (.bool false::L) H nx Q)->WO A ((⟨some q,none,op⟩,[])::l) σ L H nx Q:=λa b=>.k hp (.both h a b)
end
theorem aE{P Q:Prop}(k:Q)(h:Q->P:=by first
 | ((first|apply onP|apply okP);rfl;first|exact Act.ai rfl|exact Act.ext rfl rfl|exact Act.Ad rfl rfl|exact Act.aI rfl|exact Act.len rfl|exact Act.not rfl|exact Act.box rfl|exact Act.gM|exact Act.fR rfl rfl|exact Act.pick rfl rfl rfl|exact Act.an rfl rdP rfl|exact Act.an rfl rdP (gD (by assumption))|exact Act.an rfl rdP (aiR (by assumption))|exact Act.aK rfl rfl V|exact Act.nO rfl rfl V|exact Act.fC rfl rfl V|exact Act.lx rfl rfl rfl V V|exact Act.mO rfl rfl V (by unfold small;omega) (by unfold small;omega) V|exact Act.aeS rfl rfl rfl rfl gtP szP|exact Act.aeT rfl rfl rfl V rfl gtP szP|exact Act.ix rfl rfl V (gD (by assumption))|exact Act.aiZ rfl rfl V|exact Act.ai0 rfl rfl V V|exact Act.ai1 rfl rfl V|exact Act.ai2 rfl rfl V V|exact Act.ai3 rfl rfl V|exact Act.ai4 rfl rfl V|exact Act.add rfl rfl arP|exact Act.sub rfl rfl arP|exact Act.aA rfl|exact Act.eP rfl rfl rfl rfl rfl|exact Act.min2 rfl rfl|exact Act.max2 rfl rfl)
 | with_reducible first|exact λk=>WO.nil k|exact λk=>WC.ae k|exact λk=>WC.drawn k|exact λk=>WC.seq k|exact λk=>WC.skip k|exact λk=>WC.ret k|exact λk=>WC.exit k|exact λk=>WC.block k|exact λk=>lO k|exact λk=>stE k|exact λk=>stR k|exact λk=>Md k|exact λk=>kW k|exact λk=>bkR k|exact λk=>drN k
  | exact λk=>WO.aeU rfl k
  | exact λk=>WO.gNo rfl k
  | exact λk=>WO.ai5 rfl k
  | exact λk=>WO.gUn rfl k
  | exact λk=>WC.aiU rfl k
  | exact λk=>WC.aiV rfl k
  | exact λk=>bkO rfl k):P:=h k
theorem bJ{P Q R G:Prop}(k1:P->Q)(k2:¬P->R)(h:(P->Q)->(¬P->R)->G:=by (first|apply bnP|apply bkP);rfl;first|exact Act.lss rfl rfl|exact Act.leq rfl rfl|exact Act.gtr rfl rfl|exact Act.geq rfl rfl|exact Act.aiX rfl rfl|exact Act.aiY rfl rfl):G:=h k1 k2
end
end Go.Eng
