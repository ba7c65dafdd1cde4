import Derived.Test.YtfejkbfafacdcaaGreatEa
import Derived.Laws.CopyRow
import Derived.Laws.AppendOwn
import Derived.LoopN
import Derived.Orders
/- An interpreter of the model's code that follows one order and is proved right for all: part 2. -/

namespace Go.Eng
variable {P:Program} {w:World} {ρ:bA} {H:Heap} {nx:Nat} {r:Ex×St} {T:Tr Value} {L:List Value} {ρa ρc:Operand→Value} {o:Oper} {k:KA} {ins:List Nat}
theorem VR.one {v u:Value} (h:VR ρ v u) (h1:p8 v=true):u.oneCell'=true:=by
 cases h with
 | sc h=>cases v<;>first|rfl|(simp [p8] at h1)
 | agg h=>simp [p8] at h1
 | tuple h=>simp [p8] at h1
 | any h=>cases u<;>first|rfl|(simp [tl] at h)
 | _=>rfl
theorem cU.one {a a':List Value} (h:cU ρ a a'):bZ a=true→∀u∈a',u.oneCell'=true:=by
 induction a generalizing a' with
 | nil=>cases h;intro _ u hu;simp at hu
 | cons v a ih=>
  cases h with
  | cons h hr=>
   intro h1 u hu
   have h2:cond (p8 v) (bZ a) false=true:=h1
   cases hv:p8 v with
   | false=>rw [hv] at h2;cases h2
   | true=>
    rw [hv] at h2
    rcases List.mem_cons.1 hu with rfl|hu
    ·exact h.one hv
    ·exact ih hr h2 u hu
theorem m3 {b:Nat} {v:Value} {cs:List Value}:lR H nx b v k cs=k v (bB (at_ b) H (some (.cells cs))) nx:=by
 unfold lR
 rw [bQ]
theorem zt {K:List Value→R0}:∀(old:List Value) (o:Nat) (c:Value) (K:List Value→R0),s9 old o c K=some r→∃l,gA old o [c]=some l∧K l=some r:=by
 intro old
 induction old with
 | nil=>intro o c K h;cases h
 | cons x old ih=>
  intro o c K h
  cases o with
  | zero=>
   refine ⟨c::old,?_,h⟩
   show eh (x::old) [c]=some (c::old)
   simp [eh]
  | succ o=>
   obtain ⟨l,h1,h2⟩:=ih o c (fun l=>K (x::l)) h
   refine ⟨x::l,?_,h2⟩
   show (Option.rec none (fun r=>some (x::r)) (gA old o [c]):Option (List Value))=some (x::l)
   rw [h1]
theorem jU {b off:Nat} {s:Ref} {old new zu l:List Value} (hH:HR ρ H nx w.heap) (hb:ao H (at_ b)=some (.cells old)) (hs:ρ b=some s) (u3:gA old off new=some l) (hn:cU ρ new zu) (h1:bZ new=true) :
  ∃w',(storeCells ⟨s.blk,s.sh + off,none⟩ zu).run P w=.ok () w'∧HR ρ (bB (at_ b) H (some (.cells l))) nx w'.heap∧Bp ρ H w ρ (bB (at_ b) H (some (.cells l))) w':=by
 obtain ⟨s',eM,a,e,ha,lk,dT⟩:=hH.blk b _ hb
 rw [hs] at eM;cases eM
 obtain ⟨g1,g2,g3⟩:=tz off old new l u3
 have kB:=hn.length
 have nX:∀j,j6 ρ (bB (at_ b) H (some (.cells l))) j→j6 ρ H j:=fun j hj=>j6.mf hb hj
 by_cases h0:new=[]
 ·subst h0
  cases hn
  have vp:l=old:=by
   apply List.ext_getElem?
   intro i
   rw [g3 i,if_neg (by simp)]
  subst vp
  refine ⟨w,rfl,?_,.refl ρ,fun j hj=>.inl (nX j hj),.put _ _ _,fun _ _ _=>rfl,Nat.le_refl _,rfl,rfl,rfl⟩
  exact hH.write hb hs (fun _ _=>rfl) ⟨a,e,ha,lk,dT⟩
 ·have xw:0 < new.length:=List.length_pos_iff.2 h0
  have SR:s.sh + off + zu.length≤a.size:=by
   have:off + new.length - 1 < old.length:=by omega
   obtain ⟨y,hy,_⟩:=dT (off + new.length - 1) old[off + new.length - 1] (by simp [this])
   have:=(Array.getElem?_eq_some_iff.1 hy).1
   omega
  have bS:=run_storeCells_at P s.blk (s.sh + off) e zu 0 a w ha (by simpa using SR) (hn.one h1)
  refine ⟨_,bS,?_,.refl ρ,fun j hj=>.inl (nX j hj),.put _ _ _,fun j hj mm=>?_,by simp,rfl,rfl,rfl⟩
  ·refine hH.write hb hs (fun j hj=>setRow_other w s.blk j _ hj) ⟨_,e,setRow_heap w s.blk a _ e _ ha,?_,fun i v hv=>?_⟩
   ·simp;omega
   ·rw [g3 i] at hv
    simp only [Nat.add_zero,List.getElem?_toArray]
    by_cases c1:off≤i∧i < off + new.length
    ·rw [if_pos c1] at hv
     obtain ⟨y,hy,tu⟩:=hn.get hv
     refine ⟨y,?_,tu⟩
     rw [List.getElem?_append_left (by simp;omega),List.getElem?_append_right (by simp;omega)]
     simp only [List.length_take,Array.length_toList]
     rw [← hy];congr 1;omega
    ·rw [if_neg c1] at hv
     obtain ⟨y,hy,tu⟩:=dT i v hv
     refine ⟨y,?_,tu⟩
     have bR:=(Array.getElem?_eq_some_iff.1 hy).1
     by_cases c2:i < off
     ·rw [List.getElem?_append_left (by simp;omega),List.getElem?_append_left (by simp;omega),List.getElem?_take,if_pos (by omega)]
      simpa using hy
     ·rw [List.getElem?_append_right (by simp;omega)]
      simp only [List.length_append,List.length_take,Array.length_toList,List.getElem?_drop]
      rw [← hy,Array.getElem?_toList];congr 1;omega
  ·refine setRow_other w s.blk j _ fun he=>mm ⟨b,_,s,hb,rfl,hs,he.symm⟩
theorem xx {b off:Nat} {s:Ref} {old new zu:List Value} (hH:HR ρ H nx w.heap) (hb:ao H (at_ b)=some (.cells old)) (hs:ρ b=some s) (r6:off=old.length) (fC:s.sh + off + new.length≤s.size) (hn:cU ρ new zu) (h1:bZ new=true) :
  ∃w',(storeCells ⟨s.blk,s.sh + off,none⟩ zu).run P w=.ok () w'∧HR ρ (bB (at_ b) H (some (.cells (old++new)))) nx w'.heap∧Bp ρ H w ρ (bB (at_ b) H (some (.cells (old++new)))) w':=by
 obtain ⟨s',eM,a,e,ha,lk,dT⟩:=hH.blk b _ hb
 rw [hs] at eM;cases eM
 have kB:=hn.length
 have nX:∀j,j6 ρ (bB (at_ b) H (some (.cells (old++new)))) j→j6 ρ H j:=fun j hj=>j6.mf hb hj
 have bS:=run_storeCells_at P s.blk (s.sh + off) e zu 0 a w ha (by simp;omega) (hn.one h1)
 refine ⟨_,bS,?_,.refl ρ,fun j hj=>.inl (nX j hj),.put _ _ _,fun j hj mm=>?_,by simp,rfl,rfl,rfl⟩
 ·refine hH.write hb hs (fun j hj=>setRow_other w s.blk j _ hj) ⟨_,e,setRow_heap w s.blk a _ e _ ha,?_,fun i v hv=>?_⟩
  ·simp;omega
  ·simp only [Nat.add_zero,List.getElem?_toArray]
   by_cases c1:i < old.length
   ·rw [List.getElem?_append_left c1] at hv
    obtain ⟨y,hy,tu⟩:=dT i v hv
    refine ⟨y,?_,tu⟩
    have bR:=(Array.getElem?_eq_some_iff.1 hy).1
    rw [List.getElem?_append_left (by simp;omega),List.getElem?_append_left (by simp;omega),List.getElem?_take,if_pos (by omega)]
    simpa using hy
   ·rw [List.getElem?_append_right (by omega)] at hv
    obtain ⟨y,hy,tu⟩:=hn.get hv
    have bR:=(List.getElem?_eq_some_iff.1 hy).1
    refine ⟨y,?_,tu⟩
    rw [List.getElem?_append_left (by simp;omega),List.getElem?_append_right (by simp;omega)]
    simp only [List.length_take,Array.length_toList]
    rw [← hy];congr 1;omega
 ·refine setRow_other w s.blk j _ fun he=>mm ⟨b,_,s,hb,rfl,hs,he.symm⟩
theorem vA {t:TypeId} {x v:Operand} {a:bG Operand} (ho:o.op=.store t x v) (hc:ai P ins o=some a) (ha:a.all fun x=>VR ρ (ρa x) (ρc x)) (hH:HR ρ H nx w.heap)
  (h:cm (a.map (Av ρa)) P T L H nx k=some r):Good P w ρ H nx r k (execOp ρc o):=by
 have he:execOp ρc o=(do Instr.storeAt t (ρc x) (ρc v);pure .skip):=by simp only [execOp,ho]
 simp only [ai,ho,Option.map_eq_some_iff] at hc
 obtain ⟨n,hn,rfl⟩:=hc
 obtain ⟨hx,hv⟩:=ha
 have h':dm (ρa x) (Es H nx n (cellsOf (ρa v)) k)=some r:=h
 obtain ⟨b,off,e1,h1⟩:=jm h'
 obtain ⟨K8,h2⟩:=bO h1
 simp only [Bool.and_eq_true] at K8
 have hlen:=Nat.eq_of_beq_eq_true K8.1
 obtain ⟨old,hb,h3⟩:=fh h2
 rw [e1] at hx
 obtain ⟨s,hs,e2⟩:=hx.oS
 have HE:=hv.cells
 have hk:∃l,gA old off (cellsOf (ρa v))=some l∧k undef (bB (at_ b) H (some (.cells l))) nx=some r:=by
  revert h3
  generalize cellsOf (ρa v)=cs
  intro h3
  match cs,h3 with
  | [],h3=>cases h3
  | [c],h3=>
   obtain ⟨l,g1,g2⟩:=zt (K:=lR H nx b undef k) old off c (lR H nx b undef k) h3
   rw [m3] at g2
   exact ⟨l,g1,g2⟩
  | c::c'::cs,h3=>
   have h4:bd (gA old off (c::c'::cs)) (lR H nx b undef k)=some r:=h3
   obtain ⟨l,g1,g2⟩:=aO h4
   rw [m3] at g2
   exact ⟨l,g1,g2⟩
 obtain ⟨l,u3,hk⟩:=hk
 obtain ⟨w',g1,g2,g3⟩:=jU (P:=P) hH hb hs u3 HE K8.2
 have lk:(ρc v).cells.size=n:=by rw [← hlen,← HE.length];simp
 rw [he]
 refine ⟨undef,_,nx,undef,w',ρ,hk,.inr ⟨?_,rfl⟩,.tuple .nil,g2,g3,Nat.le_refl _,fun _ _=>rfl⟩
 simp only [Instr.storeAt,e2,Instr.sureAddr,storeVar,Sem.run_bind,Sem.run_pure,Result.andThen_ok,dS hn]
 rw [if_neg (by rw [lk];exact fun h=>h rfl)]
 simp only [Sem.run_bind,Sem.run_pure,Result.andThen_ok,g1]
theorem wv {z m:Nat} {w':World} {b p len c:Nat} {l:List Value} (hl:l.length=m * z) (h:∀i v,l[i]?=some v→w'.cell? ⟨b,p + i,none⟩=some v) :
  (Builtin.firstCells z m (.slice (some ⟨b,p,none⟩) len c)).run P w'=.ok ⟨l⟩ w':=by
 unfold Builtin.firstCells
 exact run_loadCells hl h
theorem qo {z:Nat} {x u:Value} {K:Nat→List Value→R0} (hH:HR ρ H nx w.heap) (hv:VR ρ x u) (h:iJ H z K x=some r) :
  ∃n cs,K n cs=some r∧cs.length=n * z∧(∃base len c,u=.slice base len c∧len=n)∧∀m,m≤n→∃cs',cU ρ (cs.take (m * z)) cs'∧∀w':World,w'.heap=w.heap→(Builtin.firstCells z m u).run P w'=.ok ⟨cs'⟩ w':=by
 unfold iJ at h
 split at h
 ·cases hv with
  | sc h=>simp [scalar] at h
  | j5=>
   refine ⟨0,[],h,by simp,⟨_,_,_,rfl,rfl⟩,fun m hm=>⟨[],by simp;exact .nil,fun w' _=>?_⟩⟩
   simp [Builtin.firstCells,Sem.run_pure]
 ·cases hv with
  | sc h=>simp [scalar] at h
  | Dn=>
   refine ⟨0,[],h,by simp,⟨_,_,_,rfl,rfl⟩,fun m hm=>⟨[],by simp;exact .nil,fun w' _=>?_⟩⟩
   have:m=0:=by omega
   subst this
   simp [Builtin.firstCells,Sem.run_pure,loadCells,loadCellsFrom]
 ·rename_i b off z' n c
  obtain ⟨hz,h1⟩:=bO h
  have EC:=Nat.eq_of_beq_eq_true hz
  subst EC
  clear h
  cases hv with
  | sc h=>simp [scalar] at h
  | @sl _ _ _ _ _ p c' s hs hl lO he hp=>
   cases hn:Nat.beq n 0 with
   | true=>
    rw [hn] at h1
    have MX:=Nat.eq_of_beq_eq_true hn
    subst MX
    refine ⟨0,[],h1,by simp,⟨_,_,_,rfl,rfl⟩,fun m hm=>⟨[],by simp;exact .nil,fun w' _=>wv ?_ ?_⟩⟩
    ·have:m=0:=by omega
     simp [this]
    ·intro i v hi;simp at hi
   | false=>
    rw [hn] at h1
    have MX:=Nat.ne_of_beq_eq_false hn
    obtain ⟨cs0,xb,hb,MT,h2⟩:=mh h1
    obtain ⟨cs,ht,h3⟩:=aO h2
    obtain ⟨t1,t2⟩:=take?_get ht
    have t1:cs.length=n * z:=t1
    have t2:∀i,i < n * z→cs[i]?=(e9 cs0 off)[i]?:=t2
    obtain ⟨s',eM,xm⟩:=hH.blk _ _ hb
    obtain ⟨a,e,fz,ha,lk,dT⟩:=MT _ _ _ xm
    rw [hs] at eM;cases eM
    have jG:p=s.sh + off:=by rcases hp with h0|h0<;>omega
    refine ⟨n,cs,h3,t1,⟨_,_,_,rfl,rfl⟩,fun m hm=>?_⟩
    have key:∀q,q≤n * z→∃cs':List Value,cs'.length=q∧∀i,i < q→∃x y,cs[i]?=some x∧cs'[i]?=some y∧a[s.sh + off + i]?=some y∧VR ρ x y:=by
     intro q
     induction q with
     | zero=>intro _;exact ⟨[],rfl,fun i hi=>by omega⟩
     | succ q ih=>
      intro hq
      obtain ⟨l',pZ,hg⟩:=ih (by omega)
      have hx:cs[q]?=some cs[q]:=List.getElem?_eq_getElem (by rw [t1];exact hq)
      have rY:=t2 q hq
      rw [hx,fg,List.getElem?_drop] at rY
      obtain ⟨y,hy,tu⟩:=dT (off + q) _ rY.symm
      refine ⟨l'++[y],by simp [pZ],fun i hi=>?_⟩
      by_cases e:i=q
      ·subst e
       exact ⟨_,y,hx,by simp [pZ],by rw [← hy];congr 1;omega,tu⟩
      ·obtain ⟨x,z,q1,q2,q3,q4⟩:=hg i (by omega)
       exact ⟨x,z,q1,by rw [List.getElem?_append_left (by omega)];exact q2,q3,q4⟩
    have hmz:m * z≤n * z:=Nat.mul_le_mul_right _ hm
    obtain ⟨cs',pZ,hg⟩:=key (m * z) hmz
    refine ⟨cs',.tn (by simp;omega) fun i x hx=>?_,fun w' Oa=>?_⟩
    ·have bR:i < m * z:=by
      have:=(List.getElem?_eq_some_iff.1 hx).1
      simp at this;omega
     rw [List.getElem?_take,if_pos bR] at hx
     obtain ⟨x',y,q1,q2,q3,q4⟩:=hg i bR
     rw [hx] at q1;cases q1
     exact ⟨y,q2,q4⟩
    ·refine wv pZ fun i v hi=>?_
     have bR:i < m * z:=by rw [← pZ];exact (List.getElem?_eq_some_iff.1 hi).1
     obtain ⟨x',y,q1,q2,q3,q4⟩:=hg i bR
     rw [hi] at q2;cases q2
     subst jG
     exact cell_of w' Oa ha q3
 ·cases h
theorem BS {t ts:TypeId} {ty:TypeId} {e:TypeId} {z:Nat} {Xi:Array TypeId} {x y u v:Value} (u4:Xi[0]?=some t) (hu:P.underlying t=some (.slice e)) (hz:b8 P e=some z) (hH:HR ρ H nx w.heap)
  (hx:VR ρ x u) (hy:VR ρ y v) (h:iJ H z (KT z H nx k x) y=some r):Good P w ρ H nx r k (do pure (.value (← Builtin.copy_ Xi ty #[u,v]))):=by
 obtain ⟨n,cs,h1,hl,⟨base,len,c,rfl,hlen⟩,xy⟩:=qo (P:=P) hH hy h
 subst hlen
 have zero:∀(b:Option Addr) (dl dc:Nat),Nat.min len dl=0→u=.slice b dl dc→k (.int .i64 (.ofNat 0)) H nx=some r→Good P w ρ H nx r k (do pure (.value (← Builtin.copy_ Xi ty #[u,.slice base len c]))):=by
  intro b dl dc hm Xc hk
  obtain ⟨cs',hr,fw⟩:=xy 0 (Nat.zero_le _)
  have:cs'=[]:=by
   have:=hr.length
   simp at this
   exact this
  subst this
  refine .same hH (.sc rfl) hk ?_
  have GG:Nat.min len dl=0:=hm
  subst Xc
  simp only [Builtin.copy_,u4,List.getElem?_toArray,List.getElem?_cons_zero,List.getElem?_cons_succ,Sem.run_bind,run_underlying hu,Result.andThen_ok,Builtin.lenOf,Sem.run_pure,dS hz,GG,fw w rfl]
  cases b with
  | none=>rfl
  | some a=>rfl
 unfold KT at h1
 split at h1
 ·cases hx with
  | sc h=>simp [scalar] at h
  | j5=>exact zero _ _ _ (Nat.min_zero _) rfl h1
 ·obtain ⟨b,off,z',dl,dc,rfl,h2⟩:=mZ h1
  obtain ⟨Ob,h3⟩:=bO h2
  have EC:=Nat.eq_of_beq_eq_true Ob
  subst EC
  cases hx with
  | sc h=>simp [scalar] at h
  | @sl _ _ _ _ _ p c' s hs pZ lO he hp=>
   cases hm:Nat.beq (Nat.min len dl) 0 with
   | true=>
    rw [hm] at h3
    exact zero _ _ _ (Nat.eq_of_beq_eq_true hm) rfl h3
   | false=>
    rw [hm] at h3
    have GG:=Nat.ne_of_beq_eq_false hm
    obtain ⟨zw,ht,h4⟩:=aO h3
    obtain ⟨MY,h5⟩:=bO h4
    obtain ⟨old,hb,h6⟩:=fh h5
    obtain ⟨l,u3,h7⟩:=aO h6
    rw [m3] at h7
    obtain ⟨t1,t2⟩:=take?_eq _ _ _ ht
    obtain ⟨cs',hr,fw⟩:=xy (Nat.min len dl) (Nat.min_le_left _ _)
    have VP:zw=cs.take (Nat.min len dl * z):=t1
    rw [← VP] at hr
    have MZ:dl≠0:=by
     intro h0;subst h0
     exact GG (Nat.min_zero _)
    have jG:p=s.sh + off:=by rcases hp with h0|h0<;>omega
    subst jG
    obtain ⟨w',g1,g2,g3⟩:=jU (P:=P) hH hb hs u3 hr MY
    refine ⟨_,_,nx,.int .i64 (.ofNat (Nat.min len dl)),w',ρ,h7,.inl ?_,.sc rfl,g2,g3,Nat.le_refl _,fun _ _=>rfl⟩
    simp only [Builtin.copy_,u4,List.getElem?_toArray,List.getElem?_cons_zero,List.getElem?_cons_succ,Sem.run_bind,run_underlying hu,Result.andThen_ok,Builtin.lenOf,Sem.run_pure,dS hz,fw w rfl,g1]
    rfl
end Go.Eng

namespace Go.Eng
variable {P:Program} {w:World} {ρ:bA} {H:Heap} {nx:Nat} {r:Ex×St} {T:Tr Value} {L:List Value} {ρa ρc:Operand→Value} {o:Oper} {k:KA} {ins:List Nat}
theorem qp {v:Value} {K:Nat→List MapEntry→Nat→R0} (h:oL H v K=some r):∃b es c,v=.map (some b)∧ao H (at_ b)=some (.map es c)∧K b es c=some r:=by
 unfold oL at h
 split at h
 ·obtain ⟨es,c,h1,h2⟩:=gf h
  exact ⟨_,es,c,rfl,h1,h2⟩
 ·cases h
theorem kU.append {a a' b b':List MapEntry} (h:kU ρ a a') (h':kU ρ b b'):kU ρ (a++b) (a'++b'):=by
 induction h with
 | nil=>exact h'
 | cons hk hv hb _ ih=>exact .cons hk hv hb ih
theorem kU.set {f:MapEntry→MapEntry} {v u:Value} (hv:VR ρ v u):∀{es es':List MapEntry},kU ρ es es'→∀i:Nat,(∀e',es'[i]?=some e'→(f e').key=e'.key∧(f e').val=u∧(f e').born=e'.born)→kU ρ (gV es i v) (es'.modify i f):=by
 intro es es' h
 induction h with
 | nil=>intro i _;cases i<;>exact .nil
 | @cons e e' es es' hk jS hb hr ih=>
  intro i hf
  cases i with
  | zero=>
   obtain ⟨f1,f2,f3⟩:=hf e' rfl
   show kU ρ ({ e with val:=v }::es) (f e'::es')
   exact .cons (by rw [f1];exact hk) (by rw [f2];exact hv) (by rw [f3];exact hb) hr
  | succ i=>
   show kU ρ (e::gV es i v) (e'::es'.modify i f)
   exact .cons hk jS hb (ih i fun Xj he=>hf Xj (by simpa using he))
theorem kU.aaw {f:MapEntry→MapEntry}:∀{es es':List MapEntry},kU ρ es es'→∀i:Nat,(∀e',es'[i]?=some e'→(f e').key=e'.key∧(f e').val=e'.val∧(f e').born=e'.born)→kU ρ es (es'.modify i f):=by
 intro es es' h
 induction h with
 | nil=>intro i _;cases i<;>exact .nil
 | @cons e e' es es' hk jS hb hr ih=>
  intro i hf
  cases i with
  | zero=>
   obtain ⟨f1,f2,f3⟩:=hf e' rfl
   exact .cons (by rw [f1];exact hk) (by rw [f2];exact jS) (by rw [f3];exact hb) hr
  | succ i=>exact .cons hk jS hb (ih i fun Xj he=>hf Xj (by simpa using he))
theorem jq {b:Nat} {es:Array MapEntry} {c:Nat} (ob:Obj) (h:w.heap[b]?=some (.map es c)):(setObj b ob).run P w=.ok () { w with heap:=w.heap.setIfInBounds b ob }:=by
 simp [setObj,Sem.run,h]
theorem Good.mapped {s:Sem Next} {b:Nat} {rf:Ref} {es oT:List MapEntry} {c c2:Nat} {tA es':Array MapEntry} {v u:Value} (hH:HR ρ H nx w.heap) (hb:ao H (at_ b)=some (.map es c)) (hs:ρ b=some rf) (he:w.heap[rf.blk]?=some (.map tA c))
  (hr:kU ρ oT es'.toList) (hv:VR ρ v u) (hk:k v (bB (at_ b) H (some (.map oT c2))) nx=some r)
  (fw:s.run P w=.ok (.value u) { w with heap:=w.heap.setIfInBounds rf.blk (.map es' c2) }∨(s.run P w=.ok .skip { w with heap:=w.heap.setIfInBounds rf.blk (.map es' c2) }∧u=undef)):Good P w ρ H nx r k s:=by
 have bR:=(Array.getElem?_eq_some_iff.1 he).1
 refine ⟨v,_,nx,u,_,ρ,hk,fw,hv,?_,⟨.refl ρ,fun j hj=>.inl (j6.mf hb hj),.put _ _ _,fun j hj hn=>?_,by simp,rfl,rfl,rfl⟩,Nat.le_refl _,fun _ _=>rfl⟩
 ·refine hH.write hb hs (fun i hi=>?_) ⟨es',?_,hr⟩
  ·simp only
   rw [Array.getElem?_setIfInBounds,if_neg (fun e=>hi e.symm)]
  ·simp only
   rw [Array.getElem?_setIfInBounds,if_pos rfl,if_pos bR]
 ·have:rf.blk≠j:=fun e=>hn ⟨b,_,rf,hb,rfl,hs,e⟩
  simp only
  rw [Array.getElem?_setIfInBounds,if_neg this]
theorem wx {a b:Value} (h:Instr.sameBits 10000 a b=true):(Instr.keyThatStays a b).run P w=.ok b w:=by
 simp only [Instr.keyThatStays,h,if_true,Sem.run_pure]
theorem lP {t:TypeId} {m q x:Operand} {a:bG Operand} (ho:o.op=.mapUpdate t m q x∨o.op=.insert t m q x) (hc:ai P ins o=some a) (ha:a.all fun x=>VR ρ (ρa x) (ρc x)) (hH:HR ρ H nx w.heap)
  (h:cm (a.map (Av ρa)) P T L H nx k=some r):Good P w ρ H nx r k (execOp ρc o):=by
 have he:execOp ρc o=(do Instr.mapUpdate t (ρc m) (ρc q) (ρc x);pure .skip):=by rcases ho with ho|ho<;>simp only [execOp,ho]
 have rV:∃kt e,P.underlying t=some (.map kt e)∧a=.G9 m q x kt:=by
  rcases ho with ho|ho
  all_goals
   simp only [ai,ho] at hc
   split at hc
   ·rename_i kt e hu
    cases hc
    exact ⟨kt,e,hu,rfl⟩
   ·cases hc
 obtain ⟨kt,e,hu,rfl⟩:=rV
 obtain ⟨hm,hq,hx⟩:=ha
 have h':oL H (ρa m) (fun b es c=>bd (findAt P false kt (ρa q) es) fun i=>Option.rec (dx (at_ b) H (some (ff es c (ρa q) (ρa x))) fun H=>k undef H nx) (fun i=>dx (at_ b) H (some (.map (gV es i (ρa x)) c)) fun H=>k undef H nx) i)=some r:=h
 obtain ⟨b,es,c,e1,hb,h1⟩:=qp h'
 obtain ⟨i,hi,h2⟩:=aO h1
 rw [e1] at hm
 generalize Oc:ρc m=mu at hm
 cases hm with
 | sc h=>simp [scalar] at h
 | @map _ s hs=>
  obtain ⟨s',eM,es',eB,hr⟩:=hH.blk _ _ hb
  rw [hs] at eM;cases eM
  obtain ⟨hf,BM,oW⟩:=ln (w:=w) hi hr
  have fP:=hq.gI hf
  rw [he]
  rcases oW with ⟨rfl,ES⟩|⟨j,e1,e2,rfl,g1,g2,g3,g4,g5,g6,g7,ES⟩
  ·have h3:dx (at_ b) H (some (ff es c (ρa q) (ρa x))) (fun H=>k undef H nx)=some r:=h2
   rw [bQ] at h3
   refine .mapped (es':=es'.push { key:=ρa q,val:=ρc x,born:=c }) (c2:=c + 1) hH hb hs eB ?_ (.tuple .nil) h3 (.inr ⟨?_,rfl⟩)
   ·rw [Array.toList_push]
    exact hr.append (.cons (by rw [← fP] at hq ⊢;rw [fP];exact .of_flat hf) hx rfl .nil)
   ·simp only [Instr.mapUpdate,Sem.run_bind,run_underlying hu,Result.andThen_ok,Oc,dj w rfl eB,fP,BM,ES,jq _ eB,Sem.run_pure]
  ·have h3:dx (at_ b) H (some (.map (gV es j (ρa x)) c)) (fun H=>k undef H nx)=some r:=h2
   rw [bQ] at h3
   have lq:es'[j]?=some e2:=by rw [← Array.getElem?_toList];exact g2
   refine .mapped (es':=es'.modify j fun e=>{ e with key:=ρa q,val:=ρc x }) (c2:=c) hH hb hs eB ?_ (.tuple .nil) h3 (.inr ⟨?_,rfl⟩)
   ·rw [Array.toList_modify]
    refine hr.set hx j fun e' Br=>⟨?_,rfl,rfl⟩
    rw [g2] at Br;cases Br
    exact g5.symm
   ·simp only [Instr.mapUpdate,Sem.run_bind,run_underlying hu,Result.andThen_ok,Oc,dj w rfl eB,fP,BM,ES,lq,Option.map_some,Option.getD_some,wx g7,jq _ eB,Sem.run_pure]
theorem tH {t:TypeId} {m q:Operand} {a:bG Operand} (ho:o.op=.mapEntry t m q) (hc:ai P ins o=some a) (ha:a.all fun x=>VR ρ (ρa x) (ρc x)) (hH:HR ρ H nx w.heap)
  (h:cm (a.map (Av ρa)) P T L H nx k=some r):Good P w ρ H nx r k (execOp ρc o):=by
 have he:execOp ρc o=(do pure (.value (← Instr.mapEntry t (ρc m) (ρc q)))):=by simp only [execOp,ho]
 simp only [ai,ho] at hc
 split at hc
 ·rename_i kt e hu
  simp only [Option.map_eq_some_iff] at hc
  obtain ⟨z,hz,rfl⟩:=hc
  obtain ⟨mi,rW⟩:=gJ (w:=w) hz
  obtain ⟨hm,hq⟩:=ha
  have h':oL H (ρa m) (fun b es c=>bd (findAt P false kt (ρa q) es) fun i=>Option.rec (dx (at_ b) H (some (ff es c (ρa q) z)) fun H=>k (.tuple #[z,.int .i64 (.ofNat c)]) H nx)
   (fun i=>bd (eY es i) fun e=>k (.tuple #[e.val,.int .i64 (.ofNat e.born)]) H nx) i)=some r:=h
  obtain ⟨b,es,c,e1,hb,h1⟩:=qp h'
  obtain ⟨i,hi,h2⟩:=aO h1
  rw [e1] at hm
  generalize Oc:ρc m=mu at hm
  cases hm with
  | sc h=>simp [scalar] at h
  | @map _ s hs=>
   obtain ⟨s',eM,es',eB,hr⟩:=hH.blk _ _ hb
   rw [hs] at eM;cases eM
   obtain ⟨hf,BM,oW⟩:=ln (w:=w) hi hr
   have fP:=hq.gI hf
   rw [he]
   rcases oW with ⟨rfl,ES⟩|⟨j,e1,e2,rfl,g1,g2,g3,g4,g5,g6,g7,ES⟩
   ·have h3:dx (at_ b) H (some (ff es c (ρa q) z)) (fun H=>k (.tuple #[z,.int .i64 (.ofNat c)]) H nx)=some r:=h2
    rw [bQ] at h3
    refine .mapped (es':=es'.push { key:=ρa q,val:=z,born:=c }) (c2:=c + 1) hH hb hs eB ?_ (.tuple (.cons (.gL rW) (.cons (.sc rfl) .nil))) h3 (.inl ?_)
    ·rw [Array.toList_push]
     exact hr.append (.cons (.of_flat hf) (.gL rW) rfl .nil)
    ·simp only [Instr.mapEntry,Sem.run_bind,run_underlying hu,Result.andThen_ok,Oc,dj w rfl eB,fP,BM,ES,mi,jq _ eB,Sem.run_pure]
     rfl
   ·have h3:bd (eY es j) (fun e=>k (.tuple #[e.val,.int .i64 (.ofNat e.born)]) H nx)=some r:=h2
    rw [tB,g1] at h3
    have lq:es'[j]?=some e2:=by rw [← Array.getElem?_toList];exact g2
    have bR:=(Array.getElem?_eq_some_iff.1 eB).1
    have bN:es'.modify j (fun e=>{ e with key:=ρa q })=es':=by
     apply Array.ext'
     rw [Array.toList_modify]
     apply List.ext_getElem?
     intro i
     rw [List.getElem?_modify]
     by_cases Dx:j=i
     ·subst Dx
      rw [g2]
      simp [← g5]
     ·simp [Dx]
    have hw : { w with heap:=w.heap.setIfInBounds s.blk (.map es' c) } = w:=by
     have:w.heap.setIfInBounds s.blk (.map es' c)=w.heap:=by
      apply Array.ext_getElem?
      intro i
      rw [Array.getElem?_setIfInBounds]
      by_cases Dx:s.blk=i
      ·subst Dx;rw [if_pos rfl,if_pos bR,eB]
      ·rw [if_neg Dx]
     rw [this]
    refine .same hH (.tuple (.cons g3 (.cons (.sc rfl) .nil))) h3 ?_
    simp only [Instr.mapEntry,Sem.run_bind,run_underlying hu,Result.andThen_ok,Oc,dj w rfl eB,fP,BM,ES,lq,Option.map_some,Option.getD_some,wx g7,jq _ eB,Sem.run_pure,bN,hw,g4]
    rfl
 ·cases hc
theorem zx:∀{es:List MapEntry} {b j i:Nat},je es b j=some i→∃q,i=j + q∧q < es.length∧(∀e,es[q]?=some e→e.born=b)∧∀p,p < q→∀e,es[p]?=some e→e.born≠b:=by
 intro es
 induction es with
 | nil=>intro b j i h;cases h
 | cons e es ih=>
  intro b j i h
  unfold je at h
  cases hb:Nat.beq e.born b with
  | true=>
   rw [hb] at h;cases h
   exact ⟨0,rfl,by simp,fun e' he=>by simp at he;subst he;exact Nat.eq_of_beq_eq_true hb,fun p hp=>by omega⟩
  | false=>
   rw [hb] at h
   obtain ⟨q,h1,h2,h3,h4⟩:=ih h
   refine ⟨q + 1,by omega,by simp;omega,fun e' he=>h3 e' (by simpa using he),fun p hp e' he=>?_⟩
   cases p with
   | zero=>simp at he;subst he;exact Nat.ne_of_beq_eq_false hb
   | succ p=>exact h4 p (by omega) e' (by simpa using he)
theorem xz {es:Array MapEntry} {b q:Nat} (hq:q < es.size) (h1:∀e,es[q]?=some e→e.born=b) (h2:∀p,p < q→∀e,es[p]?=some e→e.born≠b) :
  es.findIdx? (fun e=>(e.born:Int) == (b:Int))=some q:=by
 rw [Array.findIdx?_eq_some_iff_getElem]
 refine ⟨hq,?_,fun j hj=>?_⟩
 ·have:=h1 es[q] (by simp [hq])
  simp [this]
 ·have:=h2 j hj es[j] (by simp)
  simpa using by omega
theorem qt {t:TypeId} {m q x:Operand} {a:bG Operand} (ho:o.op=.entryStore t m q x) (hc:ai P ins o=some a) (ha:a.all fun x=>VR ρ (ρa x) (ρc x)) (hH:HR ρ H nx w.heap)
  (h:cm (a.map (Av ρa)) P T L H nx k=some r):Good P w ρ H nx r k (execOp ρc o):=by
 have he:execOp ρc o=(do Instr.entryStore t (ρc m) (ρc q) (ρc x);pure .skip):=by simp only [execOp,ho]
 simp only [ai,ho] at hc
 cases hc
 obtain ⟨hm,hq,hx⟩:=ha
 have h':cF (ρa q) (fun b=>oL H (ρa m) fun r es c=>bd (je es b 0) fun i=>dx (at_ r) H (some (.map (gV es i (ρa x)) c)) fun H=>k undef H nx)=some r:=h
 obtain ⟨kq,n,e0,h0⟩:=eH h'
 obtain ⟨b,es,c,e1,hb,h1⟩:=qp h0
 obtain ⟨i,hi,h2⟩:=aO h1
 rw [bQ] at h2
 rw [e1] at hm
 rw [e0] at hq
 have fP:=hq.ie
 generalize Oc:ρc m=mu at hm
 cases hm with
 | sc h=>simp [scalar] at h
 | @map _ s hs=>
  obtain ⟨s',eM,es',eB,hr⟩:=hH.blk _ _ hb
  rw [hs] at eM;cases eM
  obtain ⟨j,g1,g2,g3,g4⟩:=zx hi
  have Dx:i=j:=by omega
  subst Dx
  have hl:=hr.length
  have Kw:es'.findIdx? (fun e=>(e.born:Int) == (Int.ofNat n))=some i:=by
   refine xz (by simp at hl;omega) (fun e he=>?_) fun p hp e he=>?_
   ·obtain ⟨e0,Xk,_,_,p5⟩:=hr.get (i:=i) (e':=e) (by rw [Array.getElem?_toList];exact he)
    rw [p5];exact g3 e0 Xk
   ·obtain ⟨e0,Xk,_,_,p5⟩:=hr.get (i:=p) (e':=e) (by rw [Array.getElem?_toList];exact he)
    rw [p5];exact g4 p hp e0 Xk
  rw [he]
  refine .mapped (es':=es'.modify i fun e=>{ e with val:=ρc x }) (c2:=c) hH hb hs eB ?_ (.tuple .nil) h2 (.inr ⟨?_,rfl⟩)
  ·rw [Array.toList_modify]
   exact hr.set hx i fun e' Br=>⟨rfl,rfl,rfl⟩
  ·simp only [Instr.entryStore,Sem.run_bind,Result.andThen_ok,Oc,dj w rfl eB,fP,hC,Kw,jq _ eB,Sem.run_pure]
end Go.Eng

namespace Go.Eng
variable {P:Program} {w:World} {ρ:bA} {H:Heap} {nx:Nat} {r:Ex×St} {T:Tr Value} {L:List Value} {ρa ρc:Operand→Value} {o:Oper} {k:KA} {ins:List Nat}
theorem SS {n:Nat} (h:n≤small):IntKind.i64.wrap (Int.ofNat n)=(n:Int):=ml h
inductive Src (P:Program) (w:World) (e:TypeId) (z:Nat) (t2:TypeId):Value→Nat→List Value→Prop where
 | cells {e2:TypeId} {b:Option Addr} {n c:Nat} {news:List Value} (ht:P.underlying t2=some (.slice e2)) (hf:∀w':World,w'.heap=w.heap→(Builtin.firstCells z n (.slice b n c)).run P w'=.ok ⟨news⟩ w'):Src P w e z t2 (.slice b n c) n news
 | eN {ki kq:IntKind} {n:Nat} {i:TypeInfo} {zv:Value} (ht:P.underlying t2=some (.int ki)) (hi:P.info? e=some i) (hz:i.zero=some zv) (hs:zv.cells.size=z) (h1:n≤small) (h2:n * i.bytes≤small) :
   Src P w e z t2 (.int kq (.ofNat n)) n (a7 zv.cells.toList n)
theorem lu (zv:Value) (n:Nat):Builtin.zeroCells zv.cells n=(a7 zv.cells.toList n).toArray:=by
 apply Array.ext'
 have h:=HD zv.cells.toList n
 simp only [Builtin.zeroCells,Array.toList_map,Array.toList_range]
 rw [← h]
 simp
variable {t t2 ty e:TypeId} {z:Nat} {i:TypeInfo}
theorem zy {x:Value} {n:Nat} {news:List Value} {w':World} {g p jr il:Nat} (ht:P.underlying t=some (.slice e)) (hi:P.info? e=some i) (hz:i.size=z) (hx:Src P w e z t2 x n news) (fC:jr + n≤il)
  (bS:(storeCells ⟨g,p + jr * z,none⟩ news).run P w=.ok () w') :
  (Builtin.append_ #[t,t2] ty #[.slice (some ⟨g,p,none⟩) jr il,x]).run P w=.ok (.slice (some ⟨g,p,none⟩) (jr + n) il) w':=by
 cases hx with
 | cells u5 hf=>
  simp [Builtin.append_,run_underlying ht,run_underlying u5,sizeOf,typeInfo,hi,hz,Builtin.lenOf,fC,hf w rfl,Addr.add_lit,bS]
 | @eN ki kq _ i' zv u5 yK EC hs h1 h2=>
  rw [hi] at yK;cases yK
  have hw:IntKind.i64.wrap (n:Int)=(n:Int):=ml h1
  have oG:small=1099511627776:=rfl
  have hb:¬((281474976710656:Int) < (n:Int) * (i.bytes:Int)):=by
   have:((n * i.bytes:Nat):Int)≤1099511627776:=by rw [oG] at h2;omega
   have h3:(n:Int) * (i.bytes:Int)≤1099511627776:=by simpa using this
   omega
  have HF:¬((n:Int) < 0):=by omega
  by_cases h0:n * z=0
  ·have:a7 zv.cells.toList n=[]:=by
    apply List.eq_nil_of_length_eq_zero
    rw [ej];simp [hs,h0]
   rw [this] at bS
   simp [Builtin.append_,run_underlying ht,run_underlying u5,sizeOf,typeInfo,hi,hz,hC,hw,hb,HF,fC,h0,Addr.add_lit,bS]
  ·simp [Builtin.append_,run_underlying ht,run_underlying u5,sizeOf,typeInfo,zeroValue,hi,hz,EC,hC,hw,hb,HF,fC,h0,Addr.add_lit,lu,bS]
theorem HG {x:Value} {news:List Value} {b:Option Addr} {jr il:Nat} (ht:P.underlying t=some (.slice e)) (hi:P.info? e=some i) (hz:i.size=z) (hx:Src P w e z t2 x 0 news) (hn:news=[]) (fC:jr≤il) :
  (Builtin.append_ #[t,t2] ty #[.slice b jr il,x]).run P w=.ok (.slice b jr il) w:=by
 subst hn
 cases hx with
 | cells u5 hf=>
  cases b<;>simp [Builtin.append_,run_underlying ht,run_underlying u5,sizeOf,typeInfo,hi,hz,Builtin.lenOf,fC,hf w rfl,storeCells,Sem.run_pure]
 | @eN ki kq _ i' zv u5 yK EC hs h1 h2=>
  have hw:IntKind.i64.wrap (0:Int)=(0:Int):=rfl
  cases b<;>simp [Builtin.append_,run_underlying ht,run_underlying u5,sizeOf,typeInfo,hi,hz,hC,hw,fC,storeCells,Sem.run_pure]
theorem HH {x:Value} {n:Nat} {news olds:List Value} {b:Option Addr} {jr il:Nat} {zv:Value} (ht:P.underlying t=some (.slice e)) (hi:P.info? e=some i) (hz:i.size=z) (EU:i.zero=some zv) (hx:Src P w e z t2 x n news)
  (ho:∀w':World,w'.heap=w.heap→(Builtin.firstCells z jr (.slice b jr il)).run P w'=.ok ⟨olds⟩ w')
  (hg:il < jr + n) (h63:jr + n≤small) (hby:(jr + n) * i.bytes≤small) :
  (Builtin.append_ #[t,t2] ty #[.slice b jr il,x]).run P w=.ok (.slice (some ⟨w.heap.size,0,none⟩) (jr + n) (grownCap w (jr + n) il e))
   (w.drew.alloc (.cells (olds.toArray++news.toArray++Builtin.zeroCells zv.cells (grownCap w (jr + n) il e - (jr + n))) e)):=by
 have oG:small=1099511627776:=rfl
 rw [oG] at h63 hby
 have hn:¬(jr + n≤il):=by omega
 have Oe:¬(9223372036854775807 < ((jr:Int) + (n:Int))):=by omega
 have ze:=growslice_fits (old:=il) (need:=jr + n) (bytes:=i.bytes) hg (by omega)
 have Of:¬(281474976710656 < Builtin.nextslicecap (jr + n) il * i.bytes):=by omega
 cases hx with
 | cells u5 hf=>
  simp [Builtin.append_,run_underlying ht,run_underlying u5,sizeOf,typeInfo,zeroValue,hi,hz,EU,Builtin.lenOf,hn,Oe,Of,Question.forced,hf w.drew rfl,ho w.drew rfl,newRow,grownCap]
  congr 2
  apply Array.ext'
  simp [List.append_assoc]
 | @eN ki kq _ i' Xl u5 yK EC hs h1 h2=>
  rw [hi] at yK;cases yK
  rw [EU] at EC;cases EC
  have hw:IntKind.i64.wrap (n:Int)=(n:Int):=ml h1
  have hb:¬((281474976710656:Int) < (n:Int) * (i.bytes:Int)):=by
   have:((n * i.bytes:Nat):Int)≤1099511627776:=by rw [oG] at h2;omega
   have h3:(n:Int) * (i.bytes:Int)≤1099511627776:=by simpa using this
   omega
  have HF:¬((n:Int) < 0):=by omega
  by_cases h0:n * z=0
  ·have:a7 zv.cells.toList n=[]:=by
    apply List.eq_nil_of_length_eq_zero
    rw [ej];simp [hs,h0]
   rw [this]
   simp [Builtin.append_,run_underlying ht,run_underlying u5,sizeOf,typeInfo,zeroValue,hi,hz,EU,hC,hw,hb,HF,hn,Oe,Of,h0,Question.forced,ho w.drew rfl,newRow,grownCap]
  ·simp [Builtin.append_,run_underlying ht,run_underlying u5,sizeOf,typeInfo,zeroValue,hi,hz,EU,hC,hw,hb,HF,hn,Oe,Of,h0,Question.forced,ho w.drew rfl,lu,newRow,grownCap]
theorem mo {bytes:Nat} {len n:Nat} {old new:List Value} (h:eF z bytes H nx k len n old new=some r) :
  (len + n) * bytes≤small∧len + n≤small∧k (rS nx z (len + n) (2 * (len + n))) (bB (at_ nx) H (some (.cells (old++new)))) (nx + 1)=some r:=by
 unfold eF at h
 obtain ⟨hc,h1⟩:=bO h
 simp only [Bool.and_eq_true] at hc
 rw [mj] at h1
 exact ⟨Nat.le_of_ble_eq_true hc.1,Nat.le_of_ble_eq_true hc.2,h1⟩
theorem sy {rf:Ref} {z len p c':Nat} (h:len≤c'∧c'≤ei) (hp:p=rf.sh∧p + c' * z≤rf.size):VR (ρ.with nx rf) (rS nx z len (2 * len)) (.slice (some ⟨rf.blk,p,none⟩) len c'):=by
 have h1:=h.1
 refine .sl (bA.dN _ _ _) h ?_ (fun hx=>?_) (.inr ⟨by omega,hp.2⟩)
 ·show 2 * len / 2≤c'
  omega
 ·rw [qj] at hx
  omega
theorem nY {bytes:Nat} {x:Value} {n len il:Nat} {b:Option Addr} {old new olds news:List Value} {zv:Value} (hH:HR ρ H nx w.heap) (ht:P.underlying t=some (.slice e)) (hi:P.info? e=some i) (hz:i.size=z) (hb:i.bytes=bytes) (EU:i.zero=some zv) (SU:zv.cells.size=z)
  (hx:Src P w e z t2 x n news) (ho:∀w':World,w'.heap=w.heap→(Builtin.firstCells z len (.slice b len il)).run P w'=.ok ⟨olds⟩ w') (j9:cU ρ old olds) (yM:cU ρ new news) (Xm:old.length=len * z) (kB:new.length=n * z) (hg:il < len + n)
  (h:eF z bytes H nx k len n old new=some r):Good P w ρ H nx r k (do pure (.value (← Builtin.append_ #[t,t2] ty #[.slice b len il,x]))):=by
 obtain ⟨h1,h2,hk⟩:=mo h
 have fw:=HH (ty:=ty) ht hi hz EU hx ho hg h2 (by rw [hb];exact h1)
 have hge:=grownCap_ge w (len + n) il e
 have Dt:grownCap w (len + n) il e≤ei:=grownCap_le_maxLen w (len + n) il e (by unfold maxLen;unfold small at h2;omega)
 have lk:(olds.toArray++news.toArray++Builtin.zeroCells zv.cells (grownCap w (len + n) il e - (len + n))).size=grownCap w (len + n) il e * z:=by
  simp only [Array.size_append,List.size_toArray,size_zeroCells,j9.length,yM.length,Xm,kB,SU]
  rw [← Nat.add_mul,← Nat.add_mul]
  congr 1
  omega
 refine .made (e:=e) (w':=w.drew.alloc (.cells (olds.toArray++news.toArray++Builtin.zeroCells zv.cells (grownCap w (len + n) il e - (len + n))) e)) hH rfl rfl rfl rfl ?_ (sy (rf:=⟨w.heap.size,0,_⟩) ⟨hge,Dt⟩ ⟨rfl,?_⟩) hk ?_
 ·intro j y hj
  obtain ⟨y',GH,hv⟩:=(j9.append yM).get hj
  have bR:=(List.getElem?_eq_some_iff.1 GH).1
  refine ⟨y',?_,hv⟩
  rw [Array.getElem?_append_left (by simpa using bR)]
  simpa using GH
 ·rw [lk];simp
 ·simp only [Sem.run_bind,fw,Result.andThen_ok,Sem.run_pure]
theorem vB {x:Value} {n off len c' bl:Nat} {s:Ref} {cs old new news:List Value} (hH:HR ρ H nx w.heap) (ht:P.underlying t=some (.slice e)) (hi:P.info? e=some i) (hz:i.size=z)
  (hb:ao H (at_ bl)=some (.cells cs)) (hs:ρ bl=some s) (hold:take? (len * z) (e9 cs off)=some old) (hx:Src P w e z t2 x n news) (yM:cU ρ new news) (kB:new.length=n * z) (h1:bZ new=true)
  (fC:len + n≤c') (Xn:c'≤ei) (hp:s.sh + off + c' * z≤s.size)
  (hk:k (rS nx z (len + n) (2 * (len + n))) (bB (at_ nx) (bB (at_ bl) H none) (some (.cells (old++new)))) (nx + 1)=some r) :
  Good P w ρ H nx r k (do pure (.value (← Builtin.append_ #[t,t2] ty #[.slice (some ⟨s.blk,s.sh + off,none⟩) len c',x]))):=by
 obtain ⟨s',eM,a,et,ha,lk,dT⟩:=hH.blk bl _ hb
 rw [hs] at eM;cases eM
 obtain ⟨t1,t2'⟩:=take?_get hold
 have oY:=yM.length
 have hmul:len * z + n * z≤c' * z:=by rw [← Nat.add_mul];exact Nat.mul_le_mul_right _ fC
 have bS:=run_storeCells_at P s.blk (s.sh + off + len * z) et news 0 a w ha (by simp;omega) (yM.one h1)
 have fw:=zy (ty:=ty) ht hi hz hx fC bS
 have nX:j6 ρ H s.blk:=⟨bl,_,s,hb,rfl,hs,rfl⟩
 refine ⟨_,_,nx + 1,.slice (some ⟨s.blk,s.sh + off,none⟩) (len + n) c',w.setRow s.blk (a.toList.take (s.sh + off + len * z + 0)++news++a.toList.drop (s.sh + off + len * z + 0 + news.length)).toArray,ρ.with nx ⟨s.blk,s.sh + off,s.size⟩,hk,.inl (by simp only [Sem.run_bind,fw,Result.andThen_ok,Sem.run_pure]),sy ⟨fC,Xn⟩ ⟨rfl,hp⟩,?_,⟨hH.eO _,fun j hj=>?_,(BH.put _ _ _).trans (.forget _ _),fun j hj hn=>?_,by simp,rfl,rfl,rfl⟩,Nat.le_succ _,fun b hb=>bA.fO _ _ (by omega)⟩
 ·refine (hH.forget bl).make (r:=⟨s.blk,s.sh + off,s.size⟩) (fun b1 y s1 dJ aS=>?_) ⟨_,et,setRow_heap w s.blk a _ et _ ha,?_,fun j y hj=>?_⟩
  ·have cG:b1≠bl:=by
    intro e';subst e'
    rw [bp] at dJ;cases dJ
   rw [aR _ _ _ _ (fun e'=>cG (ea e'))] at dJ
   have fF:s1.blk≠s.blk:=fun e'=>cG (hH.inj bl b1 _ y s s1 hb dJ rfl hs aS e'.symm).symm
   exact ⟨setRow_other w s.blk s1.blk _ fF,fF⟩
  ·simp;omega
  ·have ext:=hH.eO ⟨s.blk,s.sh + off,s.size⟩
   simp only [Nat.add_zero,List.getElem?_toArray]
   by_cases c1:j < len * z
   ·rw [List.getElem?_append_left (by rw [t1];exact c1),t2' j c1,fg,List.getElem?_drop] at hj
    obtain ⟨y',GH,hv⟩:=dT _ _ hj
    refine ⟨y',?_,hv.mono ext⟩
    have bR:=(Array.getElem?_eq_some_iff.1 GH).1
    rw [List.getElem?_append_left (by simp;omega),List.getElem?_append_left (by simp;omega),List.getElem?_take,if_pos (by omega)]
    rw [Array.getElem?_toList,← GH];congr 1;omega
   ·have VP:old.length=len * z:=t1
    rw [List.getElem?_append_right (by omega)] at hj
    obtain ⟨y',GH,hv⟩:=yM.get hj
    have bR:=(List.getElem?_eq_some_iff.1 GH).1
    refine ⟨y',?_,hv.mono ext⟩
    rw [List.getElem?_append_left (by simp;omega),List.getElem?_append_right (by simp;omega)]
    simp only [List.length_take,Array.length_toList]
    rw [← GH];congr 1;omega
 ·rcases j6.ss hj with h|h
  ·have h':j=s.blk:=h
   subst h'
   exact .inl nX
  ·exact .inl (j6.mY h)
 ·exact setRow_other w s.blk j _ fun e'=>hn (by rw [e'];exact nX)
end Go.Eng

namespace Go.Eng
variable {P:Program} {w:World} {ρ:bA} {H:Heap} {nx:Nat} {r:Ex×St} {T:Tr Value} {L:List Value} {ρa ρc:Operand→Value} {o:Oper} {k:KA} {ins:List Nat}
variable {t t2 ty e:TypeId} {z:Nat} {i:TypeInfo}
theorem xA {bytes:Nat} {zero:List Value} {zv:Value} {eN:Bool} {x u:Value} {K:Nat→List Value→R0} (hi:P.info? e=some i) (hz:i.size=z) (hb:i.bytes=bytes) (EU:i.zero=some zv) (hzero:zero=zv.cells.toList) (SV:zero.length=z) (Bq:cU ρ zero zero)
  (SW:(eN=true∧∃ki,P.underlying t2=some (.int ki))∨(eN=false∧∃e2,P.underlying t2=some (.slice e2))) (hH:HR ρ H nx w.heap) (hv:VR ρ x u) (h:xk z bytes zero eN H x K=some r) :
  ∃n new news,K n new=some r∧new.length=n * z∧cU ρ new news∧Src P w e z t2 u n news:=by
 rcases SW with ⟨rfl,ki,ht⟩|⟨rfl,e2,ht⟩
 ·have h':cF x (Ss bytes zero K)=some r:=h
  obtain ⟨kq,n,rfl,h1⟩:=eH h'
  obtain ⟨hc,h2⟩:=bO h1
  simp only [Bool.and_eq_true] at hc
  rw [hv.ie]
  refine ⟨n,a7 zero n,a7 zero n,h2,by rw [ej,SV],Bq.rep n,?_⟩
  rw [hzero]
  refine .eN ht hi EU ?_ (Nat.le_of_ble_eq_true hc.1) (by rw [hb];exact Nat.le_of_ble_eq_true hc.2)
  rw [← SV,hzero];simp
 ·have h':iJ H z K x=some r:=h
  obtain ⟨n,cs,h1,hl,⟨base,len,c,rfl,hlen⟩,xy⟩:=qo (P:=P) hH hv h'
  subst hlen
  obtain ⟨cs',hr,fw⟩:=xy len (Nat.le_refl _)
  rw [List.take_of_length_le (by omega)] at hr
  exact ⟨len,cs,cs',h1,hl,hr,.cells ht fw⟩
theorem xB {bytes:Nat} {zero:List Value} {zv:Value} {eN:Bool} {s x u v:Value} (ht:P.underlying t=some (.slice e)) (hi:P.info? e=some i) (hz:i.size=z) (hb:i.bytes=bytes) (EU:i.zero=some zv) (hzero:zero=zv.cells.toList) (SV:zero.length=z) (Bq:cU ρ zero zero)
  (SW:(eN=true∧∃ki,P.underlying t2=some (.int ki))∨(eN=false∧∃e2,P.underlying t2=some (.slice e2))) (hH:HR ρ H nx w.heap) (hs:VR ρ s u) (hx:VR ρ x v)
  (h:xk z bytes zero eN H x (p9 z bytes H nx k s)=some r):Good P w ρ H nx r k (do pure (.value (← Builtin.append_ #[t,t2] ty #[u,v]))):=by
 obtain ⟨n,new,news,h1,kB,yM,gS⟩:=xA (w:=w) hi hz hb EU hzero SV Bq SW hH hx h
 have SU:zv.cells.size=z:=by rw [← SV,hzero];simp
 have same:∀{b:Option Addr} {len cap:Nat},n=0→u=.slice b len cap→len≤cap→k s H nx=some r→Good P w ρ H nx r k (do pure (.value (← Builtin.append_ #[t,t2] ty #[u,v]))):=by
  intro b len cap hn hu hle hk
  subst hn;subst hu
  have oY:news=[]:=by
   have:=yM.length
   apply List.eq_nil_of_length_eq_zero
   rw [this,kB];simp
  exact .same hH hs hk (by simp only [Sem.run_bind,HG (ty:=ty) ht hi hz gS oY hle,Result.andThen_ok,Sem.run_pure])
 unfold p9 at h1
 split at h1
 ·cases hs with
  | sc h=>simp [scalar] at h
  | j5=>
   cases hn:Nat.beq n 0 with
   | true=>
    rw [hn] at h1
    exact same (Nat.eq_of_beq_eq_true hn) rfl (Nat.le_refl _) h1
   | false=>
    rw [hn] at h1
    obtain ⟨_,h2⟩:=bO h1
    have MX:=Nat.ne_of_beq_eq_false hn
    exact nY hH ht hi hz hb EU SU gS (olds:=[]) (old:=[]) (fun w' _=>by simp [Builtin.firstCells,Sem.run_pure]) .nil yM (by simp) kB (by omega) h2
 ·rename_i b off z' len c
  obtain ⟨hc,h2⟩:=bO h1
  simp only [Bool.and_eq_true] at hc
  have EC:=Nat.eq_of_beq_eq_true hc.1
  subst EC
  clear h1
  have MY:=hc.2.2
  cases hs with
  | sc h=>simp [scalar] at h
  | @sl _ _ _ _ _ p c' rf SX hl lO he hp=>
   have hs:VR ρ (.slice (some ⟨b,off,some z⟩) len c) (.slice (some ⟨rf.blk,p,none⟩) len c'):=.sl SX hl lO he hp
   cases hn:Nat.beq n 0 with
   | true=>
    rw [hn] at h2
    exact same (Nat.eq_of_beq_eq_true hn) rfl hl.1 h2
   | false=>
    rw [hn] at h2
    have MX:=Nat.ne_of_beq_eq_false hn
    cases fC:Nat.ble (Nat.add len n) (aE c) with
    | true=>
     rw [fC] at h2
     have HI:len + n≤aE c:=Nat.le_of_ble_eq_true fC
     have jG:p=rf.sh + off∧p + c' * z≤rf.size:=by
      rcases hp with h0|h0
      ·omega
      ·exact h0
     have h3:q7 z H nx k b off len c n new=some r:=h2
     unfold q7 at h3
     obtain ⟨cs,eQ,h4⟩:=fh h3
     obtain ⟨l,u3,h5⟩:=aO h4
     rw [m3] at h5
     have zz:lM cs (off + len * z) new=some l:=u3
     have hmul:len * z + n * z≤c' * z:=by rw [← Nat.add_mul];exact Nat.mul_le_mul_right _ (Nat.le_trans HI lO)
     have SY:∃w',(storeCells ⟨rf.blk,rf.sh + (off + len * z),none⟩ news).run P w=.ok () w'∧HR ρ (bB (at_ b) H (some (.cells l))) nx w'.heap∧Bp ρ H w ρ (bB (at_ b) H (some (.cells l))) w':=by
      unfold lM at zz
      cases hq:gA cs (off + len * z) new with
      | some l'=>
       rw [hq] at zz
       cases zz
       exact jU (P:=P) hH eQ SX hq yM MY
      | none=>
       rw [hq] at zz
       have EV:cond (Nat.beq cs.length (off + len * z)) (some (cs++new)) none=some l:=zz
       obtain ⟨nu,h6⟩:Nat.beq cs.length (off + len * z)=true∧some (cs++new)=some l:=by
        cases hb9:Nat.beq cs.length (off + len * z) with
        | true=>rw [hb9] at EV;exact ⟨rfl,EV⟩
        | false=>rw [hb9] at EV;cases EV
       cases h6
       exact xx (P:=P) hH eQ SX (Nat.eq_of_beq_eq_true nu).symm (by rw [kB];omega) yM MY
     obtain ⟨w',g1,g2,g3⟩:=SY
     have Xo:(storeCells ⟨rf.blk,p + len * z,none⟩ news).run P w=.ok () w':=by
      rw [jG.1,Nat.add_assoc];exact g1
     have fw:=zy (ty:=ty) ht hi hz gS (Nat.le_trans HI lO) Xo
     refine ⟨_,_,nx,.slice (some ⟨rf.blk,p,none⟩) (len + n) c',w',ρ,h5,.inl (by simp only [Sem.run_bind,fw,Result.andThen_ok,Sem.run_pure]),?_,g2,g3,Nat.le_refl _,fun _ _=>rfl⟩
     exact .sl SX ⟨(show len + n≤c' by omega),hl.2⟩ lO he (.inr jG)
    | false=>
     rw [fC] at h2
     have hnr:¬(len + n≤aE c):=fun hle=>by
      have:Nat.ble (Nat.add len n) (aE c)=true:=Nat.ble_eq_true_of_le hle
      rw [fC] at this;cases this
     have h3:kY z bytes H nx k b off len c n new=some r:=h2
     unfold kY at h3
     obtain ⟨cs,eQ,h4⟩:=fh h3
     obtain ⟨old,hold,h5⟩:=aO h4
     have Dy:take? (len * z) (e9 cs off)=some old:=hold
     obtain ⟨t1,t2'⟩:=take?_get Dy
     have S0:∃olds,cU ρ old olds∧∀w':World,w'.heap=w.heap→(Builtin.firstCells z len (.slice (some ⟨rf.blk,p,none⟩) len c')).run P w'=.ok ⟨olds⟩ w':=by
      have hsk:iJ H z (fun n1 zw=>open Classical in if n1=len∧zw=old then some r else none) (.slice (some ⟨b,off,some z⟩) len c)=some r:=by
       unfold iJ
       have Ob:Nat.beq z z=true:=by simp
       simp only [Ob,cond_true]
       cases h0:Nat.beq len 0 with
       | true=>
        have:=Nat.eq_of_beq_eq_true h0
        subst this
        have:old=[]:=List.eq_nil_of_length_eq_zero (by rw [t1];simp)
        subst this
        simp
       | false=>
        unfold cA onRead
        rw [eQ]
        show bd (take? (Nat.mul len z) (e9 cs off)) (fun zw=>open Classical in if len=len∧zw=old then some r else none)=some r
        have:take? (Nat.mul len z) (e9 cs off)=some old:=hold
        rw [this]
        show (open Classical in if len=len∧old=old then some r else none)=some r
        simp
      obtain ⟨n1,zw,q1,q2,_,q5⟩:=qo (P:=P) hH hs hsk
      have Ta:n1=len∧zw=old:=by
       by_cases hq:n1=len∧zw=old
       ·exact hq
       ·simp [hq] at q1
      obtain ⟨rfl,rfl⟩:=Ta
      obtain ⟨olds,g1,g2⟩:=q5 n1 (Nat.le_refl _)
      rw [List.take_of_length_le (by omega)] at g1
      exact ⟨olds,g1,g2⟩
     obtain ⟨olds,j9,ho⟩:=S0
     cases hex:exact c with
     | true=>
      rw [hex] at h5
      have:=he hex
      exact nY hH ht hi hz hb EU SU gS ho j9 yM t1 kB (by omega) h5
     | false=>
      rw [hex] at h5
      have h6:eF z bytes (bB (at_ b) H none) nx k len n old new=some r:=by
       have h7:dx (at_ b) H none (fun H=>eF z bytes H nx k len n old new)=some r:=h5
       rwa [bQ] at h7
      by_cases dW:len + n≤c'
      ·obtain ⟨_,_,hk⟩:=mo h6
       have jG:p=rf.sh + off∧p + c' * z≤rf.size:=by
        rcases hp with h0|h0
        ·omega
        ·exact h0
       rw [jG.1]
       exact vB hH ht hi hz eQ SX Dy gS yM kB MY dW hl.2 (by rw [← jG.1];exact jG.2) hk
      ·exact (nY (hH.forget b) ht hi hz hb EU SU gS ho j9 yM t1 kB (by omega) h6).pre (fun j hj=>j6.mY hj) (.forget _ _)
 ·cases h1
theorem Good.congr {s s':Sem Next} (e:s=s') (h:Good P w ρ H nx r k s'):Good P w ρ H nx r k s:=e ▸ h
theorem HJ {ts:Array TypeId} {u:Value} (h:ts[0]?=some t):Builtin.len_ ts ty #[u]=Builtin.len_ #[t] ty #[u]:=by
 simp [Builtin.len_,h]
theorem Og {ts:Array TypeId} {u:Value} (h:ts[0]?=some t):Builtin.cap_ ts ty #[u]=Builtin.cap_ #[t] ty #[u]:=by
 simp [Builtin.cap_,h]
theorem nZ {b:Builtin} {d:Call} (ho:o.op=.call d) (hb:d.callee=.builtin b):(execOp ρc o)=builtin b d.argTypes o.type (d.args.map fun | .const _=>true|_=>false) (d.args.map ρc):=by
 simp only [execOp,ho,resolve,hb]
 rfl
theorem jV {d:Call} {l:List Operand} (h:d.args.toList=l):d.args.map ρc=(l.map ρc).toArray:=by
 apply Array.ext'
 simp [h]
theorem oZ {ts:Array TypeId} {l:List TypeId} (h:ts.toList=t::l):ts[0]?=some t:=by
 rw [← Array.getElem?_toList,h];rfl
theorem Oh {ts:Array TypeId} (h:ts.toList=[t,t2]):ts=#[t,t2]:=by
 apply Array.ext';rw [h]
theorem HK {e:TypeId} {z n:Nat} {zero:List Value} (hz:b8 P e=some z) (hb:jO P e=some n) (wu:zeroCells P e=some zero):∃i zv,P.info? e=some i∧i.size=z∧i.bytes=n∧i.zero=some zv∧zero=zv.cells.toList:=by
 unfold b8 at hz
 unfold jO at hb
 obtain ⟨zv,h1,h2⟩:=cY wu
 unfold fN at h1
 cases hi:P.info? e with
 | none=>rw [hi] at hz;cases hz
 | some i=>
  rw [hi] at hz hb h1
  simp at hz hb
  simp only at h1
  cases Ob:i.zero with
  | none=>rw [Ob] at h1;cases h1
  | some Xl=>
   rw [Ob] at h1
   simp only at h1
   cases hc:iK Xl with
   | false=>rw [hc] at h1;cases h1
   | true=>
    rw [hc] at h1
    cases h1
    exact ⟨i,zv,rfl,hz,hb,Ob,h2⟩
theorem vC:∀{a b:List Value},bZ a=true→bZ b=true→bZ (a++b)=true:=by
 intro a
 induction a with
 | nil=>intro b _ hb;exact hb
 | cons x a o7=>
  intro b ha hb
  have yJ:cond (p8 x) (bZ a) false=true:=ha
  show cond (p8 x) (bZ (a++b)) false=true
  cases hx:p8 x with
  | false=>rw [hx] at yJ;cases yJ
  | true=>rw [hx] at yJ;exact o7 yJ hb
theorem BT {z:List Value} (h:bZ z=true):∀n,bZ (a7 z n)=true:=by
 intro n
 induction n with
 | zero=>rfl
 | succ n ih=>exact vC h ih
theorem zA {ts:Array TypeId} {e:TypeId} {zero:List Value} {x:Operand} {cs:Array Bool} (u4:ts[0]?=some t) (hu:P.underlying t=some (.slice e)) (wu:zeroCells P e=some zero) (hH:HR ρ H nx w.heap) (hv:VR ρ (ρa x) (ρc x))
  (h:cm ((bG.Ku x zero).map (Av ρa)) P T L H nx k=some r):Good P w ρ H nx r k (builtin .clear ts ty cs ([x].map ρc).toArray):=by
 have h':KU zero H nx k (ρa x)=some r:=h
 generalize ρa x=v at hv h'
 show Good P w ρ H nx r k (do pure (.value (← Builtin.clear_ ts ty #[ρc x])))
 generalize ρc x=u at hv
 have fin:∀w':World,(Builtin.clear_ ts ty #[u]).run P w=.ok undef w'→(do pure (.value (← Builtin.clear_ ts ty #[u])):Sem Next).run P w=.ok (.value undef) w':=by
  intro w' hw
  simp only [Sem.run_bind,hw,Result.andThen_ok,Sem.run_pure]
 unfold KU at h'
 split at h'
 ·cases hv with
  | sc h=>simp [scalar] at h
  | j5=>exact .same hH (.tuple .nil) h' (fin w (by simp [Builtin.clear_,u4,run_underlying hu];rfl))
 ·rename_i b o z n cp
  cases hv with
  | sc h=>simp [scalar] at h
  | @sl _ _ _ _ _ p c' s hs hl lO he hp=>
   cases hn:Nat.beq n 0 with
   | true=>
    rw [hn] at h'
    have:=Nat.eq_of_beq_eq_true hn
    subst this
    exact .same hH (.tuple .nil) h' (fin w (by simp [Builtin.clear_,u4,run_underlying hu];rfl))
   | false=>
    rw [hn] at h'
    have MX:=Nat.ne_of_beq_eq_false hn
    obtain ⟨hc,h1⟩:=bO h'
    rw [Bool.and_eq_true] at hc
    obtain ⟨old,hb,h2⟩:=fh h1
    obtain ⟨l,u3,h3⟩:=aO h2
    rw [m3] at h3
    obtain ⟨zv,q1,q2⟩:=cY wu
    obtain ⟨mi,rW⟩:=gJ (w:=w) q1
    have Bq:=(eI (ρ:=ρ) wu q1).2
    have jG:p=s.sh + o:=by rcases hp with h0|h0<;>omega
    have h1r:bZ (a7 zero n)=true:=BT hc.2 n
    obtain ⟨w',g1,g2,g3⟩:=jU (P:=P) hH hb hs u3 (Bq.rep n) h1r
    refine ⟨_,_,nx,undef,w',ρ,h3,.inl (fin w' ?_),(.tuple .nil),g2,g3,Nat.le_refl _,fun _ _=>rfl⟩
    have sx:(Builtin.zeroCells zv.cells n).toList=a7 zero n:=by rw [lu,q2]
    subst jG
    cases n with
    | zero=>exact absurd rfl MX
    | succ n=>
     simp only [Builtin.clear_,u4,List.getElem?_toArray,List.getElem?_cons_zero,Sem.run_bind,run_underlying hu,Result.andThen_ok,mi,sx,g1,Sem.run_pure]
     rfl
 ·cases h'
theorem wy {mn:Bool} {vs us:List Value} {k:KV} (lh:cU ρ vs us) (h:bd (vh P mn vs) k=some r):∃x y,k x=some r∧(cond mn (Builtin.min_ #[] 0 us.toArray) (Builtin.max_ #[] 0 us.toArray)).run P w=.ok y w∧VR ρ x y:=by
 unfold vh at h
 cases hi:p7 mn vs with
 | some q=>
  rw [hi] at h
  obtain ⟨rfl,y,h1,h2⟩:=K4 (P:=P) (w:=w) lh hi
  exact ⟨q,y,h,h1,h2⟩
 | none=>
  rw [hi] at h
  obtain ⟨e1,x,g1,g2,g3⟩:=gK (w:=w) lh h
  rw [e1]
  exact ⟨x,x,g1,g2,g3⟩
theorem vD {b:Builtin} {d:Call} {a:bG Operand} (ho:o.op=.call d) (hb:d.callee=.builtin b) (hr:b≠.recover) (hc:ai P ins o=some a) (ha:a.all fun x=>VR ρ (ρa x) (ρc x)) (hH:HR ρ H nx w.heap)
  (h:cm (a.map (Av ρa)) P T L H nx k=some r):Good P w ρ H nx r k (execOp ρc o):=by
 rw [nZ ho hb]
 simp only [ai,ho,hb] at hc
 unfold cK at hc
 split at hc
 ·
  rename_i t t2 s x wz b5
  rw [jV b5,Oh wz]
  split at hc
  ·rename_i e hu
   have key:∀eN z n zero,b8 P e=some z→jO P e=some n→zeroCells P e=some zero→Nat.beq zero.length z=true→((eN=true∧∃ki,P.underlying t2=some (.int ki))∨(eN=false∧∃e2,P.underlying t2=some (.slice e2)))→
     a=.app z n zero s x eN→Good P w ρ H nx r k (builtin .append #[t,t2] o.type (d.args.map fun | .const _=>true|_=>false) ([s,x].map ρc).toArray):=by
    intro eN z n zero hz hn wu hl SW e
    subst e
    obtain ⟨i,zv,g1,g2,g3,g4,g5⟩:=HK hz hn wu
    obtain ⟨Xl,q1,q2⟩:=cY wu
    have Bq:=(eI (ρ:=ρ) wu q1).2
    exact xB hu g1 g2 g3 g4 g5 (Nat.eq_of_beq_eq_true hl) Bq SW hH ha.1 ha.2 h
   split at hc
   ·rename_i z n zero ki hz hn wu u5
    cases hl:Nat.beq zero.length z with
    | false=>rw [hl] at hc;cases hc
    | true=>rw [hl] at hc;cases hc;exact key true z n zero hz hn wu hl (.inl ⟨rfl,ki,u5⟩) rfl
   ·rename_i z n zero e2 hz hn wu u5
    cases hl:Nat.beq zero.length z with
    | false=>rw [hl] at hc;cases hc
    | true=>rw [hl] at hc;cases hc;exact key false z n zero hz hn wu hl (.inr ⟨rfl,e2,u5⟩) rfl
   ·cases hc
  ·cases hc
 ·
  rename_i t l x wz b5
  rw [jV b5]
  have hl:∀u:Value,Builtin.len_ d.argTypes o.type #[u]=Builtin.len_ #[t] o.type #[u]:=fun u=>HJ (oZ wz)
  split at hc
  ·rename_i e hu
   cases hc
   exact .look (s:=Builtin.len_ #[t] o.type #[ρc x]) (by rw [← hl];rfl) hH (EJ hu ha (show Hg (ρa x) (fun v=>k v H nx)=some r from h))
  ·rename_i hu
   cases hc
   exact .look (s:=Builtin.len_ #[t] o.type #[ρc x]) (by rw [← hl];rfl) hH (EK hu ha (show Hh (ρa x) (fun v=>k v H nx)=some r from h))
  ·rename_i kt e hu
   cases hc
   exact .look (s:=Builtin.len_ #[t] o.type #[ρc x]) (by rw [← hl];rfl) hH (wm hu hH ha (show xi H (ρa x) (fun v=>k v H nx)=some r from h))
  ·cases hc
 ·
  rename_i t l x wz b5
  rw [jV b5]
  split at hc
  ·rename_i e hu
   cases hc
   exact .look (s:=Builtin.cap_ #[t] o.type #[ρc x]) (by rw [← Og (oZ wz)];rfl) hH (EI hu ha (show yY (ρa x) (fun v=>k v H nx)=some r from h))
  ·cases hc
 ·
  rename_i t l x y wz b5
  rw [jV b5]
  split at hc
  ·rename_i e hu
   split at hc
   ·rename_i z hz
    cases hc
    exact BS (ts:=t) (oZ wz) hu hz hH ha.1 ha.2 h
   ·cases hc
  ·cases hc
 ·
  cases hc
  have h':cS T L ((d.args.toList.map ρa).map Od.aF) (fun vs=>bd (vh P true vs) fun v=>k v H nx)=some r:=by
   rw [List.map_map];exact h
  rw [oX] at h'
  obtain ⟨x,y,g1,g2,g3⟩:=wy (w:=w) (.map fun x hx=>ha x hx) h'
  exact .look (s:=Builtin.min_ #[] 0 (d.args.toList.map ρc).toArray) (by rw [← jV rfl];rfl) hH ⟨x,y,g1,g2,g3⟩
 ·
  cases hc
  have h':cS T L ((d.args.toList.map ρa).map Od.aF) (fun vs=>bd (vh P false vs) fun v=>k v H nx)=some r:=by
   rw [List.map_map];exact h
  rw [oX] at h'
  obtain ⟨x,y,g1,g2,g3⟩:=wy (w:=w) (.map fun x hx=>ha x hx) h'
  exact .look (s:=Builtin.max_ #[] 0 (d.args.toList.map ρc).toArray) (by rw [← jV rfl];rfl) hH ⟨x,y,g1,g2,g3⟩
 ·exact absurd rfl hr
 ·
  rename_i t l x wz b5
  rw [jV b5]
  split at hc
  ·rename_i e hu
   split at hc
   ·rename_i zero wu
    cases hc
    exact zA (oZ wz) hu wu hH ha h
   ·cases hc
  ·cases hc
 ·cases hc
end Go.Eng

namespace Go.Eng
variable {P:Program} {w:World} {ρ:bA} {H:Heap} {nx:Nat} {r:Ex×St} {T:Tr Value} {L:List Value} {ρa ρc:Operand→Value} {o:Oper} {k:KA} {ins:List Nat}
theorem rk {b:Nat} {K:Option Nat→Nat→List Nat→Nat→R0} (h:ma (ao H (at_ b)) K=some r):∃m a s c,ao H (at_ b)=some (.iter m a s c)∧K m a s c=some r:=by
 unfold ma at h
 split at h
 ·rename_i m a s c hh;exact ⟨m,a,s,c,hh,h⟩
 ·cases h
theorem VR.sA {m:Option Nat} {u:Value} (h:VR ρ (.map m) u):(m=none∧u=.map none)∨∃b rf,m=some b∧ρ b=some rf∧u=.map (some rf.blk):=by
 cases h with
 | sc h=>simp [scalar] at h
 | rU=>exact .inl ⟨rfl,rfl⟩
 | map h=>exact .inr ⟨_,_,rfl,h,rfl⟩
theorem zB {t:TypeId} {x:Operand} {a:bG Operand} (ho:o.op=.range t x) (hc:ai P ins o=some a) (ha:a.all fun x=>VR ρ (ρa x) (ρc x)) (hH:HR ρ H nx w.heap)
  (h:cm (a.map (Av ρa)) P T L H nx k=some r):Good P w ρ H nx r k (execOp ρc o):=by
 have he:execOp ρc o=(do pure (.value (← Instr.range t (ρc x)))):=by simp only [execOp,ho]
 simp only [ai,ho] at hc
 split at hc
 ·rename_i kt e hu
  cases hc
  have hx:VR ρ (ρa x) (ρc x):=ha
  have h':KW H nx k (ρa x)=some r:=h
  unfold KW at h'
  rw [he]
  split at h'
  ·rename_i e1
   rw [e1] at hx
   rcases hx.sA with ⟨_,e2⟩|⟨b,rf,e2,_,_⟩
   ·rw [bQ] at h'
    refine .Du (b:=.iter none 0 [] 0) (rf:=⟨w.heap.size,0,0⟩) (w':={ w with heap:=w.heap.push (.mapIter none 0 #[] 0) }) hH rfl rfl rfl rfl rfl rfl ⟨rfl,none,by simp,.rU⟩ VR.fresh h' ?_
    simp only [Instr.range,Sem.run_bind,run_underlying hu,Result.andThen_ok,e2,Sem.run_pure]
    rfl
   ·cases e2
  ·rename_i b e1
   rw [e1] at hx
   obtain ⟨es,c,hb,h2⟩:=gf h'
   rw [bQ] at h2
   rcases hx.sA with ⟨e2,_⟩|⟨b',rf,e2,hs,e3⟩
   ·cases e2
   ·cases e2
    obtain ⟨s',eM,es',eB,hr⟩:=hH.blk _ _ hb
    rw [hs] at eM;cases eM
    refine .Du (b:=.iter (some b) c [] c) (rf:=⟨w.heap.size,0,0⟩) (w':={ w with heap:=w.heap.push (.mapIter (some rf.blk) c #[] c) }) hH rfl rfl rfl rfl rfl rfl ⟨rfl,some rf.blk,by simp,.map (hH.eO _ _ _ hs)⟩ VR.fresh h2 ?_
    simp only [Instr.range,Sem.run_bind,run_underlying hu,Result.andThen_ok,e3,dj w rfl eB,Sem.run_pure]
    rfl
  ·cases h'
 ·cases hc
theorem kU.flt {seen:List Nat} {es es':List MapEntry} (h:kU ρ es es'):kU ρ (ta es seen) (es'.filter fun e=>!seen.toArray.contains e.born):=by
 induction h with
 | nil=>exact .nil
 | @cons e e' es es' hk hv hb _ ih=>
  unfold ta at ih ⊢
  rw [List.filter_cons,List.filter_cons]
  have:(!seen.toArray.contains e'.born)=!seen.contains e.born:=by rw [hb];simp
  rw [this]
  cases (!seen.contains e.born) with
  | true=>exact .cons hk hv hb ih
  | false=>exact ih
theorem kU.all {p:Nat→Bool} {es es':List MapEntry} (h:kU ρ es es'):(es'.all fun e=>p e.born)=es.all fun e=>p e.born:=by
 induction h with
 | nil=>rfl
 | @cons e e' es es' hk hv hb _ ih=>
  rw [List.all_cons,List.all_cons,ih,hb]
theorem kU.emp {es es':List MapEntry} (h:kU ρ es es'):es'.isEmpty=es.isEmpty:=by cases h<;>rfl
theorem Dz {x:Value} {u:Value} {q off:Nat} {m:Option Nat} {since last:Nat} {seen:List Nat} (hH:HR ρ H nx w.heap) (hx:VR ρ x u) (e1:x=.pointer (some ⟨q,off,none⟩)) (ho:off=0) (hq:ao H (at_ q)=some (.iter m since seen last)) :
  ∃rf m',ρ q=some rf∧u=.pointer (some ⟨rf.blk,0,none⟩)∧w.heap[rf.blk]?=some (.mapIter m' since seen.toArray last)∧VR ρ (.map m) (.map m')∧rf.sh=0:=by
 subst e1
 cases hx with
 | sc h=>simp [scalar] at h
 | @ptr _ _ s hs=>
  obtain ⟨s',eM,h0,m',h1,h2⟩:=hH.blk _ _ hq
  rw [hs] at eM;cases eM
  exact ⟨s,m',hs,by rw [h0,ho],h1,h2,h0⟩
theorem jW {b:Nat} {m:Option Nat} {a c:Nat} {s:Array Nat} (h:w.heap[b]?=some (.mapIter m a s c)):(getObj b).run P w=.ok (.mapIter m a s c) w:=by
 simp [getObj,Sem.run,h]
theorem zC {b:Nat} {m:Option Nat} {a c:Nat} {s:Array Nat} (ob:Obj) (h:w.heap[b]?=some (.mapIter m a s c)):(setObj b ob).run P w=.ok () { w with heap:=w.heap.setIfInBounds b ob }:=by
 simp [setObj,Sem.run,h]
theorem rl {v:Value} {K:Nat→Nat→R0} (h:dm v K=some r):∃b o,v=.pointer (some ⟨b,o,none⟩)∧K b o=some r:=by
 unfold dm at h
 split at h
 ·exact ⟨_,_,rfl,h⟩
 ·cases h
theorem BU {x:Operand} {a:bG Operand} (ho:o.op=.next x false) (hc:ai P ins o=some a) (ha:a.all fun x=>VR ρ (ρa x) (ρc x)) (hH:HR ρ H nx w.heap)
  (h:cm (a.map (Av ρa)) P T L H nx k=some r):Good P w ρ H nx r k (execOp ρc o):=by
 have he:execOp ρc o=(do pure (.value (← Instr.next (ρc x) false o.type))):=by simp only [execOp,ho]
 simp only [ai,ho] at hc
 cases hc
 have hx:VR ρ (ρa x) (ρc x):=ha
 have h':dm (ρa x) (fun r' o'=>cond (Nat.beq o' 0) (ma (ao H (at_ r')) (Sv H nx k r')) none)=some r:=h
 obtain ⟨q,off,e1,h1⟩:=rl h'
 cases r6:Nat.beq off 0 with
 | false=>rw [r6] at h1;cases h1
 | true=>
  rw [r6] at h1
  have r6:=Nat.eq_of_beq_eq_true r6
  obtain ⟨m,since,seen,last,hq,h2⟩:=rk h1
  obtain ⟨rf,m',hs,e2,Oi,hm,cD⟩:=Dz hH hx e1 r6 hq
  rw [he]
  rcases hm.sA with ⟨rfl,e3⟩|⟨b,rb,rfl,hb,e3⟩
  ·cases e3
   have h3:k (.tuple #[.bool false]) H nx=some r:=h2
   refine .same hH (.tuple (.cons (.sc rfl) .nil)) h3 ?_
   simp only [Instr.next,e2,Sem.run_bind,jW Oi,Result.andThen_ok,Sem.run_pure]
  ·cases e3
   have h3:fe (ao H (at_ b)) (fun es c=>cond (!seen.isEmpty&&!es.isEmpty&&es.all fun e=>decide (e.born≥last)) none (KX H nx k q b since seen c (ta es seen)))=some r:=h2
   obtain ⟨es,c,Oj,h4⟩:=gf h3
   obtain ⟨s',eM,es',eB,hr⟩:=hH.blk _ _ Oj
   rw [hb] at eM;cases eM
   cases bS:(!seen.isEmpty&&!es.isEmpty&&es.all fun e=>decide (e.born≥last)) with
   | true=>rw [bS] at h4;cases h4
   | false=>
    rw [bS] at h4
    have h5:KX H nx k q b since seen c (ta es seen)=some r:=h4
    have hl:=hr.flt (seen:=seen)
    have HL:(!seen.toArray.isEmpty&&!es'.isEmpty&&es'.all fun e=>decide (e.born≥last))=false:=by
     rw [← bS]
     have g1:es'.all (fun e=>decide (e.born≥last))=es.all (fun e=>decide (e.born≥last)):=by
      rw [← Array.all_toList];exact hr.all (p:=fun n=>decide (n≥last))
     have g2:es'.isEmpty=es.isEmpty:=by rw [← hr.emp];simp
     rw [g1,g2];simp
    have zD:(es'.filter fun e=>!seen.toArray.contains e.born).toList=es'.toList.filter fun e=>!seen.toArray.contains e.born:=by simp
    generalize hL:es'.filter (fun e=>!seen.toArray.contains e.born)=L' at zD
    rw [← zD] at hl
    generalize hl0:ta es seen=l0 at hl h5
    unfold KX at h5
    split at h5
    ·have hL0:L'=#[]:=by
      cases fP:L'.toList with
      | nil=>exact Array.toList_eq_nil_iff.1 fP
      | cons y l=>rw [fP] at hl;cases hl
     refine .same hH (.tuple (.cons (.sc rfl) .nil)) h5 ?_
     simp only [Instr.next,e2,Sem.run_bind,jW Oi,dj w rfl eB,Result.andThen_ok,Sem.run_pure,HL,Bool.false_eq_true,if_false,hL,hL0]
     simp [choose,Sem.run,Question.forced]
    ·rename_i e
     cases zb:Nat.blt e.born since with
     | false=>rw [zb] at h5;cases h5
     | true=>
      rw [zb] at h5
      have bR:e.born < since:=Nat.le_of_ble_eq_true zb
      have h6:dx (at_ q) H (some (.iter (some b) since (seen++[e.born]) c)) (fun H=>k (.tuple #[.bool true,e.key,e.val]) H nx)=some r:=h5
      rw [bQ] at h6
      obtain ⟨e',ny,hk,hv,p5⟩:∃e',L'=#[e']∧VR ρ e.key e'.key∧VR ρ e.val e'.val∧e'.born=e.born:=by
       cases fP:L'.toList with
       | nil=>rw [fP] at hl;cases hl
       | cons y l=>
        rw [fP] at hl
        cases hl with
        | cons hk hv p5 rp=>
         cases rp
         exact ⟨y,by rw [← Array.toList_inj,fP],hk,hv,p5⟩
      have kV:(#[e']:Array MapEntry).filter (fun x=>decide (x.born < since))=#[e']:=by
       simp [p5,bR]
      have tI:(#[e']:Array MapEntry).filter (fun x=>decide (x.born≥since))=#[]:=by
       simp [p5];omega
      have Xp:=(Array.getElem?_eq_some_iff.1 Oi).1
      refine ⟨.tuple #[.bool true,e.key,e.val],_,nx,.tuple #[.bool true,e'.key,e'.val],{ w with heap:=w.heap.setIfInBounds rf.blk (.mapIter (some rb.blk) since (seen.toArray.push e'.born) c) },ρ,h6,.inl ?_,.tuple (.cons (.sc rfl) (.cons hk (.cons hv .nil))),?_,⟨.refl ρ,fun j hj=>.inl (j6.mf hq hj),.put _ _ _,fun j hj hn=>?_,by simp,rfl,rfl,rfl⟩,Nat.le_refl _,fun _ _=>rfl⟩
      ·simp only [Instr.next,e2,Sem.run_bind,jW Oi,dj w rfl eB,Result.andThen_ok,Sem.run_pure,HL,Bool.false_eq_true,if_false,hL,ny,kV,tI]
       simp [choose,Sem.run,Question.forced,zC _ Oi]
      ·refine hH.write hq hs (fun i hi=>?_) ⟨cD,some rb.blk,?_,.map hb⟩
       ·simp only
        rw [Array.getElem?_setIfInBounds,if_neg (fun e=>hi e.symm)]
       ·simp only
        rw [Array.getElem?_setIfInBounds,if_pos rfl,if_pos Xp,p5]
        simp
      ·have:rf.blk≠j:=fun e=>hn ⟨q,_,rf,hq,rfl,hs,e⟩
       simp only
       rw [Array.getElem?_setIfInBounds,if_neg this]
    ·cases h5
theorem kU.find {st:Nat} {es es':List MapEntry} (h:kU ρ es es') {e:MapEntry} (hf:es.find? (fun e=>e.born == st)=some e):∃e',es'.find? (fun e=>e.born == st)=some e'∧VR ρ e.key e'.key∧VR ρ e.val e'.val:=by
 induction h with
 | nil=>cases hf
 | @cons x x' es es' hk hv hb _ ih=>
  rw [List.find?_cons] at hf ⊢
  rw [hb]
  cases hx:x.born == st with
  | true=>rw [hx] at hf;cases hf;exact ⟨x',rfl,hk,hv⟩
  | false=>rw [hx] at hf;exact ih hf
theorem zE {x:Operand} {a:bG Operand} (ho:o.op=.entry x) (hc:ai P ins o=some a) (ha:a.all fun x=>VR ρ (ρa x) (ρc x)) (hH:HR ρ H nx w.heap)
  (h:cm (a.map (Av ρa)) P T L H nx k=some r):Good P w ρ H nx r k (execOp ρc o):=by
 have he:execOp ρc o=(do pure (.value (← Instr.entry (ρc x)))):=by simp only [execOp,ho]
 simp only [ai,ho] at hc
 cases hc
 have hx:VR ρ (ρa x) (ρc x):=ha
 have h':dm (ρa x) (fun r' o'=>cond (Nat.beq o' 0) (ma (ao H (at_ r')) (Sw H nx k)) none)=some r:=h
 obtain ⟨q,off,e1,h1⟩:=rl h'
 cases r6:Nat.beq off 0 with
 | false=>rw [r6] at h1;cases h1
 | true=>
  rw [r6] at h1
  have r6:=Nat.eq_of_beq_eq_true r6
  obtain ⟨m,since,seen,last,hq,h2⟩:=rk h1
  obtain ⟨rf,m',hs,e2,Oi,hm,cD⟩:=Dz hH hx e1 r6 hq
  rw [he]
  rcases hm.sA with ⟨rfl,e3⟩|⟨b,rb,rfl,hb,e3⟩
  ·have h3:(none:R0)=some r:=h2
   cases h3
  ·cases e3
   have h3:bd seen.getLast? (fun st=>fe (ao H (at_ b)) fun es c=>cond (Nat.beq c last) (bd (es.find? fun e=>e.born == st) fun e=>k (.tuple #[e.key,e.val]) H nx) none)=some r:=h2
   obtain ⟨st,bS,h4⟩:=aO h3
   obtain ⟨es,c,Oj,h5⟩:=gf h4
   obtain ⟨s',eM,es',eB,hr⟩:=hH.blk _ _ Oj
   rw [hb] at eM;cases eM
   cases nu:Nat.beq c last with
   | false=>rw [nu] at h5;cases h5
   | true=>
    rw [nu] at h5
    have nu:=Nat.eq_of_beq_eq_true nu
    have h6:bd (es.find? fun e=>e.born == st) (fun e=>k (.tuple #[e.key,e.val]) H nx)=some r:=h5
    obtain ⟨e,hfe,h7⟩:=aO h6
    obtain ⟨e',SI,hk,hv⟩:=hr.find hfe
    have Tb:seen.toArray.back?=some st:=by simpa using bS
    have hfa:es'.find? (fun e=>e.born == st)=some e':=by rw [← Array.find?_toList];exact SI
    subst nu
    refine .same hH (.tuple (.cons hk (.cons hv .nil))) h7 ?_
    simp only [Instr.entry,e2,Sem.run_bind,jW Oi,dj w rfl eB,Result.andThen_ok,Sem.run_pure,Tb,bne_self_eq_false,Bool.false_eq_true,if_false,hfa]
end Go.Eng

namespace Go.Eng
variable {P:Program} {w:World} {ρ:bA} {H:Heap} {nx:Nat} {r:Ex×St} {T:Tr Value} {L:List Value} {ρa ρc:Operand→Value} {o:Oper} {k:KA} {ins:List Nat}
def bG.plain {α:Type}:bG α→Bool
 | .call _ _ | .inv _ _ _ | .oF _ _ | .nI _ | .vU | .ins _ _ _ _ _=>false
 | _=>true
theorem qu {a:bG Operand} (hc:ai P ins o=some a) (hp:a.plain=true) (ha:a.all fun x=>VR ρ (ρa x) (ρc x)) (hH:HR ρ H nx w.heap)
  (h:cm (a.map (Av ρa)) P T L H nx k=some r):Good P w ρ H nx r k (execOp ρc o):=by
 cases ho:o.op with
 | move x=>exact tD (.inl ho) hc ha hH h
 | assign x=>exact tD (.inr ho) hc ha hH h
 | pick c x y=>exact BN ho hc ha hH h
 | alloc t=>exact zo ho hc hH h
 | box t x=>exact ET ho hc ha hH h
 | build t xs=>exact zi ho hc ha hH h
 | buildSlice t n xs=>exact qn ho hc ha hH h
 | load t x=>exact zj ho hc ha hH h
 | store t x v=>exact vA ho hc ha hH h
 | nilCheck x=>exact tE ho hc ha hH h
 | binOp op t x y q=>exact zk (b:=true) ⟨q,ho⟩ hc ha hH h
 | unOp op t x=>exact BP ho hc ha hH h
 | convert s d x=>exact vt ho hc ha hH h
 | makeInterface t x=>exact nw ho hc ha hH h
 | makeFunc fn xs ys=>exact tF ho hc ha hH h
 | makeMap t x=>exact vz ho hc ha hH h
 | makeSlice t x y=>exact r5 ho hc ha hH h
 | slice t x lo hi mx=>exact zl ho hc ha hH h
 | fieldAddr s x f=>exact rZ ho hc ha hH h
 | field s x f=>exact zm ho hc ha hH h
 | indexAddr t x i=>exact r4 ho hc ha hH h
 | index t x i=>exact zn ho hc ha hH h
 | lookup t x i ok=>exact xu ho hc ha hH h
 | mapUpdate t m q x=>exact lP (.inl ho) hc ha hH h
 | insert t m q x=>exact lP (.inr ho) hc ha hH h
 | mapEntry t m q=>exact tH ho hc ha hH h
 | entryStore t m q x=>exact qt ho hc ha hH h
 | typeAssert x xt t ok=>exact ql ho hc ha hH h
 | extract x i=>exact vw ho hc ha hH h
 | call d=>
  cases hb:d.callee with
  | builtin b=>
   by_cases hr:b=.recover
   ·subst hr
    simp only [ai,ho,hb] at hc
    cases hl:d.args.toList with
    | nil=>
     have:a=.vU:=by
      unfold cK at hc
      rw [hl] at hc
      cases wz:d.argTypes.toList with
      | nil=>rw [wz] at hc;cases hc;rfl
      | cons t l=>rw [wz] at hc;cases l<;>(cases hc;rfl)
     subst this
     simp [bG.plain] at hp
    | cons x l=>
     exfalso
     unfold cK at hc
     rw [hl] at hc
     cases wz:d.argTypes.toList with
     | nil=>rw [wz] at hc;cases hc
     | cons t l'=>rw [wz] at hc;cases l'<;>cases hc
   ·exact vD ho hb hr hc ha hH h
  | value f=>
   exfalso
   cases f with
   | func g=>
    simp only [ai,ho,hb] at hc
    cases hg:dB ins g with
    | true=>
     rw [hg] at hc
     simp only [cond_true] at hc
     split at hc
     ·split at hc
      ·split at hc
       ·cases hc;simp [bG.plain] at hp
       ·cases hc
      ·cases hc
     ·cases hc
    | false=>rw [hg] at hc;cases hc;simp [bG.plain] at hp
   | _=>simp only [ai,ho,hb] at hc;cases hc;simp [bG.plain] at hp
  | invoke x name=>
   simp only [ai,ho,hb] at hc
   cases hc;simp [bG.plain] at hp
 | defer d=>
  simp only [ai,ho] at hc
  split at hc
  ·cases hc;simp [bG.plain] at hp
  ·cases hc
 | panic x=>simp only [ai,ho] at hc;cases hc;simp [bG.plain] at hp
 | range t x=>exact zB ho hc ha hH h
 | next x q=>
  cases q with
  | false=>exact BU ho hc ha hH h
  | true=>simp only [ai,ho] at hc;cases hc
 | entry x=>exact zE ho hc ha hH h
 | _=>simp only [ai,ho] at hc;cases hc
end Go.Eng

namespace Go.Eng
variable {P:Program} {ρ:bA} {T:Tr Value} {L:List Value} {kept:List Nat} {n:Nat} {env:Env} {a:Act}
structure hG (ρ:bA) (kept:List Nat) (n:Nat) (env:Env) (T:Tr Value) (L:List Value) (a:Act):Prop where
 size:n≤a.tmps.size
 env:∀t od,find env t=some od→VR ρ ((g8 T L od).getD undef) (a.tmps.getD t undef)
 kept:∀t,dB kept t=true→VR ρ ((ao T (b7 t)).getD undef) (a.tmps.getD t undef)
theorem VR.undef:VR ρ undef undef:=.tuple .nil
theorem hG.mono {ρ':bA} (e:Ext ρ ρ') (h:hG ρ kept n env T L a):hG ρ' kept n env T L a:=
 ⟨h.size,fun t od ht=>(h.env t od ht).mono e,fun t ht=>(h.kept t ht).mono e⟩
theorem fi (h:hG ρ kept n env T L a) {x:Operand} {od:Od} (hc:cv kept n env x=some od):VR ρ ((g8 T L od).getD undef) (a.eval x):=by
 cases x with
 | tmp t=>
  simp only [cv] at hc
  cases hb:Nat.blt t n with
  | false=>rw [hb] at hc;cases hc
  | true=>
   rw [hb] at hc
   simp only [cond_true] at hc
   cases hf:find env t with
   | some y=>rw [hf] at hc;cases hc;exact h.env t _ hf
   | none=>
    rw [hf] at hc
    cases hk:dB kept t with
    | false=>rw [hk] at hc;cases hc
    | true=>rw [hk] at hc;cases hc;exact h.kept t hk
 | const v=>
  simp only [cv] at hc
  cases hk:iK v with
  | false=>rw [hk] at hc;cases hc
  | true=>rw [hk] at hc;cases hc;exact .gL hk
 | func f=>cases hc;exact .func .nil .nil
 | global g=>cases hc
theorem qv {p:List Bool} {od:Od}:isVar p od=true↔od=.var p:=by
 have same:∀p q:List Bool,jj p q=true↔p=q:=by
  intro p
  induction p with
  | nil=>intro q;cases q<;>simp [jj]
  | cons b p ih=>intro q;cases q with
   | nil=>cases b<;>simp [jj]
   | cons c q=>cases b<;>cases c<;>simp [jj,ih]
 cases od with
 | var q=>
  unfold isVar
  rw [same]
  constructor
  ·intro h;rw [h]
  ·intro h;cases h;rfl
 | _=>simp [isVar]
theorem tJ (v:Value) (od:Od):g8 T (v::L) (shift od)=g8 T L od:=by
 cases od<;>rfl
theorem BV:∀(env:Env) (t:Nat),find (cM env) t=(find env t).map shift:=by
 intro env
 induction env with
 | nil=>intro t;rfl
 | cons p env ih=>
  intro t
  obtain ⟨u,x⟩:=p
  show (bif Nat.beq u t then some (shift x) else find (cM env) t)=Option.map shift (bif Nat.beq u t then some x else find env t)
  cases Nat.beq u t with
  | true=>rfl
  | false=>exact ih t
theorem xC:∀(env:Env) (d t:Nat),find (eZ env d) t=if t=d then none else find env t:=by
 intro env
 induction env with
 | nil=>intro d t;simp [eZ,find]
 | cons p env ih=>
  intro d t
  obtain ⟨u,x⟩:=p
  have Rh:=ih d t
  unfold eZ at Rh ⊢
  rw [List.filter_cons]
  by_cases hu:u=d
  ·subst hu
   simp only [Nat.beq_refl,Bool.not_true,Bool.false_eq_true,if_false]
   rw [Rh]
   by_cases ht:t=u
   ·simp [ht]
   ·rw [if_neg ht,if_neg ht]
    show find env t=(bif Nat.beq u t then some x else find env t)
    have:Nat.beq u t=false:=by
     cases hb:Nat.beq u t with
     | false=>rfl
     | true=>exact absurd (Nat.eq_of_beq_eq_true hb).symm ht
    rw [this];rfl
  ·have hb:(!(Nat.beq u d))=true:=by
    cases hb:Nat.beq u d with
    | false=>rfl
    | true=>exact absurd (Nat.eq_of_beq_eq_true hb) hu
   simp only [hb,if_true]
   show (bif Nat.beq u t then some x else find (env.filter fun p=>!(Nat.beq p.1 d)) t)=if t=d then none else (bif Nat.beq u t then some x else find env t)
   cases hut:Nat.beq u t with
   | true=>
    have:=Nat.eq_of_beq_eq_true hut
    subst this
    rw [if_neg hu];rfl
   | false=>exact Rh
theorem hG.put {v u:Value} {d:Nat} {keep:Option (List Bool)} {T':Tr Value} (h:hG ρ kept n env T L a) (hv:VR ρ v u) (hd:d < n)
  (hT:(keep=none∧T'=T∧dB kept d=false)∨(∃p,keep=some p∧p=b7 d∧T'=bB p T (some v)∧(cM env).any (fun e=>isVar p e.2)=false)) :
  hG ρ kept n ((d,.loc 0)::eZ (cM env) d) T' (v::L) (a.put (some d) u):=by
 have lq:∀t,(a.put (some d) u).tmps.getD t undef=if t=d then u else a.tmps.getD t undef:=by
  intro t
  have Ri:d < a.tmps.size:=Nat.lt_of_lt_of_le hd h.size
  show (a.tmps.setIfInBounds d u).getD t undef=_
  simp only [Array.getD_eq_getD_getElem?,Array.getElem?_setIfInBounds]
  by_cases ht:d=t
  ·subst ht;simp [Ri]
  ·rw [if_neg ht,if_neg (fun e=>ht e.symm)]
 refine ⟨by show n≤(a.tmps.setIfInBounds d u).size;simpa using h.size,fun t od ht=>?_,fun t ht=>?_⟩
 ·rw [lq]
  by_cases GI:t=d
  ·subst GI
   have:od=.loc 0:=by
    unfold find at ht
    simp at ht
    exact ht.symm
   subst this
   rw [if_pos rfl]
   exact hv
  ·rw [if_neg GI]
   have hf:find (eZ (cM env) d) t=some od:=by
    have hb:Nat.beq d t=false:=by
     cases hb:Nat.beq d t with
     | false=>rfl
     | true=>exact absurd (Nat.eq_of_beq_eq_true hb).symm GI
    simp only [find] at ht
    rw [hb] at ht
    exact ht
   rw [xC,if_neg GI,BV] at hf
   cases he:find env t with
   | none=>rw [he] at hf;cases hf
   | some x=>
    rw [he] at hf
    cases hf
    have h0:=h.env t x he
    have tK:g8 T' (v::L) (shift x)=g8 T (v::L) (shift x):=by
     rcases hT with ⟨_,rfl,_⟩|⟨p,_,_,rfl,vE⟩
     ·rfl
     ·cases x with
      | var q=>
       have cG:q≠p:=by
        intro e;subst e
        have ka:∀(env:Env) (t:Nat) (x:Od),find env t=some x→(t,x)∈env:=by
         intro env
         induction env with
         | nil=>intro t x hx;cases hx
         | cons y env ih=>
          intro t x hx
          obtain ⟨a,b⟩:=y
          unfold find at hx
          cases hb:Nat.beq a t with
          | true=>
           rw [hb] at hx;cases hx
           have:=Nat.eq_of_beq_eq_true hb
           subst this
           exact List.mem_cons_self
          | false=>rw [hb] at hx;exact List.mem_cons_of_mem _ (ih t x hx)
        have h1:=ka _ _ _ he
        have h2:(t,shift (.var q))∈cM env:=List.mem_map.2 ⟨_,h1,rfl⟩
        have h3:=List.any_eq_false.1 vE _ h2
        exact h3 (qv.2 rfl)
       show ao (bB p T (some v)) q=ao T q
       exact aR _ _ _ _ cG
      | _=>rfl
    rw [tK,tJ]
    exact h0
 ·rw [lq]
  rcases hT with ⟨_,rfl,hk⟩|⟨p,_,rfl,rfl,_⟩
  ·have:t≠d:=by intro e;subst e;rw [hk] at ht;cases ht
   rw [if_neg this]
   exact h.kept t ht
  ·by_cases GI:t=d
   ·subst GI
    rw [if_pos rfl,bp]
    exact hv
   ·rw [if_neg GI,aR _ _ _ _ (by rw [ig,ig];exact fun e=>GI (ea e))]
    exact h.kept t ht
end Go.Eng

namespace Go.Eng
inductive lT (ρ:bA):List PanicEntry→List PanicEntry→Prop
 | nil:lT ρ [] []
 | cons {e e':PanicEntry} {l l':List PanicEntry} (hv:VR ρ e.v e'.v) (hr:e'.recovered=e.recovered) (hg:e'.goexit=e.goexit) (h:lT ρ l l'):lT ρ (e::l) (e'::l')
theorem lT.mono {ρ ρ':bA} (e:Ext ρ ρ') {l l':List PanicEntry} (h:lT ρ l l'):lT ρ' l l':=by
 induction h with
 | nil=>exact .nil
 | cons hv hr hg _ ih=>exact .cons (hv.mono e) hr hg ih
def K9 (ρ:bA) (x:eT) (d:Deferred):Prop:=
 ∃f a a' c c' vs,x.1=.func (.func f) ⟨a⟩ ⟨c⟩∧d = { target:=.fn (.func f) ⟨c'⟩,args:=⟨a'++vs⟩ }∧cU ρ a a'∧cU ρ c c'∧cU ρ x.2 vs
inductive gB (ρ:bA):List eT→List Deferred→Prop
 | nil:gB ρ [] []
 | cons {x:eT} {d:Deferred} {l:List eT} {l':List Deferred} (hx:K9 ρ x d) (h:gB ρ l l'):gB ρ (x::l) (d::l')
theorem K9.mono {ρ ρ':bA} (e:Ext ρ ρ') {x:eT} {d:Deferred} (h:K9 ρ x d):K9 ρ' x d:=by
 obtain ⟨f,a,a',c,c',vs,h1,h2,h3,h4,h5⟩:=h
 exact ⟨f,a,a',c,c',vs,h1,h2,h3.mono e,h4.mono e,h5.mono e⟩
theorem gB.mono {ρ ρ':bA} (e:Ext ρ ρ') {l:List eT} {l':List Deferred} (h:gB ρ l l'):gB ρ' l l':=by
 induction h with
 | nil=>exact .nil
 | cons hx _ ih=>exact .cons (hx.mono e) ih
structure jK (ρ:bA) (H:Heap) (nx:Nat) (w:World) (ρ':bA) (H':Heap) (nx':Nat) (w':World):Prop where
 hr:HR ρ' H' nx' w'.heap
 gM:Bp ρ H w ρ' H' w'
 le:nx≤nx'
 low:∀b,b < nx→ρ' b=ρ b
theorem jK.refl {ρ:bA} {H:Heap} {nx:Nat} {w:World} (h:HR ρ H nx w.heap):jK ρ H nx w ρ H nx w:=⟨h,.refl ρ H w,Nat.le_refl _,fun _ _=>rfl⟩
theorem jK.trans {ρ ρ1 ρ2:bA} {H H1 H2:Heap} {nx aY nx2:Nat} {w w1 w2:World} (h:jK ρ H nx w ρ1 H1 aY w1) (h':jK ρ1 H1 aY w1 ρ2 H2 nx2 w2):jK ρ H nx w ρ2 H2 nx2 w2:=
 ⟨h'.hr,h.gM.trans h'.gM,Nat.le_trans h.le h'.le,fun b hb=>(h'.low b (Nat.lt_of_lt_of_le hb h.le)).trans (h.low b hb)⟩
def zF (ρ:bA) (H:Heap) (nx:Nat) (w:World) (c:df) (e:Ending) (w':World):Prop:=match c with
 | .ok v H' nx'=>∃u ρ',e=.returned u∧VR ρ' v u∧jK ρ H nx w ρ' H' nx' w'
 | .nI ch H' nx'=>∃vF ρ',e=.panicked vF∧lT ρ' ch vF∧jK ρ H nx w ρ' H' nx' w'
def gD (P:Program) (g:FuncId):Prop:=∃fn,P.funcs[g]?=some fn∧fn.body.isNone=false∧(fn.name == "runtime.NumGoroutine")=false
theorem gD.run {P:Program} {g:FuncId} {w:World} {args:Array Value} (h:gD P g):(callFunc g args).run P w=.ok (.enter g args) w:=by
 obtain ⟨fn,h1,h2,h3⟩:=h
 have hp:(program).run P w=.ok P w:=rfl
 simp only [callFunc,Sem.run_bind,hp,Result.andThen_ok,h1,h2,h3,Bool.false_eq_true,if_false,Sem.run_pure]
def fG (P:Program) (r:jg):Prop:=∀g vs H nx c,r.call g vs H nx=some c→gD P g∧∀ρ us w,cU ρ vs us→HR ρ H nx w.heap→Calls P g ⟨us⟩ w (zF ρ H nx w c)
def ExR (ρ:bA):Ex→Exit→Prop
 | .normal,.normal=>True
 | .exit i,.exit j=>i=j
 | .ret,.ret=>True
 | .panic ch,.panic vF=>lT ρ ch vF
 | _,_=>False
structure EW (ρ:bA) (kept:List Nat) (n:Nat) (T:Tr Value) (D:List eT) (a:Act):Prop where
 env:hG ρ kept n [] T [] a
 oF:gB ρ D a.defers
def kC (ρ:bA) (H:Heap) (nx:Nat) (w:World) (kept:List Nat) (n:Nat) (o:Ex×St) (e:Exit) (a':Act) (w':World):Prop:=
 ∃ρ',jK ρ H nx w ρ' o.2.H o.2.nx w'∧EW ρ' kept n o.2.T o.2.D a'∧ExR ρ' o.1 e
def fH (P:Program) (ins kept:List Nat) (n:Nat) (f:RC) (c:Code):Prop:=
 ∀T D H nx o,f T D H nx=some o→∀ρ a w,HR ρ H nx w.heap→EW ρ kept n T D a→c.wp P (kC ρ H nx w kept n o) a w
end Go.Eng

namespace Go.Eng
variable {P:Program} {ins kept:List Nat} {n:Nat}
theorem kC.trans {ρ ρ1:bA} {H H1:Heap} {nx aY:Nat} {w w1:World} {o:Ex×St} {e:Exit} {a':Act} {w':World} (h:jK ρ H nx w ρ1 H1 aY w1) (h':kC ρ1 H1 aY w1 kept n o e a' w'):kC ρ H nx w kept n o e a' w':=by
 obtain ⟨ρ',h1,h2,h3⟩:=h'
 exact ⟨ρ',h.trans h1,h2,h3⟩
theorem La:fH P ins kept n Hl .skip:=by
 intro T D H nx o h ρ a w hH ha
 cases h
 exact wp_skip ⟨ρ,.refl hH,ha,trivial⟩
theorem Lb {id:Nat}:fH P ins kept n (MO id) (.exit id):=by
 intro T D H nx o h ρ a w hH ha
 cases h
 exact wp_exit ⟨ρ,.refl hH,ha,rfl⟩
theorem Ol:fH P ins kept n SB .ret:=by
 intro T D H nx o h ρ a w hH ha
 cases h
 exact wp_ret ⟨ρ,.refl hH,ha,trivial⟩
theorem qw {k:RC} {Q:Exit→Act→World→Prop} {o1 o:Ex×St} {ρ:bA} {H:Heap} {nx:Nat} {w:World} {N:Act→World→Prop} (h:mb k o1=some o)
  (hk:∀st:St,k st.T st.D st.H st.nx=some o→∀ρ1 a1 w1,jK ρ H nx w ρ1 st.H st.nx w1→EW ρ1 kept n st.T st.D a1→N a1 w1) {e:Exit} {a1:Act} {w1:World} (hq:kC ρ H nx w kept n o1 e a1 w1) :
  Exit.then N (kC ρ H nx w kept n o) e a1 w1:=by
 obtain ⟨ex,st⟩:=o1
 obtain ⟨ρ1,g1,g2,g3⟩:=hq
 cases ex with
 | normal=>
  cases e with
  | normal=>exact hk st h ρ1 a1 w1 g1 g2
  | _=>exact g3.elim
 | exit i=>
  cases e with
  | exit j=>cases h;exact ⟨ρ1,g1,g2,g3⟩
  | _=>exact g3.elim
 | ret=>
  cases e with
  | ret=>cases h;exact ⟨ρ1,g1,g2,g3⟩
  | _=>exact g3.elim
 | panic ch=>
  cases e with
  | panic vF=>cases h;exact ⟨ρ1,g1,g2,g3⟩
  | _=>exact g3.elim
theorem Om {f g:RC} {x y:Code} (hf:fH P ins kept n f x) (hg:fH P ins kept n g y):fH P ins kept n (SA f g) (.seq x y):=by
 intro T D H nx o h ρ a w hH ha
 obtain ⟨o1,h1,h2⟩:=aO h
 refine wp_seq (wp_mono (hf T D H nx o1 h1 ρ a w hH ha) fun e a1 w1 hq=>?_)
 exact qw (N:=y.wp P (kC ρ H nx w kept n o)) (Q:=kC ρ H nx w kept n o) h2 (fun st bS ρ1 a1 w1 g1 g2=>wp_mono (hg _ _ _ _ o bS ρ1 a1 w1 g1.hr g2) fun e a2 w2 hq=>.trans g1 hq) hq
theorem Lc {f g:RC} {x y:Code} {c:Operand} {od:Od} (hc:cv kept n ([]:Env) c=some od) (hf:fH P ins kept n f x) (hg:fH P ins kept n g y):fH P ins kept n (MM od f g) (.cond c x y):=by
 intro T D H nx o h ρ a w hH ha
 have h':a5 T [] od (fun v=>fD v (f T D H nx) (g T D H nx))=some o:=h
 rw [cj] at h'
 obtain ⟨v,hv,h1⟩:=aO h'
 have hr:=fi ha.env hc
 rw [hv] at hr
 rcases mg h1 with ⟨e,h2⟩|⟨e,h2⟩
 ·subst e
  exact wp_cond_true hr.oR (hf T D H nx o h2 ρ a w hH ha)
 ·subst e
  exact wp_cond_false hr.oR (hg T D H nx o h2 ρ a w hH ha)
theorem HM {f:RC} {x:Code} {id:Nat} (hf:fH P ins kept n f x):fH P ins kept n (Hm id f) (.block id x):=by
 intro T D H nx o h ρ a w hH ha
 obtain ⟨o1,h1,h2⟩:=aO h
 refine wp_block (wp_mono (hf T D H nx o1 h1 ρ a w hH ha) fun e a1 w1 hq=>?_)
 obtain ⟨ex,st⟩:=o1
 obtain ⟨ρ1,g1,g2,g3⟩:=hq
 cases ex with
 | normal=>
  cases e with
  | normal=>cases h2;exact ⟨ρ1,g1,g2,trivial⟩
  | _=>exact g3.elim
 | exit i=>
  cases e with
  | exit j=>
   have Dx:i=j:=g3
   subst Dx
   have h3:cond (Nat.beq i id) (stay .normal st) (stay (.exit i) st)=some o:=by
    have h4:(cond (Nat.beq i id) (stay .normal) (stay (.exit i))) st=some o:=h2
    cases hb:Nat.beq i id<;>(rw [hb] at h4;exact h4)
   show (if i=id then kC ρ H nx w kept n o .normal a1 w1 else kC ρ H nx w kept n o (.exit i) a1 w1)
   cases hb:Nat.beq i id with
   | true=>
    rw [hb] at h3
    rw [if_pos (Nat.eq_of_beq_eq_true hb)]
    cases h3;exact ⟨ρ1,g1,g2,trivial⟩
   | false=>
    rw [hb] at h3
    rw [if_neg (Nat.ne_of_beq_eq_false hb)]
    cases h3;exact ⟨ρ1,g1,g2,rfl⟩
  | _=>exact g3.elim
 | ret=>
  cases e with
  | ret=>cases h2;exact ⟨ρ1,g1,g2,trivial⟩
  | _=>exact g3.elim
 | panic ch=>
  cases e with
  | panic vF=>cases h2;exact ⟨ρ1,g1,g2,g3⟩
  | _=>exact g3.elim
def o8 (P:Program) (kept:List Nat) (n:Nat) (f:RC) (m:Nat) (c:Code):Prop:=
 ∀T D H nx o,f T D H nx=some o→∀ρ a w,HR ρ H nx w.heap→EW ρ kept n T D a→Code.rounds P c (kC ρ H nx w kept n o) m a w
theorem zG {c:Code} {Q Q':Exit→Act→World→Prop} (hq:∀e a w,Q e a w→Q' e a w):∀m a w,Code.rounds P c Q m a w→Code.rounds P c Q' m a w:=by
 intro m
 induction m with
 | zero=>intro a w h;exact h
 | succ m ih=>
  intro a w h
  refine wp_mono (show c.wp P (Exit.then (Code.rounds P c Q m) Q) a w from h) fun e a1 w1 h1=>?_
  cases e<;>first|exact ih _ _ h1|exact hq _ _ _ h1
theorem rq {r:jg} {ac:aL} {f:RC} {x:Code} {m:Nat} (hf:fH P ins kept n f x) (hr:o8 P kept n (r.code (.loop ac)) m x):o8 P kept n (MN r ac f) (m + 1) x:=by
 intro T D H nx o h ρ a w hH ha
 obtain ⟨o1,h1,h2⟩:=aO h
 refine wp_mono (hf T D H nx o1 h1 ρ a w hH ha) fun e a1 w1 hq=>?_
 exact qw (Q:=kC ρ H nx w kept n o) h2 (fun st bS ρ1 a1 w1 g1 g2=>zG (fun e a2 w2 hq=>.trans g1 hq) _ _ _ (hr _ _ _ _ o bS ρ1 a1 w1 g1.hr g2)) hq
theorem Ld {f:RC} {x:Code} {m:Nat} (h:o8 P kept n f m x):fH P ins kept n f (.loop x):=by
 intro T D H nx o hf ρ a w hH ha
 exact wp_loop_rounds m (h T D H nx o hf ρ a w hH ha)
end Go.Eng

namespace Go.Eng
variable {P:Program} {ins kept:List Nat} {n:Nat} {A:aG} {rn:jg}
theorem zH {T:Tr Value} {p:Option (List Bool)} {v:Value} {k:Tr Value→R0}:Hk T p v k=k (match p with|none=>T|some p=>bB p T (some v)):=by
 cases p with
 | none=>rfl
 | some p=>exact bQ p T (some v) k
theorem hJ {p:Option (List Bool)} {k:RL} {T:Tr Value} {L:List Value} {D:List eT} {v:Value} {H:Heap} {nx:Nat} :
  br P p [] k T L D v H nx=k (match p with|none=>T|some p=>bB p T (some v)) (v::L) D H nx:=by
 unfold br
 rw [zH]
 rfl
theorem M0 {o:AO} {ag:List bL} {l:List (AO×List bL)}:bz A rn ((o,ag)::l)=opG A rn o ag (bz A rn l):=rfl
theorem On {ops:List Oper} {eA:List Nat} {done:Nat} {env:Env} {bh:Nat}:∀{l:List Nat},(∀j∈l,Nat.testBit bh j=true)→lf P kept n ops eA done env bh l=some []:=by
 intro l
 induction l with
 | nil=>intro _;rfl
 | cons j l ih=>
  intro h
  unfold lf
  rw [ih fun i hi=>h i (List.mem_cons_of_mem _ hi),h j List.mem_cons_self]
  rfl
theorem map_map {α β γ:Type} (f:α→β) (g:β→γ) (a:bG α):(a.map f).map g=a.map (fun x=>g (f x)):=by
 cases a<;>simp only [bG.map,List.map_map,Option.map_map]<;>rfl
theorem zI {env:Env} {T:Tr Value} {L:List Value} {a:bG Operand} {b:bG Od} (h:a.fE (cv kept n env)=some b) :
  b.map (gH T L)=a.map (Av fun x=>(g8 T L ((cv kept n env x).getD (.loc 0))).getD undef):=by
 obtain ⟨h1,_⟩:=g9 (.loc 0) h
 rw [h1,map_map]
 rfl
theorem Le {ρ:bA} {env:Env} {T:Tr Value} {L:List Value} {a:bG Operand} {b:bG Od} {c:Act} (h:a.fE (cv kept n env)=some b) (he:hG ρ kept n env T L c) :
  a.all fun x=>VR ρ ((g8 T L ((cv kept n env x).getD (.loc 0))).getD undef) (c.eval x):=by
 obtain ⟨_,h2⟩:=g9 (.loc 0) h
 refine kA (fun x hx=>?_) h2
 obtain ⟨y,hy⟩:=hx
 rw [hy]
 exact fi he hy
theorem EX {ρ:bA} {env:Env} {T:Tr Value} {L:List Value} {H:Heap} {nx:Nat} {w:World} {o:Oper} {a:bG Operand} {b:bG Od} {c:Act} {r:Ex×St} {k:KA} (hc:ai P ins o=some a) (hp:a.plain=true) (h:a.fE (cv kept n env)=some b) (he:hG ρ kept n env T L c)
  (hH:HR ρ H nx w.heap) (hr:cm b P T L H nx k=some r):Good P w ρ H nx r k (execOp c.eval o):=by
 have h1:=Dm (T':=T) (L':=L) hr
 rw [zI h] at h1
 exact qu hc hp (Le h he) hH h1
theorem tL {ρ:bA} {env:Env} {T:Tr Value} {L:List Value} {c:Act} {ops:List Oper} {o:Oper} {g:Option (Nat×Bool)} (h:gY ops env o.guard=some g) (he:hG ρ kept n env T L c) :
  Region.wanted o (yielded ops.toArray c.tmps)=wanted L g:=by
 unfold Region.wanted
 cases hg:o.guard with
 | none=>rw [hg] at h;cases h;rfl
 | some p=>
  obtain ⟨j,want⟩:=p
  rw [hg] at h
  simp only [gY] at h
  cases hj:ops[j]? with
  | none=>rw [hj] at h;cases h
  | some q=>
   rw [hj] at h
   simp only at h
   cases hd:q.dst with
   | none=>rw [hd] at h;cases h
   | some t=>
    rw [hd] at h
    simp only at h
    cases hf:find env t with
    | none=>rw [hf] at h;cases h
    | some x=>
     rw [hf] at h
     simp only [Option.map_eq_some_iff] at h
     obtain ⟨d,hx,rfl⟩:=h
     have rY:x=.loc d:=by cases x<;>simp [y3] at hx;rw [hx]
     subst rY
     have hv:=he.env t _ hf
     show (yielded ops.toArray c.tmps j == some want)=vY want (BE L d)
     rw [oQ]
     have tK:g8 T L (.loc d)=L[d]?:=rfl
     rw [tK] at hv
     have hy:yielded ops.toArray c.tmps j=match c.tmps.getD t undef with | .bool b=>some b|_=>none:=by
      unfold yielded
      simp only [List.getElem?_toArray,hj,Option.bind_some,hd,Array.getD_eq_getD_getElem?]
      cases c.tmps[t]? with
      | none=>rfl
      | some v=>cases v<;>rfl
     rw [hy]
     generalize c.tmps.getD t undef=u at hv
     cases hL:L[d]? with
     | none=>
      rw [hL] at hv
      have:u=undef:=by
       cases hv with
       | sc h=>rfl
       | tuple h=>cases h;rfl
      subst this
      rfl
     | some v=>
      rw [hL] at hv
      have jS:VR ρ v u:=hv
      show _=nL want v
      cases jS with
      | sc h=>cases u<;>first|rfl|(rename_i b;cases b<;>cases want<;>rfl)|(simp [scalar] at h)
      | any h=>cases u<;>first|rfl|(simp [tl] at h)
      | _=>rfl
end Go.Eng

namespace Go.Eng
variable {P:Program} {ins kept:List Nat} {n:Nat} {A:aG} {rn:jg}
def qx (A:aG) (p:Option (List Bool)) (ag:List bL) (k:RL) (r:Ex×St) (ρ:bA) (T:Tr Value) (L:List Value) (H:Heap) (nx:Nat) (w:World) (o:Oper) (c:Act) (next:Act→World→Prop):Prop:=
 ∀(v:Value) (H':Heap) (nx':Nat) (D':List eT) (ρ':bA) (u:Value) (w':World) (c':Act),br A.P p ag k T L D' v H' nx'=some r→VR ρ' v u→jK ρ H nx w ρ' H' nx' w'→gB ρ' D' c'.defers→c'.tmps=c.tmps→next (c'.put o.dst u) w'
def o9 (r:Ex×St) (ρ:bA) (T:Tr Value) (D:List eT) (H:Heap) (nx:Nat) (w:World) (c:Act) (Q:Exit→Act→World→Prop):Prop:=
 ∀ch vF ρ' H' nx' w',r=(.panic ch,⟨T,D,H',nx'⟩)→lT ρ' ch vF→jK ρ H nx w ρ' H' nx' w'→Q (.panic vF) c w'
theorem iV {b:bG Od} (h:b.plain=true):pX b=dK:=by
 cases b<;>first|rfl|(simp [bG.plain] at h)|skip
theorem EY {α β:Type} (f:α→β) (a:bG α):(a.map f).plain=a.plain:=by cases a<;>rfl
theorem HN {ρ:bA} {env:Env} {T:Tr Value} {L:List Value} {D:List eT} {H:Heap} {nx:Nat} {w:World} {o:Oper} {a:bG Operand} {b:bG Od} {c:Act} {r:Ex×St} {p:Option (List Bool)} {ag:List bL} {k:RL}
  {next:Act→World→Prop} {Q:Exit→Act→World→Prop} (hA:A.P=P) (hc:ai P ins o=some a) (hp:a.plain=true) (h:a.fE (cv kept n env)=some b) (he:hG ρ kept n env T L c) (hD:gB ρ D c.defers)
  (hH:HR ρ H nx w.heap) (hr:pX b A rn p ag k b T L D H nx=some r) (hn:qx A p ag k r ρ T L H nx w o c next):o.upon P c next Q ((execOp c.eval o).run P w):=by
 have hb:b.plain=true:=by
  rw [(g9 (.loc 0) h).1,EY];exact hp
 rw [iV hb] at hr
 have nz:cm b P T L H nx (br A.P p ag k T L D)=some r:=by rw [← hA];exact hr
 obtain ⟨v,H',nx',u,w',ρ',h1,h2,h3,h4,h5,h6,h7⟩:=EX hc hp h he hH nz
 have DA:=hn v H' nx' D ρ' u w' c h1 h3 ⟨h4,h5,h6,h7⟩ (hD.mono h5.ext) rfl
 rcases h2 with h2|⟨h2,rfl⟩
 ·rw [h2];exact DA
 ·rw [h2];exact DA
theorem n5 {ρ:bA} {env:Env} {T:Tr Value} {L:List Value} {c:Act} (he:hG ρ kept n env T L c):∀{xs:List Operand} {ys:List Od} {vs:List Value},gF (cv kept n env) xs=some ys→nN T L ys=some vs→cU ρ vs (xs.map c.eval):=by
 intro xs
 induction xs with
 | nil=>intro ys vs h1 h2;cases h1;cases h2;exact .nil
 | cons x xs ih=>
  intro ys vs h1 h2
  unfold gF at h1
  cases hx:cv kept n env x with
  | none=>simp [hx] at h1
  | some y=>
   cases Tc:gF (cv kept n env) xs with
   | none=>simp [hx,Tc] at h1
   | some Xq=>
    simp [hx,Tc] at h1
    subst h1
    unfold nN at h2
    cases hv:g8 T L y with
    | none=>simp [hv] at h2
    | some v=>
     cases lh:nN T L Xq with
     | none=>simp [hv,lh] at h2
     | some MS=>
      simp [hv,lh] at h2
      subst h2
      have:=fi he hx
      rw [hv] at this
      exact .cons this (ih Tc lh)
theorem zJ {ρ:bA} {T:Tr Value} {L:List Value} {D:List eT} {H:Heap} {nx:Nat} {w:World} {o:Oper} {c:Act} {r:Ex×St} {p:Option (List Bool)} {ag:List bL} {k:RL} {g:FuncId} {vs us:List Value}
  {next:Act→World→Prop} {Q:Exit→Act→World→Prop} (cW:fG P rn) (hD:gB ρ D c.defers) (hH:HR ρ H nx w.heap) (lh:cU ρ vs us) (hr:bd (rn.call g vs H nx) (dA A.P p ag k T L D)=some r)
  (he:(execOp c.eval o).run P w=(callFunc g ⟨us⟩).run P w)
  (hn:qx A p ag k r ρ T L H nx w o c next) (hq:o9 r ρ T D H nx w c Q):o.upon P c next Q ((execOp c.eval o).run P w):=by
 obtain ⟨ret,h1,h2⟩:=aO hr
 obtain ⟨xD,nu⟩:=cW g vs H nx ret h1
 rw [he,xD.run,Oper.upon_enter]
 refine (nu ρ us w lh hH).mono fun e w' cO=>?_
 cases ret with
 | ok v H' nx'=>
  obtain ⟨u,ρ',rfl,hv,hw⟩:=cO
  exact hn v H' nx' D ρ' u w' c h2 hv hw (hD.mono hw.gM.ext) rfl
 | nI ch H' nx'=>
  obtain ⟨vF,ρ',rfl,oH,hw⟩:=cO
  have h3:some (Ex.panic ch,(⟨T,D,H',nx'⟩:St))=some r:=h2
  cases h3
  exact hq ch vF ρ' H' nx' w' rfl oH hw
theorem Lf {ρ:bA} {env:Env} {T:Tr Value} {L:List Value} {D:List eT} {H:Heap} {nx:Nat} {w:World} {o:Oper} {d:Call} {f:Operand} {f':Od} {im:List Od} {c:Act} {r:Ex×St} {p:Option (List Bool)} {ag:List bL} {k:RL}
  {next:Act→World→Prop} {Q:Exit→Act→World→Prop} (cW:fG P rn) (ho:o.op=.call d) (BW:d.callee=.value f) (hf:cv kept n env f=some f') (b5:gF (cv kept n env) d.args.toList=some im) (he:hG ρ kept n env T L c) (hD:gB ρ D c.defers)
  (hH:HR ρ H nx w.heap) (hr:pX (.call f' im) A rn p ag k (.call f' im) T L D H nx=some r) (hn:qx A p ag k r ρ T L H nx w o c next) (hq:o9 r ρ T D H nx w c Q):o.upon P c next Q ((execOp c.eval o).run P w):=by
 have nz:a5 T L f' (fun f=>cS T L im fun vs=>ft vs (fun g vs=>bd (rn.call g vs H nx) (dA A.P p ag k T L D)) f)=some r:=hr
 rw [cj] at nz
 obtain ⟨fv,DB,h1⟩:=aO nz
 rw [dR] at h1
 obtain ⟨vs,lh,h2⟩:=aO h1
 have Td:=fi he hf
 rw [DB] at Td
 have M3:=n5 he b5 lh
 unfold ft at h2
 split at h2
 ·rename_i g first captured
  have HO:VR ρ (.func (.func g) first captured) (c.eval f):=Td
  generalize hu:c.eval f=u at HO
  cases HO with
  | sc h=>simp [scalar] at h
  | @func _ a a' q q' h3 h4=>
   refine zJ cW hD hH (vs:=a++vs++q) (us:=a'++d.args.toList.map c.eval++q') ((h3.append M3).append h4) h2 ?_ hn hq
   simp only [execOp,ho,resolve,BW,hu,Deferred.ofValue,Sem.run_bind,Sem.run_pure,Result.andThen_ok,invoke]
   congr 2
   apply Array.ext'
   simp
 ·cases h2
theorem Oo {ρ:bA} {env:Env} {T:Tr Value} {L:List Value} {D:List eT} {H:Heap} {nx:Nat} {w:World} {o:Oper} {x:Operand} {x':Od} {c:Act} {r:Ex×St} {p:Option (List Bool)} {ag:List bL} {k:RL}
  {next:Act→World→Prop} {Q:Exit→Act→World→Prop} (ho:o.op=.panic x) (hx:cv kept n env x=some x') (he:hG ρ kept n env T L c)
  (hH:HR ρ H nx w.heap) (hr:pX (.nI x') A rn p ag k (.nI x') T L D H nx=some r) (hq:o9 r ρ T D H nx w c Q):o.upon P c next Q ((execOp c.eval o).run P w):=by
 have nz:a5 T L x' (y0 T D H nx)=some r:=hr
 rw [cj] at nz
 obtain ⟨v,hv,h1⟩:=aO nz
 have EZ:=fi he hx
 rw [hv] at EZ
 unfold y0 at h1
 split at h1
 ·rename_i t v
  have HP:VR ρ (.iface t v) (c.eval x):=EZ
  generalize hu:c.eval x=u at HP
  cases HP with
  | sc h=>simp [scalar] at h
  | @iface _ _ u' jS=>
   cases h1
   have fw:(execOp c.eval o).run P w=.halt (.panic (.iface t u')) w:=by
    simp only [execOp,ho,hu]
    rfl
   rw [fw,Oper.upon_panic]
   exact hq _ _ ρ H nx w rfl (.cons (.iface jS) rfl rfl .nil) (.refl hH)
 ·cases h1
theorem Oq {ρ:bA} {env:Env} {T:Tr Value} {L:List Value} {D:List eT} {H:Heap} {nx:Nat} {w:World} {o:Oper} {d:Call} {f:Operand} {f':Od} {im:List Od} {c:Act} {r:Ex×St} {p:Option (List Bool)} {ag:List bL} {k:RL}
  {next:Act→World→Prop} {Q:Exit→Act→World→Prop} (ho:o.op=.defer d) (BW:d.callee=.value f) (hf:cv kept n env f=some f') (b5:gF (cv kept n env) d.args.toList=some im) (he:hG ρ kept n env T L c) (hD:gB ρ D c.defers)
  (hH:HR ρ H nx w.heap) (hr:pX (.oF f' im) A rn p ag k (.oF f' im) T L D H nx=some r) (hn:qx A p ag k r ρ T L H nx w o c next):o.upon P c next Q ((execOp c.eval o).run P w):=by
 have nz:a5 T L f' (fun f=>cS T L im fun vs=>qa f (br A.P p ag k T L ((f,vs)::D) undef H nx))=some r:=hr
 rw [cj] at nz
 obtain ⟨fv,DB,h1⟩:=aO nz
 rw [dR] at h1
 obtain ⟨vs,lh,h2⟩:=aO h1
 have Td:=fi he hf
 rw [DB] at Td
 have M3:=n5 he b5 lh
 unfold qa at h2
 split at h2
 ·rename_i g first captured
  have HO:VR ρ (.func (.func g) first captured) (c.eval f):=Td
  generalize hu:c.eval f=u at HO
  cases HO with
  | sc h=>simp [scalar] at h
  | @func _ a a' q q' h3 h4=>
   have fw:(execOp c.eval o).run P w=.ok (.defer { target:=.fn (.func g) ⟨q'⟩,args:=⟨a'++d.args.toList.map c.eval⟩ }) w:=by
    simp only [execOp,ho,resolve,BW,hu,Deferred.ofValue,Sem.run_bind,Sem.run_pure,Result.andThen_ok]
    congr 3
    apply Array.ext'
    simp
   rw [fw,Oper.upon_defer]
   exact hn undef H nx _ ρ undef w { c with defers:=_::c.defers } h2 .undef (.refl hH) (.cons ⟨g,a,a',q,q',_,rfl,rfl,h3,h4,M3⟩ hD) rfl
 ·cases h2
end Go.Eng

namespace Go.Eng
variable {P:Program} {ins kept:List Nat} {n:Nat} {A:aG} {rn:jg} {ρ:bA} {H:Heap} {nx:Nat} {w:World} {r:Ex×St}
theorem BX (t:TypeId):xg P t=oO P t:=rfl
theorem zK {α:Type} (p:α→Bool) (a:Array α):a.find? p=a.toList.find? p:=by simp
theorem xE {fuel:Nat} {t:TypeId} {v u:Value} {name:String} {m:FuncId×Option (Option Nat)} {k:Value→R0} (hH:HR ρ H nx w.heap) (hv:VR ρ v u) (hm:methodOf P t name=some m) (hr:yZ H v m.2 k=some r) :
  ∃x y,k x=some r∧(method (fuel + 1) t u name).run P w=.ok (m.1,y) w∧VR ρ x y:=by
 unfold methodOf at hm
 split at hm
 ·rename_i i hi
  split at hm
  ·rename_i q hq
   have fP:i.methods.find? (·.name == name)=some q:=by rw [zK];exact hq
   cases hp:q.path.isEmpty with
   | false=>rw [hp] at hm;cases hm
   | true=>
    rw [hp] at hm
    simp only [cond_true] at hm
    have HQ:q.path.toList=[]:=by
     have:q.path=#[]:=by simpa using hp
     rw [this]
    have Xr:(typeInfo t).run P w=.ok i w:=kz hi
    split at hm
    ·rename_i f e hf hu
     cases hm
     refine ⟨v,u,hr,?_,hv⟩
     simp only [method,Sem.run_bind,Xr,Result.andThen_ok,fP,HQ,follow,Sem.run_pure,hf,receiverAt,run_underlying hu,Place.get]
    ·rename_i f e hf hu
     cases hg:xg P e with
     | none=>simp [hg] at hm
     | some g=>
      simp [hg] at hm
      subst hm
      have nz:(dm v fun b o=>cA H b fun cs=>bd (partOf cs o g) k)=some r:=hr
      obtain ⟨b,o,rfl,h1⟩:=jm nz
      obtain ⟨cs,xb,hb,MT,h2⟩:=mh h1
      obtain ⟨x,hx,h3⟩:=aO h2
      obtain ⟨s,hs,rfl⟩:=hv.oS
      obtain ⟨s',eM,xm⟩:=hH.blk b _ hb
      have xm:=MT _ _ _ xm
      rw [hs] at eM;cases eM
      obtain ⟨y,hy,tu⟩:=tr (w:=w) (BX e ▸ hg) xm hx
      refine ⟨x,y,h3,?_,tu⟩
      simp only [method,Sem.run_bind,Xr,Result.andThen_ok,fP,HQ,follow,Sem.run_pure,hf,receiverAt,run_underlying hu,Place.get]
      have BM:∀nm:String,(Builtin.ssaWrapNilChk_ #[t] t #[.pointer (some ⟨s.blk,s.sh + o,none⟩),strVal "",strVal nm]).run P w=.ok (.pointer (some ⟨s.blk,s.sh + o,none⟩)) w:=fun _=>rfl
      have has:(asAddr (.pointer (some ⟨s.blk,s.sh + o,none⟩))).run P w=.ok ⟨s.blk,s.sh + o,none⟩ w:=rfl
      simp only [hp,if_true,Sem.run_bind,BM,has,Result.andThen_ok,hy,Sem.run_pure]
    ·rename_i f d hn hf hu
     cases hm
     refine ⟨v,u,hr,?_,hv⟩
     simp only [method,Sem.run_bind,Xr,Result.andThen_ok,fP,HQ,follow,Sem.run_pure,hf,receiverAt,run_underlying hu,Place.get]
    ·cases hm
  ·cases hm
 ·cases hm
theorem Ot {env:Env} {T:Tr Value} {L:List Value} {D:List eT} {o:Oper} {d:Call} {x:Operand} {name:String} {x':Od} {im:List Od} {c:Act} {p:Option (List Bool)} {ag:List bL} {k:RL}
  {next:Act→World→Prop} {Q:Exit→Act→World→Prop} (hA:A.P=P) (cW:fG P rn) (ho:o.op=.call d) (BW:d.callee=.invoke x name) (hx:cv kept n env x=some x') (b5:gF (cv kept n env) d.args.toList=some im) (he:hG ρ kept n env T L c) (hD:gB ρ D c.defers)
  (hH:HR ρ H nx w.heap) (hr:pX (.inv x' name im) A rn p ag k (.inv x' name im) T L D H nx=some r) (hn:qx A p ag k r ρ T L H nx w o c next) (hq:o9 r ρ T D H nx w c Q):o.upon P c next Q ((execOp c.eval o).run P w):=by
 have nz:a5 T L x' (fun x=>cS T L im fun vs=>nt A.P name H (fun g v=>bd (rn.call g (v::vs) H nx) (dA A.P p ag k T L D)) x)=some r:=hr
 rw [cj] at nz
 obtain ⟨xv,hxv,h1⟩:=aO nz
 rw [dR] at h1
 obtain ⟨vs,lh,h2⟩:=aO h1
 have EZ:=fi he hx
 rw [hxv] at EZ
 have M3:=n5 he b5 lh
 unfold nt at h2
 split at h2
 ·rename_i t v
  obtain ⟨m,hm,h3⟩:=aO h2
  rw [hA] at hm
  have HP:VR ρ (.iface t v) (c.eval x):=EZ
  generalize hu:c.eval x=u at HP
  cases HP with
  | sc h=>simp [scalar] at h
  | @iface _ _ u' jS=>
   have hd:0 < Made.depth:=by decide
   have Te:∃q,P.types.size + Made.depth=q + 1:=⟨P.types.size + Made.depth - 1,by omega⟩
   obtain ⟨q,fP⟩:=Te
   obtain ⟨y,z,h4,h5,h6⟩:=xE (w:=w) (fuel:=q) hH jS hm h3
   refine zJ cW hD hH (vs:=y::vs) (us:=z::d.args.toList.map c.eval) (.cons h6 M3) h4 ?_ hn hq
   have hp:(program).run P w=.ok P w:=rfl
   simp only [execOp,ho,resolve,BW,hu,Sem.run_bind,Sem.run_pure,Result.andThen_ok,invoke]
   have lq:(#[Value.iface t u']++d.args.map c.eval)[0]?=some (.iface t u'):=by rw [Array.getElem?_append_left (by simp)];rfl
   simp only [lq,callMethod,Sem.run_bind,hp,Result.andThen_ok,fP,h5]
   congr 2
   apply Array.ext'
   simp
   rw [List.take_of_length_le (by simp)]
 ·cases h2
end Go.Eng

namespace Go.Eng
variable {P:Program} {ins kept:List Nat} {n:Nat} {A:aG} {rn:jg} {ρ:bA} {H:Heap} {nx:Nat} {w:World} {r:Ex×St}
def Lg (o:Oper):bG Operand→Prop
 | .call f args=>∃d,o.op=.call d∧d.callee=.value f∧args=d.args.toList
 | .inv x name args=>∃d,o.op=.call d∧d.callee=.invoke x name∧args=d.args.toList
 | .oF f args=>∃d,o.op=.defer d∧d.callee=.value f∧args=d.args.toList
 | .nI x=>o.op=.panic x
 | _=>True
theorem Lg.plain {o:Oper} {a:bG Operand} (h:a.plain=true):Lg o a:=by
 cases a<;>first|trivial|(simp [bG.plain] at h)
theorem nA {b:Builtin} {ts:Array TypeId} {args:Array Operand} {o:Oper} {a:bG Operand} (h:cK P b ts args=some a):Lg o a:=by
 unfold cK at h
 repeat' split at h
 all_goals first
  | (cases h;done)
  | (cases h;trivial)
  | (revert h;generalize Nat.beq _ _=q;intro h;cases q<;>first|(cases h;done)|(cases h;trivial))
theorem dC {α:Type} {c:Bool} {x:Option α} {a:α} (h:(bif c then x else none)=some a):x=some a:=by
 cases c
 ·cases h
 ·exact h
theorem pc {o:Oper} {a:bG Operand} (h:ai P ins o=some a):Lg o a:=by
 cases ho:o.op with
 | call d=>
  simp only [ai,ho] at h
  cases hc:d.callee with
  | builtin b=>simp only [hc] at h;exact nA h
  | invoke x name=>simp only [hc] at h;cases h;exact ⟨d,ho,hc,rfl⟩
  | value f=>
   cases f with
   | func g=>
    simp only [hc] at h
    cases hg:dB ins g with
    | true=>
     rw [hg] at h
     simp only [cond_true] at h
     repeat' split at h
     all_goals first|(cases h;done)|(cases h;trivial)
    | false=>rw [hg] at h;cases h;exact ⟨d,ho,hc,rfl⟩
   | _=>simp only [hc] at h;cases h;exact ⟨d,ho,hc,rfl⟩
 | defer d=>
  simp only [ai,ho] at h
  split at h
  ·rename_i f hc;cases h;exact ⟨d,ho,hc,rfl⟩
  ·cases h
 | panic x=>simp only [ai,ho] at h;cases h;exact ho
 | binOp op t x y q=>
  simp only [ai,ho,gW] at h
  repeat' split at h
  all_goals first
   | (cases h;done)
   | (cases h;trivial)
   | (revert h;generalize (dy x||dy y)=q;intro h;cases q<;>first|(cases h;done)|(cases h;trivial))
 | makeFunc fn xs ys=>
  cases fn with
  | func f=>simp only [ai,ho] at h;cases h;trivial
  | _=>simp only [ai,ho] at h;cases h
 | next x q=>
  cases q with
  | false=>simp only [ai,ho] at h;cases h;trivial
  | true=>simp only [ai,ho] at h;cases h
 | _=>
  unfold ai at h
  rw [ho] at h
  simp only at h
  repeat' split at h
  all_goals first
   | (cases h;done)
   | (cases h;trivial)
   | (simp only [Option.map_eq_some_iff] at h;obtain ⟨_,_,rfl⟩:=h;trivial)
   | (have h:=dC h;first|(cases h;trivial)|(simp only [Option.map_eq_some_iff] at h;obtain ⟨_,_,rfl⟩:=h;trivial))
theorem tM {v:Value} {k:Nat→R0} {r:Ex×St} (h:nJ v k=some r):∃n,v=.int .i64 (.ofNat n)∧k n=some r:=by
 unfold nJ at h
 split at h
 ·exact ⟨_,rfl,h⟩
 ·cases h
def nH (P:Program) (ins:List Nat):Prop:=∀o z bytes s i v,ai P ins o=some (.ins z bytes s i v)→∀(ρ:bA) (H:Heap) (nx:Nat) (w:World) (sv iv vv:Value) (c:Act),VR ρ sv (c.eval s)→VR ρ iv (c.eval i)→VR ρ vv (c.eval v)→HR ρ H nx w.heap→
 ∀(k:KA) (r:Ex×St),(nJ iv fun i=>lZ sv fun b o z1 len cp=>lZ vv (Hi z bytes H nx k i b o z1 len cp))=some r→
  ∃g us,(execOp c.eval o).run P w=.ok (.enter g us) w∧Calls P g us w fun e w'=>∃x H' nx' u ρ',k x H' nx'=some r∧e=.returned u∧VR ρ' x u∧jK ρ H nx w ρ' H' nx' w'
theorem HS {env:Env} {T:Tr Value} {L:List Value} {D:List eT} {o:Oper} {a:bG Operand} {b:bG Od} {c:Act} {p:Option (List Bool)} {ag:List bL} {k:RL}
  {next:Act→World→Prop} {Q:Exit→Act→World→Prop} (hA:A.P=P) (cW:fG P rn) (pd:nH P ins) (hc:ai P ins o=some a) (h:a.fE (cv kept n env)=some b) (he:hG ρ kept n env T L c) (hD:gB ρ D c.defers)
  (hH:HR ρ H nx w.heap) (hr:pX b A rn p ag k b T L D H nx=some r) (hn:qx A p ag k r ρ T L H nx w o c next) (hq:o9 r ρ T D H nx w c Q):o.upon P c next Q ((execOp c.eval o).run P w):=by
 by_cases hp:a.plain=true
 ·exact HN hA hc hp h he hD hH hr hn
 ·have zL:=pc hc
  cases a with
  | call f args=>
   obtain ⟨d,g1,g2,g3⟩:=zL
   simp only [bG.fE] at h
   split at h
   ·rename_i f' im hf b5
    cases h
    subst g3
    exact Lf cW g1 g2 hf b5 he hD hH hr hn hq
   ·cases h
  | inv x name args=>
   obtain ⟨d,g1,g2,g3⟩:=zL
   simp only [bG.fE] at h
   split at h
   ·rename_i x' im hx b5
    cases h
    subst g3
    exact Ot hA cW g1 g2 hx b5 he hD hH hr hn hq
   ·cases h
  | oF f args=>
   obtain ⟨d,g1,g2,g3⟩:=zL
   simp only [bG.fE] at h
   split at h
   ·rename_i f' im hf b5
    cases h
    subst g3
    exact Oq g1 g2 hf b5 he hD hH hr hn
   ·cases h
  | nI x=>
   simp only [bG.fE] at h
   split at h
   ·rename_i x' hx
    cases h
    exact Oo zL hx he hH hr hq
   ·cases h
  | vU=>
   simp only [bG.fE] at h
   cases h
   cases hr
  | ins z bytes s i v=>
   simp only [bG.fE] at h
   split at h
   ·rename_i s' i' v' hs hi hv
    cases h
    have nz:a5 T L s' (fun s=>a5 T L i' fun i=>nJ i fun i=>a5 T L v' fun v=>lZ s fun b o z1 len cp=>lZ v (Hi z bytes H nx (br A.P p ag k T L D) i b o z1 len cp))=some r:=hr
    rw [cj] at nz
    obtain ⟨sv,Rj,h1⟩:=aO nz
    rw [cj] at h1
    obtain ⟨iv,hiv,h2⟩:=aO h1
    obtain ⟨m,rfl,h3⟩:=tM h2
    rw [cj] at h3
    obtain ⟨vv,hvv,h4⟩:=aO h3
    have r1:=fi he hs
    have r2:=fi he hi
    have r3:=fi he hv
    rw [Rj] at r1
    rw [hiv] at r2
    rw [hvv] at r3
    obtain ⟨g,us,q1,q2⟩:=pd o z bytes s i v hc ρ H nx w sv _ vv c r1 r2 r3 hH (br A.P p ag k T L D) r h4
    rw [q1,Oper.upon_enter]
    refine q2.mono fun e w' cO=>?_
    obtain ⟨x,H',nx',u,ρ',h5,rfl,h6,h7⟩:=cO
    exact hn x H' nx' D ρ' u w' c h5 h6 h7 (hD.mono h7.gM.ext) rfl
   ·cases h
  | _=>exact absurd rfl hp
end Go.Eng

namespace Go.Eng
variable {P:Program} {T:Tr Value} {L:List Value} {H:Heap} {nx:Nat}
def VS {X:Type} (F:(X→R0)→R0):Prop:=∀k r,F k=some r→∃x,k x=some r∧∀k',F k'=k' x
def bE {X:Type} (p:X→Prop) (F:(X→R0)→R0):Prop:=∀k r,F k=some r→∃x,k x=some r∧(∀k',F k'=k' x)∧p x
theorem bE.Rk {X:Type} {p:X→Prop} {F:(X→R0)→R0} (h:bE p F):VS F:=fun k r hr=>let ⟨x,h1,h2,_⟩:=h k r hr;⟨x,h1,h2⟩
section comb
variable {X α:Type} {p:X→Prop}
theorem bE.ret (x:X) (hp:p x):bE p fun k=>k x:=fun _ _ h=>⟨x,h,fun _=>rfl,hp⟩
theorem bE.no:bE p fun _=>none:=fun _ _ h=>by cases h
theorem bE.bd {o:Option α} {F:α→(X→R0)→R0} (h:∀a,bE p (F a)):bE p fun k=>bd o fun a=>F a k:=by
 cases o with
 | none=>exact .no
 | some a=>exact h a
theorem bE.ev {x:Od} {F:Value→(X→R0)→R0} (h:∀a,bE p (F a)):bE p fun k=>a5 T L x fun a=>F a k:=by
 intro k r hr
 simp only [cj] at hr ⊢
 exact bE.bd h k r hr
theorem bE.tO {xs:List Od} {F:List Value→(X→R0)→R0} (h:∀a,bE p (F a)):bE p fun k=>cS T L xs fun a=>F a k:=by
 intro k r hr
 simp only [dR] at hr ⊢
 exact bE.bd h k r hr
theorem bE.parts {xs:List (Nat×Nat×Od)} {F:List (Nat×Nat×Value)→(X→R0)→R0} (h:∀a,bE p (F a)):bE p fun k=>dg T L xs fun a=>F a k:=by
 intro k r hr
 simp only [wc] at hr ⊢
 exact bE.bd h k r hr
theorem bE.cond {c:Bool} {F G:(X→R0)→R0} (h:bE p F) (h':bE p G):bE p fun k=>cond c (F k) (G k):=by
 cases c
 ·exact h'
 ·exact h
theorem bE.nat {v:Value} {F:Nat→(X→R0)→R0} (h:∀a,bE p (F a)):bE p fun k=>cF v fun a=>F a k:=by
 unfold cF
 split
 ·exact h _
 ·exact .no
theorem bE.i64 {v:Value} {F:Nat→(X→R0)→R0} (h:∀a,bE p (F a)):bE p fun k=>nJ v fun a=>F a k:=by
 unfold nJ
 split
 ·exact h _
 ·exact .no
theorem bE.agg {v:Value} {F:List Value→(X→R0)→R0} (h:∀a,bE p (F a)):bE p fun k=>nK v fun a=>F a k:=by
 unfold nK
 split
 ·exact h _
 ·exact .no
theorem bE.ptr {v:Value} {F:Nat→Nat→(X→R0)→R0} (h:∀a b,bE p (F a b)):bE p fun k=>dm v fun a b=>F a b k:=by
 unfold dm
 split
 ·exact h _ _
 ·exact .no
theorem bE.sl {v:Value} {F:Nat→Nat→Nat→Nat→Nat→(X→R0)→R0} (h:∀a b c d e,bE p (F a b c d e)):bE p fun k=>lZ v fun a b c d e=>F a b c d e k:=by
 unfold lZ
 split
 ·exact h _ _ _ _ _
 ·exact .no
theorem bE.bool {v:Value} {F G:(X→R0)→R0} (h:bE p F) (h':bE p G):bE p fun k=>fD v (F k) (G k):=by
 unfold fD
 split
 ·exact .cond h h'
 ·exact .no
theorem bE.cells {b:Nat} {F:List Value→(X→R0)→R0} (h:∀a,bE p (F a)):bE p fun k=>eU H b fun a=>F a k:=by
 unfold eU sq
 cases ao H (at_ b) with
 | none=>exact .no
 | some x=>cases x with
  | cells cs=>exact h _
  | map es c=>exact .no
  | ro cs=>exact .no
  | iter _ _ _ _=>exact .no
theorem bE.cA {b:Nat} {F:List Value→(X→R0)→R0} (h:∀a,bE p (F a)):bE p fun k=>cA H b fun a=>F a k:=by
 unfold Eng.cA onRead
 cases ao H (at_ b) with
 | none=>exact .no
 | some x=>cases x with
  | cells cs=>exact h _
  | map es c=>exact .no
  | ro cs=>exact h _
  | iter _ _ _ _=>exact .no
theorem bE.E0 {b:Option gT} {F:List MapEntry→Nat→(X→R0)→R0} (h:∀a c,bE p (F a c)):bE p fun k=>fe b fun a c=>F a c k:=by
 unfold fe
 cases b with
 | none=>exact .no
 | some x=>cases x with
  | cells cs=>exact .no
  | map es c=>exact h _ _
  | ro cs=>exact .no
  | iter _ _ _ _=>exact .no
theorem bE.iter {b:Option gT} {F:Option Nat→Nat→List Nat→Nat→(X→R0)→R0} (h:∀a c d e,bE p (F a c d e)):bE p fun k=>ma b fun a c d e=>F a c d e k:=by
 unfold ma
 split
 ·exact h _ _ _ _
 ·exact .no
theorem bE.map {m:Value} {F:Nat→List MapEntry→Nat→(X→R0)→R0} (h:∀a b c,bE p (F a b c)):bE p fun k=>oL H m fun a b c=>F a b c k:=by
 unfold oL
 split
 ·exact .E0 fun _ _=>h _ _ _
 ·exact .no
theorem bE.opt {x:Option Od} {d:Nat} {F:Nat→(X→R0)→R0} (h:∀a,bE p (F a)):bE p fun k=>gR T L x d fun a=>F a k:=by
 cases x with
 | none=>exact h d
 | some x=>exact .ev fun _=>.nat h
theorem bE.BC {x:Option Od} {F:Option Value→(X→R0)→R0} (h:∀a,bE p (F a)):bE p fun k=>vi T L x fun a=>F a k:=by
 cases x with
 | none=>exact h none
 | some x=>exact .ev fun _=>h _
theorem bE.set {pp:List Bool} {H:Heap} {b:Option gT} {F:Heap→(X→R0)→R0} (h:∀a,bE p (F a)):bE p fun k=>dx pp H b fun a=>F a k:=by
 intro k r hr
 simp only [bQ] at hr ⊢
 exact h _ k r hr
theorem bE.oi {o:Option Nat} {F:(X→R0)→R0} {G:Nat→(X→R0)→R0} (h:bE p F) (h':∀a,bE p (G a)):bE p fun k=>Option.rec (F k) (fun a=>G a k) o:=by
 cases o with
 | none=>exact h
 | some a=>exact h' a
end comb
theorem HT {p:Value→Prop} (hp:∀v,p v) {mx:Option Od} {b o z l h c:Nat}:bE p fun k=>Er T L mx k b o z l h c:=by
 unfold Er
 cases mx with
 | none=>exact .ret _ (hp _)
 | some m=>exact .ev fun _=>.nat fun _=>.cond (.ret _ (hp _)) .no
theorem BY {p:Value→Prop} (hp:∀v,p v) (a:bG Od):bE p fun k=>dv a P T L H k:=by
 cases a with
 | ae x=>exact .ev fun _=>.ret _ (hp _)
 | pick c x y=>exact .ev fun _=>.bool (.ev fun _=>.ret _ (hp _)) (.ev fun _=>.ret _ (hp _))
 | aj x=>exact .ev fun _=>by unfold s8;split<;>first|exact .ret _ (hp _)|exact .no
 | ext x i=>
  exact .ev fun _=>by
   unfold He
   split
   ·intro k r hr;simp only [jR] at hr ⊢;exact bE.bd (F:=fun v k=>k v) (fun _=>.ret _ (hp _)) k r hr
   ·exact .no
 | uY x off agg=>exact .ev fun _=>.agg fun _=>.bd fun _=>.ret _ (hp _)
 | ar x off=>exact .ev fun _=>.ptr fun _ _=>.ret _ (hp _)
 | aB x i z=>exact .ev fun _=>.ev fun _=>.nat fun _=>.sl fun _ _ _ _ _=>.cond (.ret _ (hp _)) .no
 | kl x i n z=>exact .ev fun _=>.ev fun _=>.nat fun _=>.ptr fun _ _=>.cond (.ret _ (hp _)) .no
 | ix x i n z agg=>exact .ev fun _=>.ev fun _=>.nat fun _=>.agg fun _=>.cond (.bd fun _=>.ret _ (hp _)) .no
 | bin op t x y=>
  exact .ev fun u=>.ev fun v=>by
   unfold eE
   cases vg op u v with
   | none=>exact .bd fun _=>.ret _ (hp _)
   | some x=>exact .ret _ (hp _)
 | un op x=>exact .ev fun _=>.bd fun _=>.ret _ (hp _)
 | vT s d x=>exact .ev fun _=>.bd fun _=>.ret _ (hp _)
 | nR mn xs=>exact .tO fun _=>.bd fun _=>.ret _ (hp _)
 | GF t x i=>exact .ev fun _=>.ev fun _=>.bd fun _=>.ret _ (hp _)
 | BC t x lo hi=>exact .ev fun _=>.BC fun _=>.BC fun _=>.bd fun _=>.ret _ (hp _)
 | dP neg kd x y=>exact .ev fun _=>.ev fun _=>.bd fun _=>.bd fun _=>.cond (.ret _ (hp _)) .no
 | fR zero parts=>exact .parts fun _=>.bd fun _=>.ret _ (hp _)
 | yW fn first cap=>exact .tO fun _=>.tO fun _=>.ret _ (hp _)
 | uZ t x=>exact .ev fun _=>.ret _ (hp _)
 | BD x t zero ok=>
  exact .ev fun v=>by
   unfold KQ
   split
   ·exact .cond (.ret _ (hp _)) .no
   ·exact .cond (.ret _ (hp _)) (.cond (.ret _ (hp _)) .no)
   ·exact .no
 | ah x agg=>exact .ev fun _=>.ptr fun _ _=>.cA fun _=>.bd fun _=>.ret _ (hp _)
 | len x=>exact .ev fun v=>by unfold Hg;split<;>first|exact .ret _ (hp _)|exact .no
 | Bn x=>
  exact .ev fun v=>by
   unfold xi
   split
   ·exact .ret _ (hp _)
   ·exact .E0 fun _ _=>.ret _ (hp _)
   ·exact .no
 | Dc x=>exact .ev fun v=>by unfold Hh;split<;>first|exact .ret _ (hp _)|exact .no
 | cap x=>
  exact .ev fun v=>by
   unfold yY
   split
   ·exact .ret _ (hp _)
   ·exact .cond (.ret _ (hp _)) (.ret _ (hp _))
   ·exact .no
 | u0 x lo hi mx z=>
  exact .ev fun v=>by
   unfold xj
   split
   ·exact .opt fun _=>.opt fun _=>.cond (.ret _ (hp _)) .no
   ·exact .opt fun _=>.opt fun _=>.cond (.ret _ (hp _)) .no
   ·exact .opt fun _=>.opt fun _=>.cond (HT hp) .no
   ·exact .no
 | G8 x lo hi n z=>exact .ev fun _=>.ptr fun _ _=>.opt fun _=>.opt fun _=>.cond (.ret _ (hp _)) .no
 | nr x key kt zero ok=>
  exact .ev fun m=>.ev fun key=>by
   unfold vj
   split
   ·exact .cond (.bd fun _=>.ret _ (hp _)) .no
   ·exact .E0 fun _ _=>.bd fun i=>.oi (.ret _ (hp _)) fun _=>.bd fun _=>.ret _ (hp _)
   ·exact .no
 | _=>exact .no
theorem a6 (a:bG Od):VS fun k=>dv a P T L H k:=(BY (p:=fun _=>True) (fun _=>trivial) a).Rk
abbrev VT:=Value×Heap×Nat
def uk (k:VT→R0):KA:=fun v H nx=>k (v,H,nx)
def up (nx:Nat) (x:VT):Prop:=nx≤x.2.2
theorem bJ (f:LK) (h:VS fun k=>f P T L H k):bE (up nx) fun k=>dQ f P T L H nx (uk k):=by
 intro k r hr
 obtain ⟨x,h1,h2⟩:=h _ r hr
 exact ⟨(x,H,nx),h1,fun k'=>h2 _,Nat.le_refl _⟩
theorem kD {v:Value} {cs:List Value}:bE (up nx) fun k=>fresh H nx v (uk k) cs:=.set fun _=>.ret _ (Nat.le_succ _)
theorem mq {b:Nat} {v:Value} {cs:List Value}:bE (up nx) fun k=>lR H nx b v (uk k) cs:=.set fun _=>.ret _ (Nat.le_refl _)
theorem lx {z bytes len n:Nat} {old new:List Value}:bE (up nx) fun k=>eF z bytes H nx (uk k) len n old new:=.cond kD .no
theorem DC {X:Type} {p:X→Prop} {z:Nat} {v:Value} {F:Nat→List Value→(X→R0)→R0} (h:∀a b,bE p (F a b)):bE p fun k=>iJ H z (fun a b=>F a b k) v:=by
 unfold iJ
 split
 ·exact h _ _
 ·exact h _ _
 ·exact .cond (.cond (h _ _) (.cA fun _=>.bd fun _=>h _ _)) .no
 ·exact .no
theorem BZ {p:VT→Prop} {v:Value} {F:List Value→(VT→R0)→R0} (h:∀l,bE p (F l)):∀(l:List Value) (o:Nat) (G:List Value→List Value),bE p fun k=>s9 l o v fun l=>F (G l) k:=by
 intro l
 induction l with
 | nil=>intro o G;exact .no
 | cons c l ih=>
  intro o G
  cases o with
  | zero=>exact h _
  | succ o=>exact ih o fun l=>G (c::l)
theorem zM {z bytes n:Nat} {s:Value} {new:List Value}:bE (up nx) fun k=>p9 z bytes H nx (uk k) s n new:=by
 unfold p9
 split
 ·exact .cond (.ret _ (Nat.le_refl _)) (.cond lx .no)
 ·exact .cond (.cond (.ret _ (Nat.le_refl _)) (.cond (.cells fun _=>.bd fun _=>mq) (.cells fun _=>.bd fun _=>.cond lx (.set fun _=>lx)))) .no
 ·exact .no
theorem iW (a:bG Od):bE (up nx) fun k=>cm a P T L H nx (uk k):=by
 cases a with
 | box x=>exact .ev fun _=>kD
 | eX zero=>exact kD
 | jF z bytes zero l c=>exact .ev fun _=>.nat fun _=>.ev fun _=>.nat fun _=>.cond kD .no
 | gz z len zero parts=>exact .parts fun _=>.bd fun _=>.cond kD .no
 | Bo x=>exact .opt (d:=0) (F:=fun _ k=>dx (at_ nx) H (some (gT.map [] 0)) fun H=>k (Value.map (some nx),H,Nat.succ nx)) fun _=>.set fun _=>.ret _ (Nat.le_succ _)
 | a8 x v n=>
  exact .ev fun _=>.ev fun v=>.ptr fun b o=>.cond (.cells fun old=>by
   unfold KS
   cases cellsOf v with
   | nil=>exact .no
   | cons c r=>
    cases r with
    | nil=>exact BZ (F:=fun l k=>lR H nx b undef (uk k) l) (fun l=>mq) old o id
    | cons c2 r=>exact .bd fun _=>mq) .no
 | app z bytes zero s x eN=>
  exact .ev fun s=>.ev fun x=>by
   unfold xk
   cases eN with
   | true=>exact .nat fun n=>.cond zM .no
   | false=>exact DC (F:=fun n cs k=>p9 z bytes H nx (uk k) s n cs) fun _ _=>zM
 | Ku x zero=>
  exact .ev fun x=>by
   unfold KU
   split
   ·exact .ret _ (Nat.le_refl _)
   ·exact .cond (.ret _ (Nat.le_refl _)) (.cond (.cells fun _=>.bd fun _=>mq) .no)
   ·exact .no
 | KM z d s=>
  exact .ev fun d=>.ev fun s=>DC fun n cs=>by
   unfold KT
   split
   ·exact .ret _ (Nat.le_refl _)
   ·exact .sl fun _ _ _ _ _=>.cond (.cond (.ret _ (Nat.le_refl _)) (.bd fun _=>.cond (.cells fun _=>.bd fun _=>mq) .no)) .no
 | G9 m key v kt=>exact .ev fun _=>.ev fun _=>.ev fun _=>.map fun _ _ _=>.bd fun i=>.oi (.set fun _=>.ret _ (Nat.le_refl _)) fun _=>.set fun _=>.ret _ (Nat.le_refl _)
 | Dd m key kt zero=>exact .ev fun _=>.ev fun _=>.map fun _ _ _=>.bd fun i=>.oi (.set fun _=>.ret _ (Nat.le_refl _)) fun _=>.bd fun _=>.ret _ (Nat.le_refl _)
 | De m s v=>exact .ev fun _=>.ev fun _=>.nat fun _=>.ev fun _=>.map fun _ _ _=>.bd fun i=>.set fun _=>.ret _ (Nat.le_refl _)
 | ins z bytes s i v=>
  refine .ev fun _=>.ev fun _=>.i64 fun i=>.ev fun _=>.sl fun b o z1 len c=>.sl fun b2 o2 z2 m c2=>?_
  unfold Hi
  exact .cond (.cells fun _=>.cells fun _=>.bd fun _=>.bd fun _=>.bd fun _=>.cond (.set fun _=>lx) .no) .no
 | call f args=>exact .no
 | inv x name args=>exact .no
 | oF f args=>exact .no
 | nI x=>exact .no
 | vU=>exact .no
 | vV x=>
  exact .ev fun m=>by
   unfold KW
   split
   ·exact .set fun _=>.ret _ (Nat.le_succ _)
   ·exact .E0 fun _ _=>.set fun _=>.ret _ (Nat.le_succ _)
   ·exact .no
 | nxt x=>
  exact .ev fun v=>.ptr fun r o=>.cond (.iter fun m since seen last=>by
   cases m with
   | none=>exact .ret _ (Nat.le_refl _)
   | some b=>exact .E0 fun es c=>.cond .no (by
     cases ta es seen with
     | nil=>exact .ret _ (Nat.le_refl _)
     | cons e l=>
      cases l with
      | nil=>exact .cond (.set fun _=>.ret _ (Nat.le_refl _)) .no
      | cons e2 l=>exact .no)) .no
 | KN x=>
  exact .ev fun v=>.ptr fun r o=>.cond (.iter fun m since seen last=>by
   cases m with
   | none=>exact .no
   | some b=>exact .bd fun _=>.E0 fun es c=>.cond (.bd fun _=>.ret _ (Nat.le_refl _)) .no) .no
 | ae x=>exact bJ _ (a6 (.ae x))
 | pick c x y=>exact bJ _ (a6 (.pick c x y))
 | aj x=>exact bJ _ (a6 (.aj x))
 | ext x i=>exact bJ _ (a6 (.ext x i))
 | uY x off agg=>exact bJ _ (a6 (.uY x off agg))
 | ar x off=>exact bJ _ (a6 (.ar x off))
 | aB x i z=>exact bJ _ (a6 (.aB x i z))
 | kl x i n z=>exact bJ _ (a6 (.kl x i n z))
 | ix x i n z agg=>exact bJ _ (a6 (.ix x i n z agg))
 | bin op t x y=>exact bJ _ (a6 (.bin op t x y))
 | un op x=>exact bJ _ (a6 (.un op x))
 | vT s d x=>exact bJ _ (a6 (.vT s d x))
 | nR mn xs=>exact bJ _ (a6 (.nR mn xs))
 | GF t x i=>exact bJ _ (a6 (.GF t x i))
 | BC t x lo hi=>exact bJ _ (a6 (.BC t x lo hi))
 | dP neg kd x y=>exact bJ _ (a6 (.dP neg kd x y))
 | fR zero parts=>exact bJ _ (a6 (.fR zero parts))
 | yW fn first cap=>exact bJ _ (a6 (.yW fn first cap))
 | uZ t x=>exact bJ _ (a6 (.uZ t x))
 | BD x t zero ok=>exact bJ _ (a6 (.BD x t zero ok))
 | ah x agg=>exact bJ _ (a6 (.ah x agg))
 | len x=>exact bJ _ (a6 (.len x))
 | Bn x=>exact bJ _ (a6 (.Bn x))
 | Dc x=>exact bJ _ (a6 (.Dc x))
 | cap x=>exact bJ _ (a6 (.cap x))
 | u0 x lo hi mx z=>exact bJ _ (a6 (.u0 x lo hi mx z))
 | G8 x lo hi n z=>exact bJ _ (a6 (.G8 x lo hi n z))
 | nr x key kt zero ok=>exact bJ _ (a6 (.nr x key kt zero ok))
theorem pe (a:bG Od):VS fun k=>cm a P T L H nx (uk k):=(iW a).Rk
theorem VU {a:bG Od} {v:Value} {H':Heap} {nx':Nat} (h:∀k,cm a P T L H nx k=k v H' nx'):nx≤nx':=by
 obtain ⟨x,h1,_,h3⟩:=iW (P:=P) (T:=T) (L:=L) (H:=H) (nx:=nx) a (fun x=>some (.normal,⟨.e,[],.e,x.2.2⟩)) (.normal,⟨.e,[],.e,nx'⟩) (h _)
 simp only [Option.some.injEq,Prod.mk.injEq,St.mk.injEq,true_and] at h1
 rw [← h1]
 exact h3
end Go.Eng

namespace Go.Eng
abbrev lW:=Nat→Value
def lW.set (σ:lW) (d:Option Nat) (v:Value):lW:=match d with
 | none=>σ
 | some d=>fun t=>if t=d then v else σ t
def qy (σ:lW):Operand→Value
 | .tmp t=>σ t
 | .const v=>v
 | .func f=>.func (.func f) #[] #[]
 | .global _=>undef
structure e7 (kept:List Nat) (σ:lW) (env:Env) (T:Tr Value) (L:List Value):Prop where
 env:∀t od,(t,od)∈env→(g8 T L od).getD undef=σ t
 kept:∀t,dB kept t=true→(ao T (b7 t)).getD undef=σ t
theorem pf:∀{env:Env} {t:Nat} {x:Od},find env t=some x→(t,x)∈env:=by
 intro env
 induction env with
 | nil=>intro t x hx;cases hx
 | cons y env ih=>
  intro t x hx
  obtain ⟨a,b⟩:=y
  unfold find at hx
  cases hb:Nat.beq a t with
  | true=>
   rw [hb] at hx;cases hx
   have:=Nat.eq_of_beq_eq_true hb
   subst this
   exact List.mem_cons_self
  | false=>rw [hb] at hx;exact List.mem_cons_of_mem _ (ih hx)
variable {P:Program} {ins kept:List Nat} {n:Nat} {A:aG} {rn:jg} {σ:lW} {T:Tr Value} {L:List Value} {D:List eT} {H:Heap} {nx:Nat} {env:Env} {ops:List Oper}
theorem e7.xF (h:e7 kept σ env T L) {t:Nat} {od:Od} (hf:find env t=some od):(g8 T L od).getD undef=σ t:=h.env t od (pf hf)
theorem Tf (h:e7 kept σ env T L) {x:Operand} {od:Od} (hc:cv kept n env x=some od):(g8 T L od).getD undef=qy σ x:=by
 cases x with
 | tmp t=>
  simp only [cv] at hc
  cases hb:Nat.blt t n with
  | false=>rw [hb] at hc;cases hc
  | true=>
   rw [hb] at hc
   simp only [cond_true] at hc
   cases hf:find env t with
   | some y=>rw [hf] at hc;cases hc;exact h.xF hf
   | none=>
    rw [hf] at hc
    cases hk:dB kept t with
    | false=>rw [hk] at hc;cases hc
    | true=>rw [hk] at hc;cases hc;exact h.kept t hk
 | const v=>
  simp only [cv] at hc
  cases hk:iK v with
  | false=>rw [hk] at hc;cases hc
  | true=>rw [hk] at hc;cases hc;rfl
 | func f=>cases hc;rfl
 | global g=>cases hc
theorem map_congr {α β:Type} {f g:α→β} {a:bG α} (h:a.all fun x=>f x=g x):a.map f=a.map g:=by
 have hl:∀l:List α,(∀x∈l,f x=g x)→l.map f=l.map g:=fun l h=>List.map_congr_left h
 have ho:∀o:Option α,(∀x∈o,f x=g x)→o.map f=o.map g:=by
  intro o h
  cases o with
  | none=>rfl
  | some x=>rw [Option.map_some,Option.map_some,h x rfl]
 have hp:∀l:List (Nat×Nat×α),(∀x∈l,f x.2.2=g x.2.2)→(l.map fun x=>(x.1,x.2.1,f x.2.2))=l.map fun x=>(x.1,x.2.1,g x.2.2):=fun l h=>List.map_congr_left fun x hx=>by rw [h x hx]
 cases a<;>simp only [bG.all,bG.map] at h ⊢<;>first|rfl|skip
 all_goals grind
theorem HU {a:bG Operand} {b:bG Od} (h:a.fE (cv kept n env)=some b) (he:e7 kept σ env T L):b.map (gH T L)=a.map (Av (qy σ)):=by
 rw [zI h]
 obtain ⟨_,h2⟩:=g9 (.loc 0) h
 refine map_congr (kA (fun x hx=>?_) h2)
 obtain ⟨y,hy⟩:=hx
 show Od.aF ((g8 T L ((cv kept n env x).getD (.loc 0))).getD undef)=Od.aF (qy σ x)
 rw [hy,Option.getD_some,Tf he hy]
end Go.Eng

namespace Go.Eng
variable {P:Program} {ins kept:List Nat} {n:Nat} {A:aG} {rn:jg} {σ:lW} {T:Tr Value} {L:List Value} {D:List eT} {H:Heap} {nx:Nat} {env:Env} {ops:List Oper}
theorem m4 {env:Env} {t:Nat} {od:Od}:(t,od)∈cM env↔∃x,(t,x)∈env∧od=shift x:=by
 unfold cM
 rw [List.mem_map]
 constructor
 ·rintro ⟨⟨u,x⟩,h,e⟩
  cases e
  exact ⟨x,h,rfl⟩
 ·rintro ⟨x,h,rfl⟩
  exact ⟨(t,x),h,rfl⟩
theorem eC {env:Env} {d t:Nat} {od:Od}:(t,od)∈eZ env d↔(t,od)∈env∧t≠d:=by
 unfold eZ
 rw [List.mem_filter]
 constructor
 ·rintro ⟨h,e⟩
  refine ⟨h,fun e'=>?_⟩
  subst e'
  simp at e
 ·rintro ⟨h,e⟩
  refine ⟨h,?_⟩
  simp only [Bool.not_eq_true']
  cases hb:Nat.beq t d with
  | false=>rfl
  | true=>exact absurd (Nat.eq_of_beq_eq_true hb) e
theorem e7.shift (h:e7 kept σ env T L) (v:Value):e7 kept σ (cM env) T (v::L):=by
 refine ⟨fun t od ht=>?_,h.kept⟩
 obtain ⟨x,hx,rfl⟩:=m4.1 ht
 rw [tJ]
 exact h.env t x hx
theorem e7.put {v:Value} {d:Nat} {keep:Option (List Bool)} {T':Tr Value} (h:e7 kept σ env T L)
  (hT:(keep=none∧T'=T∧dB kept d=false)∨(∃p,keep=some p∧p=b7 d∧T'=bB p T (some v)∧(cM env).any (fun e=>isVar p e.2)=false)) :
  e7 kept (σ.set (some d) v) ((d,.loc 0)::eZ (cM env) d) T' (v::L):=by
 refine ⟨fun t od ht=>?_,fun t ht=>?_⟩
 ·rcases List.mem_cons.1 ht with e|hm
  ·cases e
   show v=if d=d then v else σ d
   rw [if_pos rfl]
  ·obtain ⟨hm,cG⟩:=eC.1 hm
   have hs:lW.set σ (some d) v t=σ t:=if_neg cG
   rw [hs,← (h.shift v).env t od hm]
   rcases hT with ⟨_,rfl,_⟩|⟨p,_,_,rfl,vE⟩
   ·rfl
   ·cases od with
    | var q=>
     have hq:q≠p:=by
      intro e;subst e
      exact List.any_eq_false.1 vE _ hm (qv.2 rfl)
     show (ao (bB p T (some v)) q).getD undef=(ao T q).getD undef
     rw [aR _ _ _ _ hq]
    | _=>rfl
 ·rcases hT with ⟨_,rfl,hk⟩|⟨p,_,rfl,rfl,_⟩
  ·have:t≠d:=by intro e;subst e;rw [hk] at ht;cases ht
   have hs:lW.set σ (some d) v t=σ t:=if_neg this
   rw [hs]
   exact h.kept t ht
  ·by_cases GI:t=d
   ·subst GI
    rw [bp]
    show v=if t=t then v else σ t
    rw [if_pos rfl]
   ·have hs:lW.set σ (some d) v t=σ t:=if_neg GI
    rw [hs,aR _ _ _ _ (by rw [ig,ig];exact fun e=>GI (ea e))]
    exact h.kept t ht
structure ly (s s':Laid):Prop where
 dw:s'.dw=s.dw
 cL:s'.cL=s.cL
 make:s'.make=s.make
 done:s'.done=s.done
theorem E1 {p:List Bool} {rest:List Oper}:∀(l:Env) (s:Laid),∃new,(gG p rest l s).out=new.reverse++s.out∧ly s (gG p rest l s)∧
  (∀t od,(t,od)∈(gG p rest l s).env→(∃kn,(t,kn)∈s.env)∨∃kn,(t,kn)∈l)∧
  ∀dn T L D H nx r σ,bz A rn (new++dn) T L D H nx=some r→e7 kept σ s.env T L→(∀t,(t,.var p)∈l→(ao T p).getD undef=σ t)→
   ∃L',bz A rn dn T L' D H nx=some r∧e7 kept σ (gG p rest l s).env T L':=by
 intro l
 induction l with
 | nil=>intro s;exact ⟨[],rfl,⟨rfl,rfl,rfl,rfl⟩,fun t od h=>.inl ⟨od,h⟩,fun dn T L D H nx r σ h he _=>⟨L,h,he⟩⟩
 | cons y l ih=>
  intro s
  obtain ⟨t,x⟩:=y
  unfold gG
  cases hv:isVar p x with
  | false=>
   simp only [cond_false]
   obtain ⟨new,h1,h2,h3,h4⟩:=ih s
   refine ⟨new,h1,h2,fun t od h=>?_,fun dn T L D H nx r σ h he hl=>h4 dn T L D H nx r σ h he fun t ht=>hl t (List.mem_cons_of_mem _ ht)⟩
   rcases h3 t od h with h|⟨kn,h⟩
   ·exact .inl h
   ·exact .inr ⟨kn,List.mem_cons_of_mem _ h⟩
  | true=>
   have hx:=qv.1 hv
   subst hx
   simp only [cond_true]
   cases hr:wa t rest with
   | false=>
    simp only [cond_false]
    obtain ⟨new,h1,h2,h3,h4⟩:=ih { s with env:=eZ s.env t }
    refine ⟨new,h1,⟨h2.dw,h2.cL,h2.make,h2.done⟩,fun t' od h=>?_,fun dn T L D H nx r σ h he hl=>h4 dn T L D H nx r σ h ⟨fun u od hu=>he.env u od (eC.1 hu).1,he.kept⟩ fun t ht=>hl t (List.mem_cons_of_mem _ ht)⟩
    rcases h3 t' od h with ⟨kn,h⟩|⟨kn,h⟩
    ·exact .inl ⟨kn,(eC.1 h).1⟩
    ·exact .inr ⟨kn,List.mem_cons_of_mem _ h⟩
   | true=>
    simp only [cond_true]
    obtain ⟨new,h1,h2,h3,h4⟩:=ih { s with env:=(t,.loc 0)::eZ (cM s.env) t,out:=(⟨none,none,.ae (.var p)⟩,[])::s.out }
    refine ⟨(⟨none,none,.ae (.var p)⟩,[])::new,?_,⟨h2.dw,h2.cL,h2.make,h2.done⟩,fun t' od h=>?_,fun dn T L D H nx r σ h he hl=>?_⟩
    ·rw [h1]
     simp
    ·rcases h3 t' od h with ⟨kn,h⟩|⟨kn,h⟩
     ·rcases List.mem_cons.1 h with e|h
      ·cases e
       exact .inr ⟨.var p,List.mem_cons_self⟩
      ·obtain ⟨x,hx,_⟩:=m4.1 (eC.1 h).1
       exact .inl ⟨x,hx⟩
     ·exact .inr ⟨kn,List.mem_cons_of_mem _ h⟩
    ·have h':a5 T L (.var p) (fun v=>br A.P none [] (bz A rn (new++dn)) T L D v H nx)=some r:=h
     rw [cj] at h'
     obtain ⟨v,hv,h5⟩:=aO h'
     rw [hJ] at h5
     have hvt:v=σ t:=by
      have:=hl t List.mem_cons_self
      have jS:ao T p=some v:=hv
      rw [jS] at this
      exact this
     refine h4 dn T (v::L) D H nx r σ h5 ⟨fun u od hu=>?_,he.kept⟩ fun t ht=>hl t (List.mem_cons_of_mem _ ht)
     rcases List.mem_cons.1 hu with e|hu
     ·cases e
      exact hvt
     ·exact (he.shift v).env u od (eC.1 hu).1
end Go.Eng

namespace Go.Eng
variable {P:Program} {ins kept:List Nat} {n:Nat} {A:aG} {rn:jg} {σ:lW} {T:Tr Value} {L:List Value} {D:List eT} {H:Heap} {nx:Nat} {env:Env} {ops:List Oper}
theorem Lh {b:bG Od} {p:Option (List Bool)} {ag:List bL} {k:RL} {r:Ex×St} (h:pX b A rn p ag k b T L D H nx=some r) :
  (∃v D' H' nx',(∀p' jX k',pX b A rn p' jX k' b T L D H nx=br A.P p' jX k' T L D' v H' nx')∧br A.P p ag k T L D' v H' nx'=some r∧(b.plain=true→D'=D))∨
  (∃ch H' nx',r=(.panic ch,⟨T,D,H',nx'⟩)∧∀p' jX k',pX b A rn p' jX k' b T L D H nx=some r):=by
 have M4:∀(o:Option df),bd o (dA A.P p ag k T L D)=some r→
   (∃v D' H' nx',(∀p' jX k',bd o (dA A.P p' jX k' T L D)=br A.P p' jX k' T L D' v H' nx')∧br A.P p ag k T L D' v H' nx'=some r)∨
   (∃ch H' nx',r=(.panic ch,⟨T,D,H',nx'⟩)∧∀p' jX k',bd o (dA A.P p' jX k' T L D)=some r):=by
  intro o ho
  obtain ⟨c,rfl,h1⟩:=aO ho
  cases c with
  | ok v H' nx'=>exact .inl ⟨v,D,H',nx',fun _ _ _=>rfl,h1⟩
  | nI ch H' nx'=>
   have h2:some (Ex.panic ch,(⟨T,D,H',nx'⟩:St))=some r:=h1
   cases h2
   exact .inr ⟨ch,H',nx',rfl,fun _ _ _=>rfl⟩
 by_cases hp:b.plain=true
 ·rw [iV hp] at h ⊢
  have h':cm b A.P T L H nx (uk fun x=>br A.P p ag k T L D x.1 x.2.1 x.2.2)=some r:=h
  obtain ⟨x,h1,h2⟩:=pe b _ r h'
  exact .inl ⟨x.1,D,x.2.1,x.2.2,fun p' jX k'=>h2 fun x=>br A.P p' jX k' T L D x.1 x.2.1 x.2.2,h1,fun _=>rfl⟩
 ·cases b with
  | call f args=>
   have h':a5 T L f (fun f=>cS T L args fun vs=>ft vs (fun g vs=>bd (rn.call g vs H nx) (dA A.P p ag k T L D)) f)=some r:=h
   rw [cj] at h'
   obtain ⟨fv,DB,h1⟩:=aO h'
   rw [dR] at h1
   obtain ⟨vs,lh,h2⟩:=aO h1
   have e:∀p' jX k',pX (.call f args) A rn p' jX k' (.call f args) T L D H nx=ft vs (fun g vs=>bd (rn.call g vs H nx) (dA A.P p' jX k' T L D)) fv:=by
    intro p' jX k'
    show a5 T L f (fun f=>cS T L args fun vs=>ft vs (fun g vs=>bd (rn.call g vs H nx) (dA A.P p' jX k' T L D)) f)=_
    rw [cj,DB]
    show cS T L args _=_
    rw [dR,lh]
    rfl
   unfold ft at h2
   split at h2
   ·rcases M4 _ h2 with ⟨v,D',H',nx',g1,g2⟩|⟨ch,H',nx',g1,g2⟩
    ·exact .inl ⟨v,D',H',nx',fun p' jX k'=>(e p' jX k').trans (g1 p' jX k'),g2,fun jG=>absurd jG hp⟩
    ·exact .inr ⟨ch,H',nx',g1,fun p' jX k'=>(e p' jX k').trans (g2 p' jX k')⟩
   ·cases h2
  | inv x name args=>
   have h':a5 T L x (fun x=>cS T L args fun vs=>nt A.P name H (fun g v=>bd (rn.call g (v::vs) H nx) (dA A.P p ag k T L D)) x)=some r:=h
   rw [cj] at h'
   obtain ⟨fv,DB,h1⟩:=aO h'
   rw [dR] at h1
   obtain ⟨vs,lh,h2⟩:=aO h1
   have e:∀p' jX k',pX (.inv x name args) A rn p' jX k' (.inv x name args) T L D H nx=nt A.P name H (fun g v=>bd (rn.call g (v::vs) H nx) (dA A.P p' jX k' T L D)) fv:=by
    intro p' jX k'
    show a5 T L x (fun x=>cS T L args fun vs=>nt A.P name H (fun g v=>bd (rn.call g (v::vs) H nx) (dA A.P p' jX k' T L D)) x)=_
    rw [cj,DB]
    show cS T L args _=_
    rw [dR,lh]
    rfl
   have hd:bE (fun _=>True) fun k':FuncId×Value→R0=>nt A.P name H (fun g v=>k' (g,v)) fv:=by
    unfold nt
    split
    ·refine .bd fun m=>?_
     unfold yZ
     cases m.2 with
     | none=>exact .ret _ trivial
     | some agg=>exact .ptr fun _ _=>.cA fun _=>.bd fun _=>.ret _ trivial
    ·exact .no
   obtain ⟨y,g1,g2⟩:=hd.Rk (fun y=>bd (rn.call y.1 (y.2::vs) H nx) (dA A.P p ag k T L D)) r h2
   have e2:∀p' jX k',pX (.inv x name args) A rn p' jX k' (.inv x name args) T L D H nx=bd (rn.call y.1 (y.2::vs) H nx) (dA A.P p' jX k' T L D):=fun p' jX k'=>
    (e p' jX k').trans (g2 fun y=>bd (rn.call y.1 (y.2::vs) H nx) (dA A.P p' jX k' T L D))
   rcases M4 _ g1 with ⟨v,D',H',nx',q1,q2⟩|⟨ch,H',nx',q1,q2⟩
   ·exact .inl ⟨v,D',H',nx',fun p' jX k'=>(e2 p' jX k').trans (q1 p' jX k'),q2,fun jG=>absurd jG hp⟩
   ·exact .inr ⟨ch,H',nx',q1,fun p' jX k'=>(e2 p' jX k').trans (q2 p' jX k')⟩
  | oF f args=>
   have h':a5 T L f (fun f=>cS T L args fun vs=>qa f (br A.P p ag k T L ((f,vs)::D) undef H nx))=some r:=h
   rw [cj] at h'
   obtain ⟨fv,DB,h1⟩:=aO h'
   rw [dR] at h1
   obtain ⟨vs,lh,h2⟩:=aO h1
   refine .inl ⟨undef,(fv,vs)::D,H,nx,fun p' jX k'=>?_,?_,fun jG=>absurd jG hp⟩
   ·show a5 T L f (fun f=>cS T L args fun vs=>qa f (br A.P p' jX k' T L ((f,vs)::D) undef H nx))=_
    rw [cj,DB]
    show cS T L args _=_
    rw [dR,lh]
    show qa fv _=_
    unfold qa at h2 ⊢
    split at h2
    ·rfl
    ·cases h2
   ·unfold qa at h2
    split at h2
    ·exact h2
    ·cases h2
  | nI x=>
   have h':a5 T L x (y0 T D H nx)=some r:=h
   rw [cj] at h'
   obtain ⟨v,hv,h1⟩:=aO h'
   have oI:=h1
   unfold y0 at h1
   split at h1
   ·cases h1
    refine .inr ⟨_,_,_,rfl,fun p' jX k'=>?_⟩
    show a5 T L x (y0 T D H nx)=_
    rw [cj,hv]
    exact oI
   ·cases h1
  | vU=>cases h
  | ins z bytes s i v=>
   have h':cm (.ins z bytes s i v) A.P T L H nx (uk fun x=>br A.P p ag k T L D x.1 x.2.1 x.2.2)=some r:=h
   obtain ⟨x,h1,h2⟩:=pe _ _ r h'
   exact .inl ⟨x.1,D,x.2.1,x.2.2,fun p' jX k'=>h2 fun x=>br A.P p' jX k' T L D x.1 x.2.1 x.2.2,h1,fun _=>rfl⟩
  | _=>exact absurd rfl hp
end Go.Eng

namespace Go.Eng
variable {P:Program} {ins kept:List Nat} {n:Nat} {A:aG} {rn:jg} {σ:lW} {T:Tr Value} {L:List Value} {D:List eT} {H:Heap} {nx:Nat} {env:Env} {ops:List Oper}
def iG (ops:List Oper) (σ:lW) (g:Option (Nat×Bool)):Bool:=match g with
 | none=>true
 | some (j,w)=>match (ops[j]?).bind (·.dst) with
  | some t=>nL w (σ t)
  | none=>false
theorem xG {c:Option (Nat×Bool)} {g:Option (Nat×Bool)} (h:gY ops env c=some g) (he:e7 kept σ env T L):wanted L g=iG ops σ c:=by
 cases c with
 | none=>cases h;rfl
 | some p=>
  obtain ⟨j,want⟩:=p
  simp only [gY] at h
  cases hj:ops[j]? with
  | none=>rw [hj] at h;cases h
  | some q=>
   rw [hj] at h
   simp only at h
   cases hd:q.dst with
   | none=>rw [hd] at h;cases h
   | some t=>
    rw [hd] at h
    simp only at h
    cases hf:find env t with
    | none=>rw [hf] at h;cases h
    | some x=>
     rw [hf] at h
     simp only [Option.map_eq_some_iff] at h
     obtain ⟨d,hx,rfl⟩:=h
     have rY:x=.loc d:=by cases x<;>simp [y3] at hx;rw [hx]
     subst rY
     have hv:=he.xF hf
     have hs:iG ops σ (some (j,want))=nL want (σ t):=by simp only [iG,hj,Option.bind_some,hd]
     rw [hs,← hv]
     show vY want (BE L d)=nL want ((L[d]?).getD undef)
     rw [oQ]
     cases L[d]?<;>rfl
def p6:KV:=fun v=>some (.normal,⟨.n .e (some v) .e,[],.e,0⟩)
theorem HV {a:bG Operand} {b:bG Od} {u:Value} (h:a.fE (cv kept n env)=some b) (he:e7 kept σ env T L) (hl:∀k,dv b P T L H k=k u) :
  ∀T' L' k,dv (a.map (Av (qy σ))) P T' L' H k=k u:=by
 intro T' L' k
 have h1:=bD T' L' (hl p6)
 rw [HU h he] at h1
 obtain ⟨x,g1,g2⟩:=a6 (P:=P) (T:=T') (L:=L') (H:=H) _ _ _ h1
 have:x=u:=by
  have e:p6 x=p6 u:=g1
  unfold p6 at e
  simp only [Option.some.injEq,Prod.mk.injEq,St.mk.injEq,Tr.n.injEq,true_and,and_true] at e
  exact e
 subst this
 exact g2 k
theorem M5 {a:bG Operand} {b:bG Od} {v:Value} {H':Heap} {nx':Nat} (h:a.fE (cv kept n env)=some b) (he:e7 kept σ env T L) (hl:∀k,cm b P T L H nx k=k v H' nx') :
  ∀T' L' k,cm (a.map (Av (qy σ))) P T' L' H nx k=k v H' nx':=by
 intro T' L' k
 have h1:=Dm T' L' (hl fun v H nx=>some (.normal,⟨.n .e (some v) .e,[],H,nx⟩))
 rw [HU h he] at h1
 obtain ⟨x,g1,g2⟩:=pe (P:=P) (T:=T') (L:=L') (H:=H) (nx:=nx) _ (fun x=>some (.normal,⟨.n .e (some x.1) .e,[],x.2.1,x.2.2⟩)) _ h1
 have:x=(v,H',nx'):=by
  obtain ⟨x1,x2,x3⟩:=x
  simp only [Option.some.injEq,Prod.mk.injEq,St.mk.injEq,Tr.n.injEq,true_and,and_true] at g1
  obtain ⟨rfl,rfl,rfl⟩:=g1
  rfl
 subst this
 exact g2 fun x=>k x.1 x.2.1 x.2.2
def qz (P:Program) (ops:List Oper) (eA:List Nat) (done:Nat) (σ:lW) (H:Heap) (j:Nat):Prop:=
 ∃q a t,ops[j]?=some q∧ai P [] q=some a∧q.dst=some t∧jk ops eA done j q=true∧
  (iG ops σ q.guard=true→∃u,(∀T L k,dv (a.map (Av (qy σ))) P T L H k=k u)∧km (σ t) u=true)
theorem ru {X:R0} {r:Ex×St} {a:bL} (h:Hj P T L H a X=some r):X=some r∧(wanted L a.guard=true→∃u u',(∀k,dv a.op P T L H k=k u)∧L[a.d]?=some u'∧km u' u=true):=by
 have h':cond (wanted L a.guard) (dv a.op P T L H fun v=>s7 L a.d fun u=>cond (km u v) X none) X=some r:=h
 cases hw:wanted L a.guard with
 | false=>
  rw [hw] at h'
  exact ⟨h',fun h=>by cases h⟩
 | true=>
  rw [hw] at h'
  obtain ⟨v,q1,q2⟩:=a6 (P:=P) (T:=T) (L:=L) (H:=H) _ _ _ h'
  rw [jR] at q1
  obtain ⟨u,hu,q3⟩:=aO q1
  have q4:cond (km u v) X none=some r:=q3
  cases hv:km u v with
  | false=>rw [hv] at q4;cases q4
  | true=>rw [hv] at q4;exact ⟨q4,fun _=>⟨v,u,q2,hu,hv⟩⟩
theorem HW {eA:List Nat} {done bh:Nat} {X:R0} {r:Ex×St} (he:e7 kept σ env T L):∀{l:List Nat} {as:List bL},lf P kept n ops eA done env bh l=some as→fS P T L H as X=some r→
  X=some r∧∀j∈l,Nat.testBit bh j=false→qz P ops eA done σ H j:=by
 intro l
 induction l with
 | nil=>
  intro as h hk
  cases h
  exact ⟨hk,fun j hj=>by simp at hj⟩
 | cons j l ih=>
  intro as h hk
  unfold lf at h
  cases h0:lf P kept n ops eA done env bh l with
  | none=>rw [h0] at h;cases h
  | some bs=>
   rw [h0] at h
   simp only at h
   cases hb:Nat.testBit bh j with
   | true=>
    rw [hb] at h
    simp only [cond_true,Option.some.injEq] at h
    subst h
    obtain ⟨g1,g2⟩:=ih h0 hk
    refine ⟨g1,fun i hi BQ=>?_⟩
    rcases List.mem_cons.1 hi with rfl|hi
    ·rw [hb] at BQ;cases BQ
    ·exact g2 i hi BQ
   | false=>
    rw [hb] at h
    simp only [cond_false] at h
    cases hq:ops[j]? with
    | none=>rw [hq] at h;cases h
    | some q=>
     rw [hq] at h
     simp only at h
     cases hs:jk ops eA done j q with
     | false=>rw [hs] at h;cases h
     | true=>
      rw [hs] at h
      simp only [Bool.not_true,cond_false] at h
      split at h
      ·rename_i a g d ha hg hd
       simp only [Option.some.injEq] at h
       subst h
       obtain ⟨g1,g2⟩:=ru hk
       obtain ⟨k1,k2⟩:=ih h0 g1
       refine ⟨k1,fun i hi BQ=>?_⟩
       rcases List.mem_cons.1 hi with rfl|hi
       ·obtain ⟨a0,VV,ht⟩:=Option.bind_eq_some_iff.1 ha
        obtain ⟨od,hod,Tg⟩:=Option.bind_eq_some_iff.1 hd
        obtain ⟨t,vG,hf⟩:=Option.bind_eq_some_iff.1 hod
        have rY:od=.loc d:=by cases od<;>simp [y3] at Tg;rw [Tg]
        subst rY
        refine ⟨q,a0,t,hq,VV,vG,hs,fun hw=>?_⟩
        obtain ⟨u,u',p1,p2,p3⟩:=g2 ((xG hg he).trans hw)
        refine ⟨u,HV ht he p1,?_⟩
        have:=he.xF hf
        rw [← this]
        show km ((L[d]?).getD undef) u=true
        have p2':L[d]?=some u':=p2
        rw [p2']
        exact p3
       ·exact k2 i hi BQ
      ·cases h
end Go.Eng

namespace Go.Eng
variable {P:Program} {ins kept:List Nat} {n:Nat} {A:aG} {rn:jg} {σ:lW} {T:Tr Value} {L:List Value} {D:List eT} {H:Heap} {nx:Nat} {env:Env} {ops:List Oper}
inductive Step (A:aG) (rn:jg) (o:Oper) (b:bG Od) (g:Option (Nat×Bool)) (T:Tr Value) (L:List Value) (D:List eT) (H:Heap) (nx:Nat):Value→List eT→Heap→Nat→Prop
 | alias (od:Od) (hb:b=.ae od) (hm:tf o.op=true) (hg:g=none):Step A rn o b g T L D H nx ((g8 T L od).getD undef) D H nx
 | gA (hw:wanted L g=false):Step A rn o b g T L D H nx undef D H nx
 | Rl (hw:wanted L g=true) (v:Value) (D':List eT) (H':Heap) (nx':Nat) (h:∀p ag k,pX b A rn p ag k b T L D H nx=br A.P p ag k T L D' v H' nx') (hd:b.plain=true→D'=D) :
   Step A rn o b g T L D H nx v D' H' nx'
theorem ry {d:Option Nat} {t:Nat} (h:dh kept d=none) (ht:d=some t):dB kept t=false:=by
 subst ht
 cases hk:dB kept t with
 | false=>rfl
 | true=>simp [dh,hk] at h
theorem zN {d:Option Nat} {p:List Bool} (h:dh kept d=some p):∃t,d=some t∧p=b7 t∧dB kept t=true:=by
 cases d with
 | none=>simp [dh] at h
 | some t=>
  cases hk:dB kept t with
  | false=>simp [dh,hk] at h
  | true=>
   simp [dh,hk] at h
   exact ⟨t,rfl,h.symm,hk⟩
def Li (T:Tr Value) (p:Option (List Bool)) (v:Value):Tr Value:=match p with
 | none=>T
 | some p=>bB p T (some v)
theorem gh {p:Option (List Bool)} {v:Value} {k:Tr Value→R0}:Hk T p v k=k (Li T p v):=by
 rw [zH]
 cases p<;>rfl
theorem HX {eA:List Nat} {bm:Nat} {o:Oper} {g:Option (Nat×Bool)} {a:bG Od} {s s1:Laid} (h:emit P kept n ops eA bm o g a s=some s1) :
  ∃as,s1.out=(⟨dh kept o.dst,g,a⟩,as)::s.out∧ly s s1∧(∀t od,(t,od)∈s1.env→some t=o.dst∨∃kn,(t,kn)∈s.env)∧(b6 (bU a)=false→as=[])∧
   ∀dn T L D H nx r σ,A.P=P→bz A rn ((⟨dh kept o.dst,g,a⟩,as)::dn) T L D H nx=some r→e7 kept σ s.env T L→
    (∃v D' H' nx' T',Step A rn o a g T L D H nx v D' H' nx'∧bz A rn dn T' (v::L) D' H' nx'=some r∧e7 kept (σ.set o.dst v) s1.env T' (v::L)∧
     (b6 (bU a)=true→∀j∈s.dw,Nat.testBit bm j=false→qz P ops eA s.done (σ.set o.dst v) H' j))∨
    (wanted L g=true∧∃ch H' nx',r=(.panic ch,⟨T,D,H',nx'⟩)∧∀p ag k,pX a A rn p ag k a T L D H nx=some r):=by
 unfold emit at h
 generalize M6:oP s.env o.dst=Ou at h
 split at h
 ·cases h
 ·rename_i as has
  have kb:∀t od,(t,od)∈Ou→some t=o.dst∨∃kn,(t,kn)∈s.env:=by
   intro t od ht
   subst M6
   cases hd:o.dst with
   | none=>
    rw [hd] at ht
    obtain ⟨x,hx,_⟩:=m4.1 ht
    exact .inr ⟨x,hx⟩
   | some d=>
    rw [hd] at ht
    rcases List.mem_cons.1 ht with e|ht
    ·cases e;exact .inl rfl
    ·obtain ⟨x,hx,_⟩:=m4.1 (eC.1 ht).1
     exact .inr ⟨x,hx⟩
  have Ov:∀(T:Tr Value) (L:List Value) (σ:lW) (v:Value),e7 kept σ s.env T L→(∀p,dh kept o.dst=some p→(cM s.env).any (fun e=>isVar p e.2)=false)→
    e7 kept (σ.set o.dst v) Ou (Li T (dh kept o.dst) v) (v::L):=by
   intro T L σ v he vE
   subst M6
   cases hd:o.dst with
   | none=>
    have:dh kept (none:Option Nat)=none:=rfl
    rw [this]
    exact he.shift v
   | some d=>
    rw [hd] at vE
    cases hk:dh kept (some d) with
    | none=>exact he.put (keep:=none) (.inl ⟨rfl,rfl,ry hk rfl⟩)
    | some p=>
     obtain ⟨t,ht,hp,_⟩:=zN hk
     cases ht
     exact he.put (keep:=some p) (.inr ⟨p,rfl,hp,rfl,vE p hk⟩)
  have tP:s1.env=Ou∧s1.out=(⟨dh kept o.dst,g,a⟩,as)::s.out∧ly s s1∧(∀p,dh kept o.dst=some p→(cM s.env).any (fun e=>isVar p e.2)=false):=by
   split at h
   ·rename_i hk
    cases h
    rw [hk]
    exact ⟨rfl,rfl,⟨rfl,rfl,rfl,rfl⟩,fun p hp=>by cases hp⟩
   ·rename_i p hk
    cases vE:(cM s.env).any (fun e=>isVar p e.2) with
    | true=>rw [vE] at h;cases h
    | false=>
     rw [vE] at h
     cases h
     rw [hk]
     exact ⟨rfl,rfl,⟨rfl,rfl,rfl,rfl⟩,fun q hq=>by cases hq;exact vE⟩
  obtain ⟨e1,e2,e3,e4⟩:=tP
  refine ⟨as,e2,e3,fun t od ht=>kb t od (by rw [← e1];exact ht),fun hh=>by rw [hh] at has;cases has;rfl,fun dn T L D H nx r σ hA hr he=>?_⟩
  have M8:∀v D' H' nx',br A.P (dh kept o.dst) as (bz A rn dn) T L D' v H' nx'=some r→
    ∃T',bz A rn dn T' (v::L) D' H' nx'=some r∧e7 kept (σ.set o.dst v) s1.env T' (v::L)∧(b6 (bU a)=true→∀j∈s.dw,Nat.testBit bm j=false→qz P ops eA s.done (σ.set o.dst v) H' j):=by
   intro v D' H' nx' hc
   unfold br at hc
   rw [gh] at hc
   have hE:=Ov T L σ v he e4
   rw [← e1] at hE
   generalize Li T (dh kept o.dst) v=T' at hE hc
   refine ⟨T',?_⟩
   cases hh:b6 (bU a) with
   | false=>
    rw [hh] at has
    cases has
    exact ⟨hc,hE,fun h=>by cases h⟩
   | true=>
    rw [hh] at has
    rw [hA] at hc
    rw [e1] at hE
    obtain ⟨q1,q2⟩:=HW hE has hc
    exact ⟨q1,by rw [e1];exact hE,fun _=>q2⟩
  have nz:cond (wanted L g) (pX a A rn (dh kept o.dst) as (bz A rn dn) a T L D H nx) (br A.P (dh kept o.dst) as (bz A rn dn) T L D undef H nx)=some r:=hr
  cases hw:wanted L g with
  | false=>
   rw [hw] at nz
   obtain ⟨T',q1,q2,q3⟩:=M8 _ _ _ _ nz
   exact .inl ⟨undef,D,H,nx,T',.gA hw,q1,q2,q3⟩
  | true=>
   rw [hw] at nz
   rcases Lh nz with ⟨v,D',H',nx',g1,g2,g3⟩|⟨ch,H',nx',g1,g2⟩
   ·obtain ⟨T',q1,q2,q3⟩:=M8 _ _ _ _ g2
    exact .inl ⟨v,D',H',nx',T',.Rl hw v D' H' nx' g1 g3,q1,q2,q3⟩
   ·exact .inr ⟨rfl,ch,H',nx',g1,g2⟩
theorem wA {rest:List Oper} {eA:List Nat} {bm:Nat} {tg:Bool} {o:Oper} {s0 s1:Laid} (h:Hn P ins kept n ops rest eA bm tg o s0=some s1) :
  ∃new env a b g,ai P ins o=some a∧a.fE (cv kept n env)=some b∧gY ops env o.guard=some g∧s1.out=new.reverse++s0.out∧ly s0 s1∧
   (∀t od,(t,od)∈env→∃kn,(t,kn)∈s0.env)∧(∀t od,(t,od)∈s1.env→some t=o.dst∨∃kn,(t,kn)∈s0.env)∧
   ∀dn T L D H nx r σ,A.P=P→bz A rn (new++dn) T L D H nx=some r→e7 kept σ s0.env T L→∃L1,e7 kept σ env T L1∧
    ((∃v D' H' nx' T' L',Step A rn o b g T L1 D H nx v D' H' nx'∧bz A rn dn T' L' D' H' nx'=some r∧e7 kept (σ.set o.dst v) s1.env T' L'∧
     (b6 (bU b)=true→∀j∈s0.dw,Nat.testBit bm j=false→qz P ops eA s0.done (σ.set o.dst v) H' j))∨
    (wanted L1 g=true∧∃ch H' nx',r=(.panic ch,⟨T,D,H',nx'⟩)∧∀p ag k,pX b A rn p ag k b T L1 D H nx=some r)):=by
 unfold Hn at h
 simp only at h
 have hs:∃xH s,Dh (o::rest) s0 (dh kept o.dst)=s∧s.out=xH.reverse++s0.out∧ly s0 s∧(∀t od,(t,od)∈s.env→∃kn,(t,kn)∈s0.env)∧
   ∀dn T L D H nx r σ,bz A rn (xH++dn) T L D H nx=some r→e7 kept σ s0.env T L→∃L',bz A rn dn T L' D H nx=some r∧e7 kept σ s.env T L':=by
  cases hk:dh kept o.dst with
  | none=>exact ⟨[],s0,rfl,rfl,⟨rfl,rfl,rfl,rfl⟩,fun t od h=>⟨od,h⟩,fun dn T L D H nx r σ h he=>⟨L,h,he⟩⟩
  | some p=>
   obtain ⟨new,h1,h2,h3,h4⟩:=E1 (A:=A) (rn:=rn) (kept:=kept) (p:=p) (rest:=o::rest) s0.env s0
   refine ⟨new,_,rfl,h1,h2,fun t od h=>(h3 t od h).elim id id,fun dn T L D H nx r σ h he=>h4 dn T L D H nx r σ h he fun t ht=>he.env t _ ht⟩
 obtain ⟨xH,s,VW,lS,bN,kb,fw⟩:=hs
 rw [VW] at h
 split at h
 ·rename_i b g hb hg
  obtain ⟨a,ha,ht⟩:=Option.bind_eq_some_iff.1 hb
  have M9:emit P kept n ops eA bm o g b s=some s1→∃new env a b g,ai P ins o=some a∧a.fE (cv kept n env)=some b∧gY ops env o.guard=some g∧s1.out=new.reverse++s0.out∧ly s0 s1∧
   (∀t od,(t,od)∈env→∃kn,(t,kn)∈s0.env)∧(∀t od,(t,od)∈s1.env→some t=o.dst∨∃kn,(t,kn)∈s0.env)∧
   ∀dn T L D H nx r σ,A.P=P→bz A rn (new++dn) T L D H nx=some r→e7 kept σ s0.env T L→∃L1,e7 kept σ env T L1∧
    ((∃v D' H' nx' T' L',Step A rn o b g T L1 D H nx v D' H' nx'∧bz A rn dn T' L' D' H' nx'=some r∧e7 kept (σ.set o.dst v) s1.env T' L'∧
     (b6 (bU b)=true→∀j∈s0.dw,Nat.testBit bm j=false→qz P ops eA s0.done (σ.set o.dst v) H' j))∨
    (wanted L1 g=true∧∃ch H' nx',r=(.panic ch,⟨T,D,H',nx'⟩)∧∀p ag k,pX b A rn p ag k b T L1 D H nx=some r)):=by
   intro he
   obtain ⟨as,e1,e2,e3,_,e5⟩:=HX (A:=A) (rn:=rn) he
   refine ⟨xH++[(⟨dh kept o.dst,g,b⟩,as)],s.env,a,b,g,ha,ht,hg,?_,⟨e2.dw.trans bN.dw,e2.cL.trans bN.cL,e2.make.trans bN.make,e2.done.trans bN.done⟩,kb,fun t od h=>?_,fun dn T L D H nx r σ hA hr hE=>?_⟩
   ·rw [e1,lS]
    simp
   ·rcases e3 t od h with h|⟨kn,h⟩
    ·exact .inl h
    ·exact .inr (kb t kn h)
   ·rw [List.append_assoc] at hr
    obtain ⟨L1,oV,Rm⟩:=fw _ T L D H nx r σ hr hE
    refine ⟨L1,Rm,?_⟩
    rcases e5 dn T L1 D H nx r σ hA oV Rm with ⟨v,D',H',nx',T',q1,q2,q3,q4⟩|q
    ·refine .inl ⟨v,D',H',nx',T',v::L1,q1,q2,q3,?_⟩
     rw [← bN.dw,← bN.done]
     exact q4
    ·exact .inr q
  split at h
  ·rename_i x t vG
   cases hc:(dh kept (some t)).isNone&&tf o.op&&!tg with
   | false=>rw [hc] at h;exact M9 h
   | true=>
    rw [hc] at h
    simp only [cond_true,Option.some.injEq] at h
    simp only [Bool.and_eq_true,Option.isNone_iff_eq_none] at hc
    obtain ⟨⟨hk,hm⟩,_⟩:=hc
    subst h
    refine ⟨xH,s.env,a,.ae x,none,ha,ht,hg,lS,⟨bN.dw,bN.cL,bN.make,bN.done⟩,kb,fun u od hu=>?_,fun dn T L D H nx r σ hA hr hE=>?_⟩
    ·rcases List.mem_cons.1 hu with e|hu
     ·cases e;exact .inl vG.symm
     ·exact .inr (kb u od (eC.1 hu).1)
    ·obtain ⟨L1,oV,Rm⟩:=fw _ T L D H nx r σ hr hE
     refine ⟨L1,Rm,.inl ⟨(g8 T L1 x).getD undef,D,H,nx,T,L1,.alias x rfl hm rfl,oV,?_,fun hh=>by cases hh⟩⟩
     rw [vG]
     refine ⟨fun u od hu=>?_,fun u hu=>?_⟩
     ·rcases List.mem_cons.1 hu with e|hu
      ·cases e
       show _=if t=t then _ else _
       rw [if_pos rfl]
      ·obtain ⟨hu,cG⟩:=eC.1 hu
       have hs:lW.set σ (some t) ((g8 T L1 x).getD undef) u=σ u:=if_neg cG
       rw [hs]
       exact Rm.env u od hu
     ·have cG:u≠t:=by intro e;subst e;rw [ry hk rfl] at hu;cases hu
      have hs:lW.set σ (some t) ((g8 T L1 x).getD undef) u=σ u:=if_neg cG
      rw [hs]
      exact Rm.kept u hu
  ·exact M9 h
 ·cases h
end Go.Eng

namespace Go.Eng
variable {P:Program} {ins kept:List Nat} {n:Nat} {A:aG} {rn:jg} {σ:lW} {T:Tr Value} {L:List Value} {D:List eT} {H:Heap} {nx:Nat} {env:Env} {ops:List Oper} {ρ:bA}
structure r7 (ρ:bA) (kept:List Nat) (n:Nat) (env:Env) (σ:lW) (tm:Array Value):Prop where
 size:n≤tm.size
 env:∀t od,(t,od)∈env→VR ρ (σ t) (tm.getD t undef)
 kept:∀t,dB kept t=true→VR ρ (σ t) (tm.getD t undef)
theorem hG.of {a:Act} (he:e7 kept σ env T L) (hs:r7 ρ kept n env σ a.tmps):hG ρ kept n env T L a:=
 ⟨hs.size,fun t od ht=>by rw [he.xF ht];exact hs.env t od (pf ht),fun t ht=>by rw [he.kept t ht];exact hs.kept t ht⟩
theorem r7.mono {ρ':bA} {tm:Array Value} (e:Ext ρ ρ') (h:r7 ρ kept n env σ tm):r7 ρ' kept n env σ tm:=
 ⟨h.size,fun t od ht=>(h.env t od ht).mono e,fun t ht=>(h.kept t ht).mono e⟩
theorem r7.less {vH:Env} {tm:Array Value} (h:r7 ρ kept n env σ tm) (hd:∀t od,(t,od)∈vH→∃kn,(t,kn)∈env):r7 ρ kept n vH σ tm:=
 ⟨h.size,fun t od ht=>let ⟨kn,g⟩:=hd t od ht;h.env t kn g,h.kept⟩
theorem tQ {a:Act} {d:Nat} {u:Value} (hd:d < a.tmps.size) (t:Nat):(a.put (some d) u).tmps.getD t undef=if t=d then u else a.tmps.getD t undef:=by
 show (a.tmps.setIfInBounds d u).getD t undef=_
 simp only [Array.getD_eq_getD_getElem?,Array.getElem?_setIfInBounds]
 by_cases ht:d=t
 ·subst ht;simp [hd]
 ·rw [if_neg ht,if_neg (fun e=>ht e.symm)]
theorem r7.put {vH:Env} {a:Act} {dst:Option Nat} {v u:Value} (h:r7 ρ kept n env σ a.tmps) (hv:VR ρ v u) (hd:∀d,dst=some d→d < n) (kb:∀t od,(t,od)∈vH→some t=dst∨∃kn,(t,kn)∈env) :
  r7 ρ kept n vH (σ.set dst v) (a.put dst u).tmps:=by
 cases dst with
 | none=>exact h.less fun t od ht=>(kb t od ht).elim (fun e=>by cases e) id
 | some d=>
  have Ri:d < a.tmps.size:=Nat.lt_of_lt_of_le (hd d rfl) h.size
  have key:∀t,(t≠d→VR ρ (σ t) (a.tmps.getD t undef))→VR ρ (lW.set σ (some d) v t) ((a.put (some d) u).tmps.getD t undef):=by
   intro t ht
   rw [tQ Ri]
   show VR ρ (if t=d then v else σ t) _
   by_cases e:t=d
   ·rw [if_pos e,if_pos e];exact hv
   ·rw [if_neg e,if_neg e];exact ht e
  refine ⟨by show n≤(a.tmps.setIfInBounds d u).size;simpa using h.size,fun t od ht=>key t fun cG=>?_,fun t ht=>key t fun _=>h.kept t ht⟩
  rcases kb t od ht with e|⟨kn,g⟩
  ·cases e;exact absurd rfl cG
  ·exact h.env t kn g
noncomputable def qA:RL:=fun _ L D H nx=>some (.normal,⟨.n .e (vW L) .e,D,H,nx⟩)
theorem zO {v v':Value} {D' Xt:List eT} {H' Xu:Heap} {nx' Ow:Nat} (h:br P none [] qA T L D' v H' nx'=br P none [] qA T L Xt v' Xu Ow):v=v'∧D'=Xt∧H'=Xu∧nx'=Ow:=by
 rw [hJ,hJ] at h
 have h':some (Ex.normal,(⟨.n .e (some v) .e,D',H',nx'⟩:St))=some (Ex.normal,⟨.n .e (some v') .e,Xt,Xu,Ow⟩):=h
 simp only [Option.some.injEq,Prod.mk.injEq,St.mk.injEq,Tr.n.injEq,true_and,and_true] at h'
 exact h'
theorem DE {v:Value} {ch:List PanicEntry} {st:St} (h:br P none [] qA T L D v H nx=some (.panic ch,st)):False:=by
 rw [hJ] at h
 have h':some (Ex.normal,(⟨.n .e (some v) .e,D,H,nx⟩:St))=some (Ex.panic ch,st):=h
 simp at h'
theorem zP {o:Oper} {a:bG Operand} {x:Operand} {c:Act} {w:World} (hm:tf o.op=true) (hc:ai P ins o=some a) (ha:a=.ae x):(execOp c.eval o).run P w=.ok (.value (c.eval x)) w:=by
 subst ha
 cases ho:o.op<;>simp only [ho,tf] at hm<;>first|cases hm|skip
 all_goals
  simp only [ai,ho,Option.some.injEq,bG.ae.injEq] at hc
  subst hc
  simp only [execOp,ho,Sem.run_pure]
theorem zQ {α β:Type} {c:α→Option β} {a:bG α} {y:β} (h:a.fE c=some (.ae y)):∃x,a=.ae x∧c x=some y:=by
 cases a with
 | ae x=>
  simp only [bG.fE] at h
  split at h
  ·rename_i z hz
   cases h
   exact ⟨x,rfl,hz⟩
  ·cases h
 | _=>
  exfalso
  simp only [bG.fE] at h
  repeat' split at h
  all_goals cases h
theorem zR {o:Oper} {a:bG Operand} {b:bG Od} {g:Option (Nat×Bool)} {c:Act} {w:World} {v:Value} {D':List eT} {H':Heap} {nx':Nat} {next:Act→World→Prop} {Q:Exit→Act→World→Prop}
  (hA:A.P=P) (cW:fG P rn) (pd:nH P ins) (hc:ai P ins o=some a) (ht:a.fE (cv kept n env)=some b) (hg:gY ops env o.guard=some g) (he:hG ρ kept n env T L c) (hD:gB ρ D c.defers) (hH:HR ρ H nx w.heap)
  (hs:Step A rn o b g T L D H nx v D' H' nx')
  (hn:∀(ρ':bA) (u:Value) (w':World) (c':Act),VR ρ' v u→jK ρ H nx w ρ' H' nx' w'→gB ρ' D' c'.defers→c'.tmps=c.tmps→next (c'.put o.dst u) w') :
  (if Region.wanted o (yielded ops.toArray c.tmps) then o.wp P c w next Q∨(o.asks P c w∧LetsOut Q) else next (c.put o.dst undef) w):=by
 rw [tL hg he]
 cases hs with
 | alias od hb hm GJ=>
  rw [hb] at ht
  obtain ⟨x,VX,hx⟩:=zQ ht
  have hw:wanted L g=true:=by rw [GJ];rfl
  rw [if_pos hw]
  refine .inl ?_
  unfold Oper.wp
  rw [zP hm hc VX]
  exact hn ρ _ w c (fi he hx) (.refl hH) hD rfl
 | gA hw=>
  rw [hw,if_neg (by simp)]
  exact hn ρ _ w c VR.undef (.refl hH) hD rfl
 | Rl hw _ _ _ _ h hd=>
  rw [hw,if_pos rfl]
  refine .inl ?_
  unfold Oper.wp
  obtain ⟨r0,oJ⟩:∃r0,br A.P none [] qA T L D' v H' nx'=some r0:=⟨_,hJ.trans rfl⟩
  refine HS (p:=none) (ag:=[]) (k:=qA) hA cW pd hc ht he hD hH ((h none [] qA).trans oJ) ?_ ?_
  ·intro v2 H2 nx2 D2 ρ' u w' c' h1 h2 h3 h4 h5
   obtain ⟨rfl,rfl,rfl,rfl⟩:=zO (h1.trans oJ.symm)
   exact hn ρ' u w' c' h2 h3 h4 h5
  ·intro ch vF ρ' H2 nx2 w' h1
   subst h1
   exact (DE oJ).elim
theorem ek {α:Type} {c:Bool} {x:Option α} {a:α} (h:(bif c then x else none)=some a):c=true∧x=some a:=by
 cases c
 ·cases h
 ·exact ⟨rfl,h⟩
theorem B0 {tg:List Nat} (hA:A.P=P) (cW:fG P rn) (pd:nH P ins):∀(is:List Nat) (s s':Laid),nT P ins kept n false ops [] tg is s=some s'→∃new,s'.out=new.reverse++s.out∧
  ∀T L D H nx r σ,bz A rn new T L D H nx=some r→e7 kept σ s.env T L→∀ρ a w,HR ρ H nx w.heap→r7 ρ kept n s.env σ a.tmps→gB ρ D a.defers→
   ∀Q:Exit→Act→World→Prop,(∀e a' w',kC ρ H nx w kept n r e a' w'→Q e a' w')→wpOps P ops.toArray Q is a w:=by
 intro is
 induction is with
 | nil=>
  intro s s' h
  cases h
  refine ⟨[],rfl,fun T L D H nx r σ hr he ρ a w hH hs hD Q hQ=>?_⟩
  have nz:some (Ex.normal,(⟨T,D,H,nx⟩:St))=some r:=hr
  cases nz
  exact hQ _ _ _ ⟨ρ,.refl hH,⟨.of ⟨fun t od h=>by simp at h,he.kept⟩ ⟨hs.size,fun t od h=>by simp at h,hs.kept⟩,hD⟩,trivial⟩
 | cons i is ih=>
  intro s s' h
  unfold nT at h
  cases ho:ops[i]? with
  | none=>rw [ho] at h;cases h
  | some o=>
   rw [ho] at h
   simp only [cond_false] at h
   split at h
   ·cases h
   ·rename_i s1 aS
    split at h
    ·cases h
    ·rename_i k hk
     obtain ⟨vG,h⟩:=ek h
     have bR:∀d,o.dst=some d→d < n:=by
      intro d hd
      rw [hd] at vG
      have HY:Nat.blt d n=true:=vG
      rwa [Nat.blt_eq] at HY
     obtain ⟨xH,env,a,b,g,hc,ht,hg,lS,bN,kb,HZ,fw⟩:=wA (A:=A) (rn:=rn) aS
     obtain ⟨B1,Ia,rp⟩:=ih _ _ (ek h).2
     refine ⟨xH++B1,?_,fun T L D H nx r σ hr he ρ c w hH hs hD Q hQ=>?_⟩
     ·rw [Ia]
      show B1.reverse++s1.out=_
      rw [lS]
      simp
     ·obtain ⟨L1,hE,oW⟩:=fw B1 T L D H nx r σ hA hr he
      have hR:hG ρ kept n env T L1 c:=.of hE (hs.less kb)
      rw [wpOps_cons]
      unfold wpOp
      have Ox:ops.toArray[i]?=some o:=by simpa using ho
      rw [Ox]
      rcases oW with ⟨v,D',H',nx',T',L',bS,wk,Xv,_⟩|⟨hw,ch,H',nx',Oy,ik⟩
      ·refine zR hA cW pd hc ht hg hR hD hH bS fun ρ' u w' c' hv Ib hD' htm=>?_
       refine rp T' L' D' H' nx' r _ wk Xv ρ' (c'.put o.dst u) w' Ib.hr ?_ ?_ Q fun e a' Rn ho=>hQ e a' Rn (.trans Ib ho)
       ·refine r7.put (env:=s.env) (h:=?_) hv bR HZ
        rw [htm]
        exact hs.mono Ib.gM.ext
       ·have:(c'.put o.dst u).defers=c'.defers:=by cases o.dst<;>rfl
        rw [this]
        exact hD'
      ·show (if Region.wanted o (yielded ops.toArray c.tmps) then _ else _)
       rw [tL hg hR,if_pos hw]
       refine .inl ?_
       unfold Oper.wp
       refine HS (p:=none) (ag:=[]) (k:=qA) hA cW pd hc ht hR hD hH (ik none [] qA) ?_ ?_
       ·intro v2 H2 nx2 D2 ρ' u w' c' h1
        subst Oy
        exact (DE h1).elim
       ·intro ch2 vF ρ' H2 nx2 w' h1 h2 h3
        rw [Oy] at h1
        cases h1
        exact hQ _ _ _ ⟨ρ',by rw [Oy];exact h3,by
         rw [Oy]
         exact ⟨.of ⟨fun t od h=>by simp at h,he.kept⟩ ⟨hs.size,fun t od h=>by simp at h,fun t h=>(hs.kept t h).mono h3.gM.ext⟩,hD.mono h3.gM.ext⟩,by rw [Oy];exact h2⟩
end Go.Eng

namespace Go.Eng
variable {P:Program} {ins kept:List Nat} {n:Nat} {A:aG} {rn:jg} {ops:List Oper} {eA:List Nat}
theorem Oz {id:Nat} {ops:Array Oper} {l:List (AO×List bL)} (hA:A.P=P) (cW:fG P rn) (pd:nH P ins) (h:gZ P ins kept n false ops.toList=some l) :
  fH P ins kept n (Sy A rn l) (.region id ops false):=by
 intro T D H nx o hr ρ a w hH ha
 unfold gZ at h
 simp only [cond_false,Option.map_eq_some_iff] at h
 obtain ⟨s',hs,rfl⟩:=h
 obtain ⟨new,lS,ik⟩:=B0 hA cW pd _ _ _ hs
 refine wp_region ?_
 have hn:s'.out.reverse=new:=by rw [lS];simp [nM]
 have nz:bz A rn s'.out.reverse T [] D H nx=some o:=hr
 rw [hn] at nz
 have:=ik T [] D H nx o (fun t=>(ao T (b7 t)).getD undef) nz ⟨fun t od h=>by simp [nM] at h,fun t _=>rfl⟩ ρ a w hH ⟨ha.env.size,fun t od h=>by simp [nM] at h,ha.env.kept⟩ ha.oF (kC ρ H nx w kept n o) fun e a' w' h=>h
 simpa using this
structure Rec where
 i:Nat
 o:Oper
 a:bG Operand
 σ:lW
 D:List eT
 H:Heap
 nx:Nat
 v:Value
 D':List eT
 H':Heap
 nx':Nat
def At (σ0:lW) (D0:List eT) (H0:Heap) (nx0:Nat):List Rec→lW→List eT→Heap→Nat→Prop
 | [],σ,D,H,nx=>σ=σ0∧D=D0∧H=H0∧nx=nx0
 | q::_,σ,D,H,nx=>σ=q.σ.set q.o.dst q.v∧D=q.D'∧H=q.H'∧nx=q.nx'
def bit (eA:List Nat) (i j:Nat):Bool:=Nat.testBit (eA.getD i 0) j
structure Ic (P:Program) (A:aG) (rn:jg) (ins kept:List Nat) (n:Nat) (ops:List Oper) (eA:List Nat) (pre:List Rec) (r:Rec):Prop where
 op:ops[r.i]?=some r.o
 comp:ai P ins r.o=some r.a
 step:∃env T L b g,r.a.fE (cv kept n env)=some b∧gY ops env r.o.guard=some g∧e7 kept r.σ env T L∧(∀t od,(t,od)∈env→∃q∈pre,q.o.dst=some t)∧Step A rn r.o b g T L r.D r.H r.nx r.v r.D' r.H' r.nx'
 dst:∀d,r.o.dst=some d→d < n
 E2:∀j,bit eA r.i j=true→∃q∈pre,q.i=j
 new:∀q∈pre,q.i≠r.i
 Xw:hygienic ops eA r.i r.o=true
 grd:∀g w,r.o.guard=some (g,w)→bit eA r.i g=true
 cL:b6 (bU r.a)=true→∀q∈pre,b6 (bU q.a)=true∨gX (bU q.a)=true→bit eA r.i q.i=true
 load:iC (bU r.a)=true→∀q∈pre,b6 (bU q.a)=true→bit eA r.i q.i=true
 again:b6 (bU r.a)=true→∀q∈pre,iC (bU q.a)=true→bit eA r.i q.i=false→∃done,(∀j,Nat.testBit done j=true↔∃q∈pre,q.i=j)∧qz P ops eA done (r.σ.set r.o.dst r.v) r.H' q.i
def DF (P:Program) (A:aG) (rn:jg) (ins kept:List Nat) (n:Nat) (ops:List Oper) (eA:List Nat) (σ0:lW) (D0:List eT) (H0:Heap) (nx0:Nat):List Rec→Prop
 | []=>True
 | r::pre=>Ic P A rn ins kept n ops eA pre r∧At σ0 D0 H0 nx0 pre r.σ r.D r.H r.nx∧DF P A rn ins kept n ops eA σ0 D0 H0 nx0 pre
structure tR (pre:List Rec) (s:Laid):Prop where
 done:∀j,Nat.testBit s.done j=true↔∃q∈pre,q.i=j
 cL:∀q∈pre,b6 (bU q.a)=true→Nat.testBit s.cL q.i=true
 make:∀q∈pre,gX (bU q.a)=true→Nat.testBit s.make q.i=true
 dw:∀q∈pre,iC (bU q.a)=true→q.i∈s.dw
 Ti:∀j∈s.dw,∃q∈pre,q.i=j
 env:∀t od,(t,od)∈s.env→∃q∈pre,q.o.dst=some t
theorem Ie {α β:Type} (f:α→β) (a:bG α):bU (a.map f)=bU a:=by cases a<;>rfl
theorem iX {α β:Type} {c:α→Option β} {a:bG α} {b:bG β} (d:β) (h:a.fE c=some b):bU b=bU a:=by
 rw [(g9 d h).1,Ie]
theorem sB {a b j:Nat} (h:sub a b=true) (hj:Nat.testBit a j=true):Nat.testBit b j=true:=by
 have e:a&&& b=a:=Nat.eq_of_beq_eq_true h
 rw [← e,Nat.testBit_and] at hj
 simp at hj
 exact hj.2
theorem qC {s i j:Nat}:Nat.testBit (s||| 2 ^ i) j=true↔Nat.testBit s j=true∨j=i:=by
 rw [Nat.testBit_or,Bool.or_eq_true,Nat.testBit_two_pow]
 simp only [decide_eq_true_eq]
 constructor
 ·rintro (h|h)
  ·exact .inl h
  ·exact .inr h.symm
 ·rintro (h|h)
  ·exact .inl h
  ·exact .inr h.symm
theorem tR.next {pre:List Rec} {s0 s1:Laid} {r:Rec} (h:tR pre s0) (hs:ly s0 s1) (kb:∀t od,(t,od)∈s1.env→some t=r.o.dst∨∃kn,(t,kn)∈s0.env) :
  tR (r::pre) { s1 with dw:=(bif iC (bU r.a) then r.i::s1.dw else s1.dw),cL:=(bif b6 (bU r.a) then s1.cL||| 2 ^ r.i else s1.cL),make:=(bif gX (bU r.a) then s1.make||| 2 ^ r.i else s1.make),done:=s1.done||| 2 ^ r.i }:=by
 refine ⟨fun j=>?_,fun q hq hk=>?_,fun q hq hk=>?_,fun q hq hk=>?_,fun j hj=>?_,fun t od ht=>?_⟩
 ·show Nat.testBit (s1.done||| 2 ^ r.i) j=true↔_
  rw [qC,hs.done,h.done]
  simp only [List.mem_cons,exists_eq_or_imp]
  constructor
  ·rintro (h|h)
   ·exact .inr h
   ·exact .inl h.symm
  ·rintro (h|h)
   ·exact .inr h.symm
   ·exact .inl h
 ·show Nat.testBit (bif b6 (bU r.a) then s1.cL||| 2 ^ r.i else s1.cL) q.i=true
  rcases List.mem_cons.1 hq with rfl|hq
  ·rw [hk];exact qC.2 (.inr rfl)
  ·have:=h.cL q hq hk
   rw [hs.cL]
   cases b6 (bU r.a)
   ·exact this
   ·exact qC.2 (.inl this)
 ·show Nat.testBit (bif gX (bU r.a) then s1.make||| 2 ^ r.i else s1.make) q.i=true
  rcases List.mem_cons.1 hq with rfl|hq
  ·rw [hk];exact qC.2 (.inr rfl)
  ·have:=h.make q hq hk
   rw [hs.make]
   cases gX (bU r.a)
   ·exact this
   ·exact qC.2 (.inl this)
 ·show q.i∈(bif iC (bU r.a) then r.i::s1.dw else s1.dw)
  rcases List.mem_cons.1 hq with rfl|hq
  ·rw [hk];exact List.mem_cons_self
  ·have:=h.dw q hq hk
   rw [hs.dw]
   cases iC (bU r.a)
   ·exact this
   ·exact List.mem_cons_of_mem _ this
 ·have Hv:j∈(bif iC (bU r.a) then r.i::s1.dw else s1.dw):=hj
  have:j=r.i∨j∈s0.dw:=by
   rw [hs.dw] at Hv
   cases hb:iC (bU r.a)<;>rw [hb] at Hv
   ·exact .inr Hv
   ·exact List.mem_cons.1 Hv
  rcases this with rfl|hj
  ·exact ⟨r,List.mem_cons_self,rfl⟩
  ·obtain ⟨q,hq,e⟩:=h.Ti j hj
   exact ⟨q,List.mem_cons_of_mem _ hq,e⟩
 ·rcases kb t od ht with e|⟨kn,g⟩
  ·exact ⟨r,List.mem_cons_self,e.symm⟩
  ·obtain ⟨q,hq,e⟩:=h.env t kn g
   exact ⟨q,List.mem_cons_of_mem _ hq,e⟩
theorem E3 {tg:List Nat} {σ0:lW} {D0:List eT} {H0:Heap} {nx0:Nat} (hA:A.P=P):∀(is:List Nat) (s s':Laid),nT P ins kept n true ops eA tg is s=some s'→∃new,s'.out=new.reverse++s.out∧
  ∀pre T L D H nx r σ,bz A rn new T L D H nx=some r→e7 kept σ s.env T L→tR pre s→DF P A rn ins kept n ops eA σ0 D0 H0 nx0 pre→At σ0 D0 H0 nx0 pre σ D H nx→(∀ch,r.1≠.panic ch)→
   ∃R T' σ' D' H' nx',tR R s'∧DF P A rn ins kept n ops eA σ0 D0 H0 nx0 R∧At σ0 D0 H0 nx0 R σ' D' H' nx'∧(∀t,dB kept t=true→(ao T' (b7 t)).getD undef=σ' t)∧r=(.normal,⟨T',D',H',nx'⟩):=by
 intro is
 induction is with
 | nil=>
  intro s s' h
  cases h
  refine ⟨[],rfl,fun pre T L D H nx r σ hr he hl oH u4 _=>?_⟩
  have nz:some (Ex.normal,(⟨T,D,H,nx⟩:St))=some r:=hr
  cases nz
  exact ⟨pre,T,σ,D,H,nx,hl,oH,u4,he.kept,rfl⟩
 | cons i is ih=>
  intro s s' h
  unfold nT at h
  cases ho:ops[i]? with
  | none=>rw [ho] at h;cases h
  | some o=>
   rw [ho] at h
   simp only [cond_true] at h
   split at h
   ·cases h
   ·rename_i s1 aS
    split at h
    ·cases h
    ·rename_i k hk
     obtain ⟨vG,h⟩:=ek h
     have bR:∀d,o.dst=some d→d < n:=by
      intro d hd
      rw [hd] at vG
      have HY:Nat.blt d n=true:=vG
      rwa [Nat.blt_eq] at HY
     obtain ⟨Tj,h⟩:=ek h
     simp only [Bool.not_true,Bool.false_or,Bool.and_eq_true,Bool.not_eq_true'] at Tj
     obtain ⟨⟨⟨⟨c1,c2⟩,c3⟩,c4⟩,c5⟩:=Tj
     obtain ⟨xH,env,a,b,g,hc,ht,hg,lS,bN,kb,HZ,fw⟩:=wA (A:=A) (rn:=rn) aS
     have Ig:k=a:=by rw [hk] at hc;exact Option.some.inj hc
     subst Ig
     obtain ⟨B1,Ia,rp⟩:=ih _ _ h
     refine ⟨xH++B1,?_,fun pre T L D H nx r σ hr he hl oH u4 hnp=>?_⟩
     ·rw [Ia]
      show B1.reverse++s1.out=_
      rw [lS]
      simp
     ·obtain ⟨L1,hE,oW⟩:=fw B1 T L D H nx r σ hA hr he
      rcases oW with ⟨v,D',H',nx',T',L',bS,wk,Xv,E4⟩|⟨hw,ch,H',nx',Oy,ik⟩
      ·have hkd:bU b=bU k:=iX (.loc 0) ht
       have Xx:Ic P A rn ins kept n ops eA pre ⟨i,o,k,σ,D,H,nx,v,D',H',nx'⟩:=by
        refine ⟨ho,hk,⟨env,T,L1,b,g,ht,hg,hE,fun t od hm=>?_,bS⟩,bR,fun j hj=>(hl.done j).1 (sB c1 hj),fun q hq e=>?_,c3,fun g' w' kW=>?_,fun hh q hq Lj=>?_,fun hh q hq Lj=>?_,fun hh q hq Lj E5=>?_⟩
        ·obtain ⟨kn,GG⟩:=kb t od hm
         exact hl.env t kn GG
        ·have:=(hl.done i).2 ⟨q,hq,e⟩
         rw [c2] at this
         cases this
        ·have Xy:o.guard=some (g',w'):=kW
         rw [Xy] at c4
         exact c4
        ·have OA:b6 (bU k)=true:=hh
         cases OB:bU k<;>rw [OB] at OA<;>first|cases OA|skip
         rw [OB] at c5
         have Tk:(sub s.cL (eA.getD i 0)&&sub s.make (eA.getD i 0))=true:=c5
         rw [Bool.and_eq_true] at Tk
         rcases Lj with Lj|Lj
         ·exact sB Tk.1 (hl.cL q hq Lj)
         ·exact sB Tk.2 (hl.make q hq Lj)
        ·have OA:iC (bU k)=true:=hh
         cases OB:bU k<;>rw [OB] at OA<;>first|cases OA|skip
         rw [OB] at c5
         have Tk:sub s.cL (eA.getD i 0)=true:=c5
         exact sB Tk (hl.cL q hq Lj)
        ·exact ⟨s.done,hl.done,E4 (by rw [hkd];exact hh) q.i (hl.dw q hq Lj) E5⟩
       obtain ⟨R,T2,σ2,D2,H2,nx2,q1,q2,q3,q4,q5⟩:=rp (⟨i,o,k,σ,D,H,nx,v,D',H',nx'⟩::pre) T' L' D' H' nx' r _ wk Xv (hl.next (r:=⟨i,o,k,σ,D,H,nx,v,D',H',nx'⟩) bN HZ) ⟨Xx,u4,oH⟩ ⟨rfl,rfl,rfl,rfl⟩ hnp
       exact ⟨R,T2,σ2,D2,H2,nx2,q1,q2,q3,q4,q5⟩
      ·exact absurd (by rw [Oy]) (hnp ch)
end Go.Eng

namespace Go.Eng
variable {P:Program} {ins kept:List Nat} {n:Nat} {A:aG} {rn:jg} {T:Tr Value} {L:List Value} {D:List eT} {H:Heap} {nx:Nat}
def Up (f:RC):Prop:=∀T D H nx o,f T D H nx=some o→nx≤o.2.nx
def df.count:df→Nat
 | .ok _ _ nx=>nx
 | .nI _ _ nx=>nx
structure gi (r:jg):Prop where
 code:∀c,Up (r.code c)
 call:∀g vs H nx c,r.call g vs H nx=some c→nx≤c.count
def VY (k:RL):Prop:=∀T L D H nx r,k T L D H nx=some r→nx≤r.2.nx
theorem zS {X:R0} {r:Ex×St}:∀{as:List bL},fS P T L H as X=some r→X=some r:=by
 intro as
 induction as with
 | nil=>intro h;exact h
 | cons a as ih=>intro h;exact ih (ru h).1
theorem mr {p:Option (List Bool)} {ag:List bL} {k:RL} {v:Value} {r:Ex×St} (hk:VY k) (h:br P p ag k T L D v H nx=some r):nx≤r.2.nx:=by
 unfold br at h
 rw [gh] at h
 exact hk _ _ _ _ _ _ (zS h)
theorem zT {p:Option (List Bool)} {ag:List bL} {k:RL} {c:df} {r:Ex×St} (hk:VY k) (hc:nx≤c.count) (h:dA P p ag k T L D c=some r):nx≤r.2.nx:=by
 cases c with
 | ok v H' nx'=>exact Nat.le_trans hc (mr hk h)
 | nI ch H' nx'=>
  have h':some (Ex.panic ch,(⟨T,D,H',nx'⟩:St))=some r:=h
  cases h'
  exact hc
theorem Ih {b:bG Od} {p:Option (List Bool)} {ag:List bL} {k:RL} {r:Ex×St} (hu:gi rn) (hk:VY k) (h:pX b A rn p ag k b T L D H nx=some r):nx≤r.2.nx:=by
 by_cases hp:b.plain=true
 ·rw [iV hp] at h
  have h':cm b A.P T L H nx (uk fun x=>br A.P p ag k T L D x.1 x.2.1 x.2.2)=some r:=h
  obtain ⟨x,h1,_,h3⟩:=iW b _ r h'
  exact Nat.le_trans h3 (mr hk h1)
 ·cases b with
  | call f args=>
   have h':a5 T L f (fun f=>cS T L args fun vs=>ft vs (fun g vs=>bd (rn.call g vs H nx) (dA A.P p ag k T L D)) f)=some r:=h
   rw [cj] at h'
   obtain ⟨fv,DB,h1⟩:=aO h'
   rw [dR] at h1
   obtain ⟨vs,lh,h2⟩:=aO h1
   unfold ft at h2
   split at h2
   ·obtain ⟨c,g1,g2⟩:=aO h2
    exact zT hk (hu.call _ _ _ _ _ g1) g2
   ·cases h2
  | inv x name args=>
   have h':a5 T L x (fun x=>cS T L args fun vs=>nt A.P name H (fun g v=>bd (rn.call g (v::vs) H nx) (dA A.P p ag k T L D)) x)=some r:=h
   rw [cj] at h'
   obtain ⟨fv,DB,h1⟩:=aO h'
   rw [dR] at h1
   obtain ⟨vs,lh,h2⟩:=aO h1
   have hd:bE (fun _=>True) fun k':FuncId×Value→R0=>nt A.P name H (fun g v=>k' (g,v)) fv:=by
    unfold nt
    split
    ·refine .bd fun m=>?_
     unfold yZ
     cases m.2 with
     | none=>exact .ret _ trivial
     | some agg=>exact .ptr fun _ _=>.cA fun _=>.bd fun _=>.ret _ trivial
    ·exact .no
   obtain ⟨y,g1,_⟩:=hd.Rk (fun y=>bd (rn.call y.1 (y.2::vs) H nx) (dA A.P p ag k T L D)) r h2
   obtain ⟨c,k1,k2⟩:=aO g1
   exact zT hk (hu.call _ _ _ _ _ k1) k2
  | oF f args=>
   have h':a5 T L f (fun f=>cS T L args fun vs=>qa f (br A.P p ag k T L ((f,vs)::D) undef H nx))=some r:=h
   rw [cj] at h'
   obtain ⟨fv,DB,h1⟩:=aO h'
   rw [dR] at h1
   obtain ⟨vs,lh,h2⟩:=aO h1
   unfold qa at h2
   split at h2
   ·exact mr hk h2
   ·cases h2
  | nI x=>
   have h':a5 T L x (y0 T D H nx)=some r:=h
   rw [cj] at h'
   obtain ⟨v,hv,h1⟩:=aO h'
   unfold y0 at h1
   split at h1
   ·cases h1;exact Nat.le_refl _
   ·cases h1
  | vU=>cases h
  | ins z bytes s i v=>
   have h':cm (.ins z bytes s i v) A.P T L H nx (uk fun x=>br A.P p ag k T L D x.1 x.2.1 x.2.2)=some r:=h
   obtain ⟨x,h1,_,h3⟩:=iW _ _ r h'
   exact Nat.le_trans h3 (mr hk h1)
  | _=>exact absurd rfl hp
theorem Lk {b:bG Od} {v:Value} {D':List eT} {H':Heap} {nx':Nat} (hu:gi rn) (h:∀p ag k,pX b A rn p ag k b T L D H nx=br A.P p ag k T L D' v H' nx'):nx≤nx':=
 Ih (k:=qA) (p:=none) (ag:=[]) (r:=(.normal,⟨.n .e (some v) .e,D',H',nx'⟩)) hu (fun T L D H nx r h=>by cases h;exact Nat.le_refl _) ((h none [] qA).trans (hJ.trans rfl))
theorem wB (hu:gi rn):∀l:List (AO×List bL),VY (bz A rn l):=by
 intro l
 induction l with
 | nil=>intro T L D H nx r h;cases h;exact Nat.le_refl _
 | cons x l ih=>
  obtain ⟨o,ag⟩:=x
  intro T L D H nx r h
  have h':cond (wanted L o.guard) (pX o.op A rn o.keep ag (bz A rn l) o.op T L D H nx) (br A.P o.keep ag (bz A rn l) T L D undef H nx)=some r:=h
  cases hw:wanted L o.guard with
  | true=>rw [hw] at h';exact Ih hu ih h'
  | false=>rw [hw] at h';exact mr ih h'
theorem DG {k:RC} {o1 o:Ex×St} (hk:Up k) (h:mb k o1=some o):o1.2.nx≤o.2.nx:=by
 obtain ⟨e,st⟩:=o1
 cases e with
 | normal=>exact hk _ _ _ _ _ h
 | exit i=>cases h;exact Nat.le_refl _
 | ret=>cases h;exact Nat.le_refl _
 | panic c=>cases h;exact Nat.le_refl _
theorem E6 {id:Nat} {o1 o:Ex×St} (h:nS id o1=some o):o1.2.nx≤o.2.nx:=by
 obtain ⟨e,st⟩:=o1
 cases e with
 | normal=>cases h;exact Nat.le_refl _
 | exit i=>
  have h4:(cond (Nat.beq i id) (stay .normal) (stay (.exit i))) st=some o:=h
  cases hb:Nat.beq i id<;>(rw [hb] at h4;cases h4;exact Nat.le_refl _)
 | ret=>cases h;exact Nat.le_refl _
 | panic c=>cases h;exact Nat.le_refl _
theorem zU {o1 o:Ex×St} (h:td o1=some o):o1=o∧o.1=.normal:=by
 obtain ⟨e,st⟩:=o1
 cases e<;>cases h
 exact ⟨rfl,rfl⟩
theorem pg (hu:gi rn):∀c:aL,Up (bW c A rn):=by
 intro c
 induction c with
 | skip=>intro T D H nx o h;cases h;exact Nat.le_refl _
 | aa dr ops=>
  cases dr with
  | false=>intro T D H nx o h;exact wB hu ops T [] D H nx o h
  | true=>
   intro T D H nx o h
   obtain ⟨o1,h1,h2⟩:=aO (show bd (bz A rn ops T [] D H nx) td=some o from h)
   obtain ⟨rfl,_⟩:=zU h2
   exact wB hu ops T [] D H nx _ h1
 | seq a b o7 GK=>
  intro T D H nx o h
  obtain ⟨o1,h1,h2⟩:=aO (show bd (bW a A rn T D H nx) (mb (bW b A rn))=some o from h)
  exact Nat.le_trans (o7 _ _ _ _ _ h1) (DG GK h2)
 | cond c a b o7 GK=>
  intro T D H nx o h
  have h':a5 T [] c (fun v=>fD v (bW a A rn T D H nx) (bW b A rn T D H nx))=some o:=h
  rw [cj] at h'
  obtain ⟨v,hv,h1⟩:=aO h'
  rcases mg h1 with ⟨_,h2⟩|⟨_,h2⟩
  ·exact o7 _ _ _ _ _ h2
  ·exact GK _ _ _ _ _ h2
 | block id a o7=>
  intro T D H nx o h
  obtain ⟨o1,h1,h2⟩:=aO (show bd (bW a A rn T D H nx) (nS id)=some o from h)
  exact Nat.le_trans (o7 _ _ _ _ _ h1) (E6 h2)
 | loop a o7=>
  intro T D H nx o h
  obtain ⟨o1,h1,h2⟩:=aO (show bd (bW a A rn T D H nx) (mb (rn.code (.loop a)))=some o from h)
  exact Nat.le_trans (o7 _ _ _ _ _ h1) (DG (hu.code _) h2)
 | exit id=>intro T D H nx o h;cases h;exact Nat.le_refl _
 | ret=>intro T D H nx o h;cases h;exact Nat.le_refl _
def n6:List Value→Nat→Tr Value→Tr Value
 | [],_,T=>T
 | v::l,i,T=>n6 l (i + 1) (bB (at_ i) T (some v))
theorem dz (l:List Value) (T:Tr Value) (k:Tr Value→R0):kZ l T k=k (n6 l 0 T):=by
 have:∀(l:List Value) (i:Nat) (T:Tr Value) (k:Tr Value→R0),(List.rec (motive:=fun _=>Nat→Tr Value→(Tr Value→R0)→R0) (fun _ T k=>k T) (fun v _ ih i T k=>dx (at_ i) T (some v) fun T=>ih (Nat.succ i) T k) l:Nat→Tr Value→(Tr Value→R0)→R0) i T k=k (n6 l i T):=by
  intro l
  induction l with
  | nil=>intro i T k;rfl
  | cons v l ih=>
   intro i T k
   show dx (at_ i) T (some v) (fun T=>(List.rec (motive:=fun _=>Nat→Tr Value→(Tr Value→R0)→R0) (fun _ T k=>k T) (fun v _ ih i T k=>dx (at_ i) T (some v) fun T=>ih (Nat.succ i) T k) l:Nat→Tr Value→(Tr Value→R0)→R0) (Nat.succ i) T k)=_
   rw [bQ,ih]
   rfl
 exact this l 0 T k
theorem DH {o:Ex×St} {u:FrameMode} {y:FrameMode×Heap×Nat} (h:Eu o u=some y):y.2.2=o.2.nx:=by
 unfold Eu at h
 split at h<;>cases h<;>rfl
theorem xI (hu:gi rn) {f:Value} {args:List Value} {u:FrameMode} {y:FrameMode×Heap×Nat} (h:gd A rn f args u H nx=some y):nx≤y.2.2:=by
 unfold gd at h
 split at h
 ·split at h
  ·split at h
   ·obtain ⟨o,h1,h2⟩:=aO h
    rw [dz,bQ] at h1
    rw [DH h2]
    exact pg hu _ _ _ _ _ _ h1
   ·obtain ⟨o,h1,h2⟩:=aO h
    rw [dz] at h1
    rw [DH h2]
    exact pg hu _ _ _ _ _ _ h1
  ·cases h
 ·cases h
theorem B2 (hu:gi rn):∀(D:List eT) (u:FrameMode) (H:Heap) (nx:Nat) (y:FrameMode×Heap×Nat),fu A rn D u H nx=some y→nx≤y.2.2:=by
 intro D
 induction D with
 | nil=>intro u H nx y h;cases h;exact Nat.le_refl _
 | cons d D ih=>
  obtain ⟨f,args⟩:=d
  intro u H nx y h
  unfold fu at h
  split at h
  ·rename_i u1 H1 aY h1
   exact Nat.le_trans (xI hu h1) (ih _ _ _ _ h)
  ·cases h
theorem zV {l:List (Od×Option (Option Nat))} {k:List Value→Option df} {c:df} (h:fI T H l k=some c):∃vs,k vs=some c:=by
 induction l generalizing k with
 | nil=>exact ⟨[],h⟩
 | cons x l ih=>
  have h':Et T H x (fun v=>fI T H l fun vs=>k (v::vs))=some c:=h
  have hk:∀v,fI T H l (fun vs=>k (v::vs))=some c→∃vs,k vs=some c:=by
   intro v hv
   obtain ⟨vs,g⟩:=ih hv
   exact ⟨v::vs,g⟩
  unfold Et at h'
  split at h'
  ·obtain ⟨v,_,g⟩:=aO h';exact hk v g
  ·split at h'
   ·split at h'
    ·obtain ⟨v,_,g⟩:=aO h';exact hk v g
    ·cases h'
   ·cases h'
  ·cases h'
theorem qD (hu:gi rn) {af:aq} {u:FrameMode} {st:St} {c:df} (h:mc A rn af u st=some c):st.nx≤c.count:=by
 obtain ⟨T,D,H,nx⟩:=st
 obtain ⟨y,h1,h2⟩:=aO (show bd (fu A rn D u H nx) (k7 af T)=some c from h)
 have h3:=B2 hu _ _ _ _ _ h1
 refine Nat.le_trans h3 ?_
 obtain ⟨m,H',nx'⟩:=y
 unfold k7 at h2
 split at h2
 ·rename_i hx
  cases hx
  obtain ⟨vs,g⟩:=zV h2
  cases g
  exact Nat.le_refl _
 ·rename_i hx
  cases hx
  cases h2
  exact Nat.le_refl _
 ·cases h2
theorem OC (hk:∀g vs H nx c,A.aH g vs H nx=some c→nx≤c.count) (n:Nat):gi (run A n):=by
 induction n with
 | zero=>exact ⟨(fun c T D H nx o h=>by cases h),(fun g vs H nx c h=>by cases h)⟩
 | succ n ih=>
  refine ⟨fun c=>pg ih c,fun g vs H nx c h=>?_⟩
  have h':(Option.rec (bd (A.funcs g) (jh A (run A n) vs H nx)) some (A.aH g vs H nx):Option df)=some c:=h
  cases hh:A.aH g vs H nx with
  | some c'=>
   rw [hh] at h'
   cases h'
   exact hk _ _ _ _ _ hh
  | none=>
  rw [hh] at h'
  obtain ⟨af,h1,h2⟩:=aO (show bd (A.funcs g) (jh A (run A n) vs H nx)=some c from h')
  obtain ⟨o,h3,h4⟩:=aO (show bd (kZ vs .e fun T=>bW af.body A (run A n) T [] H nx) (vl A (run A n) af)=some c from h2)
  rw [dz] at h3
  have h5:=pg ih _ _ _ _ _ _ h3
  refine Nat.le_trans h5 ?_
  obtain ⟨e,st⟩:=o
  cases e with
  | normal=>exact qD ih h4
  | exit i=>cases h4
  | ret=>exact qD ih h4
  | panic ch=>exact qD ih h4
end Go.Eng

namespace Go.Eng
variable {P:Program} {ins:List Nat}
theorem zW {fs:List Field}:∀{l:List (Nat×Operand)} {r:List (Nat×Nat×Operand)},iL P fs l=some r→∀x∈r,x.2.2∈l.map (·.2):=by
 intro l
 induction l with
 | nil=>intro r h x hx;cases h;simp at hx
 | cons y l ih=>
  obtain ⟨i,y⟩:=y
  intro r h x hx
  unfold iL at h
  split at h
  ·rename_i f rs _ Tl
   split at h
   ·cases h
    rcases List.mem_cons.1 hx with rfl|hx
    ·simp
    ·exact List.mem_cons_of_mem _ (ih Tl x hx)
   ·cases h
  ·cases h
theorem rz {z:Nat}:∀{l:List (Nat×Operand)},∀x∈eG z l,x.2.2∈l.map (·.2):=by
 intro l
 induction l with
 | nil=>intro x hx;simp [eG] at hx
 | cons y l ih=>
  obtain ⟨i,y⟩:=y
  intro x hx
  rcases List.mem_cons.1 hx with rfl|hx
  ·simp
  ·exact List.mem_cons_of_mem _ (ih x hx)
theorem kc {o:Oper} {a:bG Operand} (h:ai P ins o=some a):a.all fun x=>x∈o.op.operands.toList:=by
 cases ho:o.op with
 | build t parts=>
  simp only [ai,ho] at h
  split at h
  ·obtain ⟨ps,SJ,rfl⟩:=Option.map_eq_some_iff.1 (dC h)
   intro x hx
   simpa [Op.operands] using zW SJ x hx
  ·split at h
   ·cases h
    intro x hx
    simpa [Op.operands] using rz x hx
   ·cases h
  ·cases h
 | buildSlice t len parts=>
  simp only [ai,ho] at h
  split at h
  ·split at h
   ·replace h:=dC h
    cases h
    intro x hx
    simpa [Op.operands] using rz x hx
   ·cases h
  ·cases h
 | binOp op t x y b=>
  simp only [ai,ho] at h
  unfold gW at h
  repeat' split at h
  all_goals first
   | (replace h:=dC h;cases h;simp [bG.all,Op.operands])
   | (cases h;done)
   | (cases h;simp [bG.all,Op.operands])
 | call d=>
  simp only [ai,ho] at h
  cases hd:d.callee with
  | builtin b=>
   rw [hd] at h
   simp only at h
   have b5:∀x∈d.args.toList,x∈(Op.call d).operands.toList:=by
    intro x hx
    simp only [Op.operands,Call.operands,hd]
    simpa using hx
   unfold cK at h
   generalize d.args.toList=as at h b5
   generalize d.argTypes.toList=ts at h
   repeat' split at h
   all_goals first
    | (cases h;done)
    | (replace h:=dC h;cases h;simp only [bG.all];refine ⟨b5 _ ?_,b5 _ ?_⟩<;>simp)
    | (cases h;simp only [bG.all];refine ⟨b5 _ ?_,b5 _ ?_⟩<;>simp)
    | (cases h;simp only [bG.all];exact b5 _ (by simp))
    | (cases h;exact b5)
    | (cases h;simp [bG.all])
  | value f=>
   rw [hd] at h
   have hf:f∈(Op.call d).operands.toList:=by simp [Op.operands,Call.operands,hd]
   have b5:∀x∈d.args.toList,x∈(Op.call d).operands.toList:=by
    intro x hx
    simp only [Op.operands,Call.operands,hd]
    simp [Array.mem_def.2 hx]
   cases f with
   | func g=>
    simp only at h
    cases hg:dB ins g with
    | true=>
     rw [hg] at h
     simp only [cond_true] at h
     split at h
     ·rename_i s i v t ts OD _
      rw [OD] at b5
      split at h
      ·split at h
       ·cases h
        exact ⟨b5 _ (by simp),b5 _ (by simp),b5 _ (by simp)⟩
       ·cases h
      ·cases h
     ·cases h
    | false=>rw [hg] at h;cases h;exact ⟨hf,b5⟩
   | _=>simp only at h;cases h;exact ⟨hf,b5⟩
  | invoke x name=>
   rw [hd] at h
   simp only at h
   cases h
   have hf:x∈(Op.call d).operands.toList:=by simp [Op.operands,Call.operands,hd]
   refine ⟨hf,fun y hy=>?_⟩
   simp only [Op.operands,Call.operands,hd]
   simp [Array.mem_def.2 hy]
 | defer d=>
  simp only [ai,ho] at h
  split at h
  ·rename_i f hd
   cases h
   refine ⟨by simp [Op.operands,Call.operands,hd],fun y hy=>?_⟩
   simp only [Op.operands,Call.operands,hd]
   simp [Array.mem_def.2 hy]
  ·cases h
 | makeFunc f a b=>
  cases f with
  | func f=>
   simp only [ai,ho,Option.some.injEq] at h
   subst h
   refine ⟨fun x hx=>?_,fun x hx=>?_⟩<;>simp [Op.operands,Array.mem_def.2 hx]
  | _=>simp only [ai,ho] at h;cases h
 | slice t x lo hi mx=>
  have key:∀y,(y=x∨y∈lo∨y∈hi∨y∈mx)→y∈(Op.slice t x lo hi mx).operands.toList:=by
   intro y
   cases lo<;>cases hi<;>cases mx<;>simp [Op.operands]<;>grind
  simp only [ai,ho] at h
  split at h
  ·replace h:=dC h
   obtain ⟨z,_,rfl⟩:=Option.map_eq_some_iff.1 h
   exact ⟨key _ (.inl rfl),fun y hy=>key _ (.inr (.inl hy)),fun y hy=>key _ (.inr (.inr (.inl hy))),fun y hy=>key _ (.inr (.inr (.inr hy)))⟩
  ·split at h
   ·cases h
    exact ⟨key _ (.inl rfl),fun y hy=>key _ (.inr (.inl hy)),fun y hy=>key _ (.inr (.inr (.inl hy)))⟩
   ·cases h
  ·cases h
 | makeMap t r=>
  simp only [ai,ho] at h
  split at h
  ·cases h
   intro x hx
   simp [Op.operands]
   exact hx
  ·cases h
 | next x q=>
  cases q with
  | false=>simp only [ai,ho] at h;cases h;simp [bG.all,Op.operands]
  | true=>simp only [ai,ho] at h;cases h
 | _=>
  simp only [ai,ho] at h
  repeat' split at h
  all_goals first
   | (cases h;done)
   | (replace h:=dC h;cases h;simp [bG.all,Op.operands];done)
   | (obtain ⟨z,_,rfl⟩:=Option.map_eq_some_iff.1 h;simp [bG.all,Op.operands];done)
   | (cases h;simp [bG.all,Op.operands];done)
end Go.Eng

namespace Go.Eng
variable {P:Program} {ρ ρ':bA} {n m:Nat}
def bA.upto (ρ:bA) (n:Nat):bA:=fun b=>if b < n then ρ b else none
def Below (ρ:bA) (n:Nat):Prop:=∀b,n≤b→ρ b=none
theorem bA.m5 {b:Nat} (h:b < n):ρ.upto n b=ρ b:=if_pos h
theorem bA.DI {b:Nat} (h:n≤b):ρ.upto n b=none:=if_neg (Nat.not_lt.2 h)
theorem js:Below (ρ.upto n) n:=fun _ h=>bA.DI h
theorem mv:Ext (ρ.upto n) ρ:=by
 intro b r h
 unfold bA.upto at h
 split at h
 ·exact h
 ·cases h
theorem qE {b:Nat} {r r':Ref} (h:ρ b=some r) (h':ρ' b=some r') (hb:Below ρ' n):ρ.upto n b=some r:=by
 have:b < n:=by
  rcases Nat.lt_or_ge b n with h1|h1
  ·exact h1
  ·rw [hb b h1] at h';cases h'
 rw [bA.m5 this];exact h
mutual
theorem VR.upto (hb:Below ρ' n):∀{v u u':Value},VR ρ v u→VR ρ' v u'→VR (ρ.upto n) v u
 | _,_,_,.sc h,_=>.sc h
 | _,_,_,.rT,_=>.rT
 | _,_,_,.y5,_=>.y5
 | _,_,_,.ptr h,h'=>by
  cases h' with
  | sc h=>simp [scalar] at h
  | ptr h'=>exact .ptr (qE h h' hb)
 | _,_,_,.j5,_=>.j5
 | _,_,_,.sl h hl hs he hp,h'=>by
  cases h' with
  | sc h=>simp [scalar] at h
  | sl h' _ _ _ _=>exact .sl (qE h h' hb) hl hs he hp
 | _,_,_,.Dn,_=>.Dn
 | _,_,_,.rU,_=>.rU
 | _,_,_,.map h,h'=>by
  cases h' with
  | sc h=>simp [scalar] at h
  | map h'=>exact .map (qE h h' hb)
 | _,_,_,.func h1 h2,h'=>by
  cases h' with
  | sc h=>simp [scalar] at h
  | func h3 h4=>exact .func (cU.upto hb h1 h3) (cU.upto hb h2 h4)
 | _,_,_,.iface h,h'=>by
  cases h' with
  | sc h=>simp [scalar] at h
  | iface h'=>exact .iface (VR.upto hb h h')
 | _,_,_,.agg h,h'=>by
  cases h' with
  | sc h=>simp [scalar] at h
  | agg h'=>exact .agg (cU.upto hb h h')
 | _,_,_,.tuple h,h'=>by
  cases h' with
  | sc h=>simp [scalar] at h
  | tuple h'=>exact .tuple (cU.upto hb h h')
 | _,_,_,.any h,_=>.any h
 | _,_,_,.vV h,_=>.vV h
theorem cU.upto (hb:Below ρ' n):∀{v u u':List Value},cU ρ v u→cU ρ' v u'→cU (ρ.upto n) v u
 | _,_,_,.nil,_=>.nil
 | _,_,_,.cons h hs,h'=>by
  cases h' with
  | cons h1 h2=>exact .cons (VR.upto hb h h1) (cU.upto hb hs h2)
end
theorem kU.upto (hb:Below ρ' n) {v u u':List MapEntry} (h:kU ρ v u) (h':kU ρ' v u'):kU (ρ.upto n) v u:=by
 induction h generalizing u' with
 | nil=>exact .nil
 | cons hk hv p5 _ ih=>
  cases h' with
  | cons gC jS _ h'=>exact .cons (hk.upto hb gC) (hv.upto hb jS) p5 (ih h')
theorem BR.upto (hb:Below ρ' n) {hp jG:Array Obj} {r r':Ref} {k:gT} (h:BR ρ hp r k) (h':BR ρ' jG r' k):BR (ρ.upto n) hp r k:=by
 cases k with
 | cells cs=>
  obtain ⟨a,e,h1,h2,h3⟩:=h
  obtain ⟨a',e',_,_,GL⟩:=h'
  refine ⟨a,e,h1,h2,fun i v hv=>?_⟩
  obtain ⟨u,g1,g2⟩:=h3 i v hv
  obtain ⟨u',_,Rp⟩:=GL i v hv
  exact ⟨u,g1,g2.upto hb Rp⟩
 | map es c=>
  obtain ⟨tA,h1,h2⟩:=h
  obtain ⟨aaH,_,Bs⟩:=h'
  exact ⟨tA,h1,h2.upto hb Bs⟩
 | ro cs=>
  obtain ⟨a,e,f,h1,h2,h3⟩:=h
  obtain ⟨a',e',f',_,_,GL⟩:=h'
  refine ⟨a,e,f,h1,h2,fun i v hv=>?_⟩
  obtain ⟨u,g1,g2⟩:=h3 i v hv
  obtain ⟨u',_,Rp⟩:=GL i v hv
  exact ⟨u,g1,g2.upto hb Rp⟩
 | iter m a s c=>
  obtain ⟨h0,m1,h1,h2⟩:=h
  obtain ⟨_,m1',_,Bs⟩:=h'
  exact ⟨h0,m1,h1,h2.upto hb Bs⟩
theorem K9.upto (hb:Below ρ' n) {x:eT} {d d':Deferred} (h:K9 ρ x d) (h':K9 ρ' x d'):K9 (ρ.upto n) x d:=by
 obtain ⟨f,a,a',c,c',vs,h1,h2,h3,h4,h5⟩:=h
 obtain ⟨f',a2,a2',c2,Na,MS,oI,Bs,GL,h4',h5'⟩:=h'
 rw [h1] at oI
 simp only [Value.func.injEq,Fn.func.injEq,Array.mk.injEq] at oI
 obtain ⟨rfl,rfl,rfl⟩:=oI
 exact ⟨f,a,a',c,c',vs,h1,h2,h3.upto hb GL,h4.upto hb h4',h5.upto hb h5'⟩
theorem gB.upto (hb:Below ρ' n) {l:List eT} {d d':List Deferred} (h:gB ρ l d) (h':gB ρ' l d'):gB (ρ.upto n) l d:=by
 induction h generalizing d' with
 | nil=>exact .nil
 | cons hx _ ih=>
  cases h' with
  | cons rY h'=>exact .cons (hx.upto hb rY) (ih h')
def iO (n:Nat) (v:Value):Prop:=∃ρ u,VR ρ v u∧Below ρ n
def nB (n b:Nat) (k:gT):Prop:=∃ρ hp r,ρ b=some r∧BR ρ hp r k∧Below ρ n
def vI (n:Nat) (D:List eT):Prop:=∃ρ l,gB ρ D l∧Below ρ n
theorem Below.mono (h:Below ρ n) (hn:n≤m):Below ρ m:=fun b hb=>h b (Nat.le_trans hn hb)
theorem iO.mono {v:Value} (h:iO n v) (hn:n≤m):iO m v:=let ⟨ρ,u,h1,h2⟩:=h;⟨ρ,u,h1,h2.mono hn⟩
theorem nB.mono {b:Nat} {k:gT} (h:nB n b k) (hn:n≤m):nB m b k:=let ⟨ρ,hp,r,h1,h2,h3⟩:=h;⟨ρ,hp,r,h1,h2,h3.mono hn⟩
theorem vI.mono {D:List eT} (h:vI n D) (hn:n≤m):vI m D:=let ⟨ρ,u,h1,h2⟩:=h;⟨ρ,u,h1,h2.mono hn⟩
theorem iO.cut {v u:Value} (h:iO n v) (hv:VR ρ v u):VR (ρ.upto n) v u:=let ⟨_,_,h1,h2⟩:=h;hv.upto h2 h1
theorem nB.cut {b:Nat} {k:gT} {hp:Array Obj} {r:Ref} (h:nB n b k) (hv:BR ρ hp r k):BR (ρ.upto n) hp r k:=let ⟨_,_,_,_,h1,h2⟩:=h;hv.upto h2 h1
theorem nB.lt {b:Nat} {k:gT} (h:nB n b k):b < n:=by
 obtain ⟨ρ,hp,r,h1,_,h2⟩:=h
 rcases Nat.lt_or_ge b n with h3|h3
 ·exact h3
 ·rw [h2 b h3] at h1;cases h1
theorem vI.cut {D:List eT} {l:List Deferred} (h:vI n D) (hv:gB ρ D l):gB (ρ.upto n) D l:=let ⟨_,_,h1,h2⟩:=h;hv.upto h2 h1
theorem VR.low {v u:Value} (h:VR ρ v u) (hb:Below ρ n):iO n v:=⟨ρ,u,h,hb⟩
theorem HR.OE {H:Heap} {nx:Nat} {hp:Array Obj} (h:HR ρ H nx hp) {b:Nat} {k:gT} (hb:ao H (at_ b)=some k):nB nx b k:=let ⟨r,h1,h2⟩:=h.blk b k hb;⟨ρ,hp,r,h1,h2,h.new⟩
theorem iO.none:iO n Go.undef:=⟨fun _=>Option.none,Go.undef,VR.undef,fun _ _=>rfl⟩
end Go.Eng

namespace Go.Eng
variable {P:Program} {T:Tr Value} {L:List Value} {H:Heap} {nx:Nat}
def Ll:KA:=fun v H nx=>some (.normal,⟨.n .e (some v) .e,[],H,nx⟩)
theorem ph {v v':Value} {H H':Heap} {nx nx':Nat} (h:Ll v H nx=Ll v' H' nx'):v=v'∧H=H'∧nx=nx':=by
 unfold Ll at h
 simp only [Option.some.injEq,Prod.mk.injEq,St.mk.injEq,Tr.n.injEq,true_and,and_true] at h
 exact h
theorem zX {a:bG Od} {v:Value} {H':Heap} {nx':Nat} (hk:bU a=.pure) (h:∀k,cm a P T L H nx k=k v H' nx'):H'=H∧nx'=nx∧∀H2 nx2 k,cm a P T L H2 nx2 k=k v H2 nx2:=by
 have key:∀H2 nx2 k,cm a P T L H2 nx2 k=dv a P T L .e fun v=>k v H2 nx2:=by
  cases a<;>first|(cases hk;done)|(intro _ _ _;rfl)
 have h1:=h Ll
 rw [key] at h1
 obtain ⟨x,g1,g2⟩:=a6 (P:=P) (T:=T) (L:=L) (H:=.e) a _ _ (h1.trans rfl)
 obtain ⟨rfl,rfl,rfl⟩:=ph (g1.trans rfl)
 exact ⟨rfl,rfl,fun H2 nx2 k=>(key H2 nx2 k).trans (g2 _)⟩
theorem zY {a:bG Od} {v:Value} {H':Heap} {nx':Nat} (hk:bU a=.load) (h:∀k,cm a P T L H nx k=k v H' nx'):H'=H∧nx'=nx∧(∀k,dv a P T L H k=k v)∧∀H2 nx2 k,cm a P T L H2 nx2 k=dv a P T L H2 fun v=>k v H2 nx2:=by
 have key:∀H2 nx2 k,cm a P T L H2 nx2 k=dv a P T L H2 fun v=>k v H2 nx2:=by
  cases a<;>first|(cases hk;done)|(intro _ _ _;rfl)
 have h1:=h Ll
 rw [key] at h1
 obtain ⟨x,g1,g2⟩:=a6 (P:=P) (T:=T) (L:=L) (H:=H) a _ _ (h1.trans rfl)
 obtain ⟨rfl,rfl,rfl⟩:=ph (g1.trans rfl)
 exact ⟨rfl,rfl,g2,key⟩
theorem B3 {a:bG Od} (hk:bU a=.make):∃F:(Value→gT→R0)→R0,bE (fun _=>True) (fun k:Value×gT→R0=>F fun v b=>k (v,b))∧∀H k,cm a P T L H nx k=F fun v b=>k v (bB (at_ nx) H (some b)) (nx + 1):=by
 cases a with
 | box x=>
  exact ⟨fun k=>a5 T L x fun v=>k (ptrTo nx) (.cells (cellsOf v)),.ev fun _=>.ret _ trivial,fun H k=>by
   show a5 T L x (fun v=>dx _ _ _ _)=_
   simp only [bQ]⟩
 | eX zero=>exact ⟨fun k=>k (ptrTo nx) (.cells zero),.ret _ trivial,fun H k=>bQ _ _ _ _⟩
 | jF z bytes zero l c=>
  refine ⟨fun k=>a5 T L l fun l=>cF l fun l=>a5 T L c fun c=>cF c fun c=>cond (and (Nat.ble l c) (and (Nat.ble (Nat.mul c bytes) small) (and (Nat.ble c small) (Nat.blt 0 z)))) (k (rS nx z l (Nat.succ (Nat.mul 2 c))) (.cells (a7 zero c))) none,
   .ev fun _=>.nat fun _=>.ev fun _=>.nat fun _=>.cond (.ret _ trivial) .no,fun H k=>?_⟩
  show a5 T L l (fun l=>cF l fun l=>a5 T L c fun c=>cF c fun c=>cond _ (dx _ _ _ _) none)=_
  simp only [bQ]
 | gz z len zero parts=>
  refine ⟨fun k=>dg T L parts fun ps=>bd (eD (a7 zero len) ps) fun cs=>cond (Nat.blt 0 z) (k (rS nx z len (Nat.succ (Nat.mul 2 len))) (.cells cs)) none,
   .parts fun _=>.bd fun _=>.cond (.ret _ trivial) .no,fun H k=>?_⟩
  show dg T L parts (fun ps=>bd _ fun cs=>cond _ (dx _ _ _ _) none)=_
  simp only [bQ]
 | Bo r=>
  refine ⟨fun k=>gR T L r 0 fun _=>k (.map (some nx)) (.map [] 0),.opt (d:=0) (F:=fun _ k=>k (Value.map (some nx),gT.map [] 0)) fun _=>.ret _ trivial,fun H k=>?_⟩
  show gR T L r 0 (fun _=>dx _ _ _ _)=_
  simp only [bQ]
 | _=>cases hk
theorem tS {a:bG Od} {v:Value} {H':Heap} {nx':Nat} (hk:bU a=.make) (h:∀k,cm a P T L H nx k=k v H' nx') :
  ∃blk,H'=bB (at_ nx) H (some blk)∧nx'=nx + 1∧∀H2 k,cm a P T L H2 nx k=k v (bB (at_ nx) H2 (some blk)) (nx + 1):=by
 obtain ⟨F,hF,key⟩:=B3 (P:=P) (T:=T) (L:=L) (nx:=nx) hk
 have h1:=h Ll
 rw [key] at h1
 obtain ⟨x,g1,g2⟩:=hF.Rk (fun x=>Ll x.1 (bB (at_ nx) H (some x.2)) (nx + 1)) _ (h1.trans rfl)
 obtain ⟨e1,e2,e3⟩:=ph (g1.trans rfl)
 refine ⟨x.2,e2.symm,e3.symm,fun H2 k=>?_⟩
 rw [key]
 exact (g2 fun x=>k x.1 (bB (at_ nx) H2 (some x.2)) (nx + 1)).trans (by rw [e1])
def mw:Value→Option Nat
 | .pointer (some a)=>some a.block
 | .map (some r)=>some r
 | _=>none
def jY {α:Type}:bG α→Option α
 | .ah x _=>some x
 | .Bn x=>some x
 | .nr x _ _ _ _=>some x
 | _=>none
theorem wC {a:bG Operand} {f:Operand→Value} {H2:Heap} (hk:bU a=.load) (hs:∀x b,jY a=some x→mw (f x)=some b→ao H2 (at_ b)=ao H (at_ b)) (k:KV) :
  dv (a.map (Av f)) P T L H2 k=dv (a.map (Av f)) P T L H k:=by
 cases a with
 | ah x agg=>
  have:=hs x
  show dm (f x) (fun b o=>cA H2 b _)=dm (f x) (fun b o=>cA H b _)
  unfold dm
  split
  ·rename_i b o e
   have:=hs x b rfl (by rw [e];rfl)
   show onRead (ao H2 (at_ b)) _=onRead (ao H (at_ b)) _
   rw [this]
  ·rfl
 | Bn x=>
  show xi H2 (f x) k=xi H (f x) k
  unfold xi
  split
  ·rfl
  ·rename_i r e
   rw [hs x r rfl (by rw [e];rfl)]
  ·rfl
 | nr x key kt zero ok=>
  show vj P kt zero ok H2 (f key) k (f x)=vj P kt zero ok H (f key) k (f x)
  unfold vj
  split
  ·rfl
  ·rename_i r e
   rw [hs x r rfl (by rw [e];rfl)]
  ·rfl
 | _=>cases hk
theorem Ii {a:bG Operand} {f:Operand→Value} {v:Value} {p:Operand→Prop} (hk:bU a=.load) (h:∀k,dv (a.map (Av f)) P T L H k=k v) (hx:∀x,jY a=some x→p x) (hf:∀x,flat (f x)=true→p x):a.all p:=by
 cases a with
 | ah x agg=>exact hx x rfl
 | Bn x=>exact hx x rfl
 | nr x key kt zero ok=>
  refine ⟨hx x rfl,hf key ?_⟩
  have h1:vj P kt zero ok H (f key) p6 (f x)=p6 v:=h p6
  unfold vj at h1
  split at h1
  ·cases hb:flat (f key) with
   | true=>rfl
   | false=>rw [hb] at h1;cases h1
  ·unfold fe at h1
   rename_i r e
   cases hg:ao H (at_ r) with
   | none=>rw [hg] at h1;cases h1
   | some b=>
    rw [hg] at h1
    cases b with
    | cells cs=>cases h1
    | ro cs=>cases h1
    | iter _ _ _ _=>cases h1
    | map es c=>
     have h2:bd (findAt P es.isEmpty kt (f key) es) (Sq es zero ok p6)=p6 v:=h1
     obtain ⟨i,hi,_⟩:=aO (h2.trans rfl)
     unfold findAt at hi
     have:=(ek hi).1
     simp only [Bool.and_eq_true] at this
     exact this.1
  ·cases h1
 | _=>cases hk
theorem n7 {u v:Value} (h:fa u v=true):u=v:=by
 unfold fa at h
 split at h
 ·rename_i a b;cases a<;>cases b<;>first|rfl|cases h
 ·simp at h;rw [h.1,h.2]
 ·rfl
 ·simp at h;rw [h]
 ·simp at h;rw [h.1,h.2]
 ·simp at h;obtain ⟨⟨h1,h2⟩,h3⟩:=h;rw [h1,h2,h3]
 ·rfl
 ·rw [Nat.eq_of_beq_eq_true h]
 ·cases h
theorem B4:∀{u v:List Value},KO u v=true→u=v:=by
 intro u
 induction u with
 | nil=>intro v h;cases v<;>first|rfl|cases h
 | cons a u ih=>
  intro v h
  cases v with
  | nil=>cases h
  | cons b v=>
   have h':(fa a b&&KO u v)=true:=h
   rw [Bool.and_eq_true] at h'
   rw [n7 h'.1,ih h'.2]
theorem E7 {u v:Value} (h:km u v=true):u=v:=by
 unfold km at h
 split at h
 ·have:=B4 h
  rename_i a b
  cases a;cases b
  simp at this
  rw [this]
 ·exact n7 h
end Go.Eng
