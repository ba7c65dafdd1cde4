import Derived.Test.YtlffogombmhmfaaGreatEa
import Derived.Laws.CopyRow
import Derived.Laws.AppendOwn
import Derived.LoopN
import Derived.Orders
/- An interpreter of the model's code that follows one order and is proved right for all: part 2. -/

namespace Go.Eng
variable {P:Program} {w:World} {ρ:bB} {H:Heap} {nx:Nat} {r:Ex×St} {T:Tr Value} {L:List Value} {ρa ρc:Operand→Value} {o:Oper} {k:KA} {ins:List Nat}
theorem VR.one {v u:Value} (h:VR ρ v u) (h1:p7 v=true):u.oneCell'=true:=by
 cases h with
 | sc h=>cases v<;>first|rfl|(simp [p7] at h1)
 | agg h=>simp [p7] at h1
 | tuple h=>simp [p7] at h1
 | any h=>cases u<;>first|rfl|(simp [tf] at h)
 | _=>rfl
theorem cL.one {a a':List Value} (h:cL ρ a a'):br a=true→∀u∈a',u.oneCell'=true:=by
 induction a generalizing a' with
 | nil=>cases h;intro _ u hu;simp at hu
 | cons v a ih=>
  cases h with
  | cons h hr=>
   intro h1 u hu
   have h2:cond (p7 v) (br a) false=true:=h1
   cases hv:p7 v with
   | false=>rw [hv] at h2;cases h2
   | true=>
    rw [hv] at h2
    rcases List.mem_cons.1 hu with rfl|hu
    ·exact h.one hv
    ·exact ih hr h2 u hu
theorem mT {b:Nat} {v:Value} {cs:List Value}:lO H nx b v k cs=k v (bD (at_ b) H (some (.cells cs))) nx:=by
 unfold lO
 rw [bN]
theorem z8 {K:List Value→R0}:∀(old:List Value) (o:Nat) (c:Value) (K:List Value→R0),sY old o c K=some r→∃l,gu old o [c]=some l∧K l=some r:=by
 intro old
 induction old with
 | nil=>intro o c K h;cases h
 | cons x old ih=>
  intro o c K h
  cases o with
  | zero=>
   refine ⟨c::old,?_,h⟩
   show dS (x::old) [c]=some (c::old)
   simp [dS]
  | succ o=>
   obtain ⟨l,h1,h2⟩:=ih o c (fun l=>K (x::l)) h
   refine ⟨x::l,?_,h2⟩
   show (Option.rec none (fun r=>some (x::r)) (gu old o [c]):Option (List Value))=some (x::l)
   rw [h1]
theorem jU {b off:Nat} {s:Ref} {old new oY l:List Value} (hH:HR ρ H nx w.heap) (hb:ak H (at_ b)=some (.cells old)) (hs:ρ b=some s) (ve:gu old off new=some l) (hn:cL ρ new oY) (h1:br new=true) :
  ∃w',(storeCells ⟨s.blk,s.sh + off,none⟩ oY).run P w=.ok () w'∧HR ρ (bD (at_ b) H (some (.cells l))) nx w'.heap∧BX ρ H w ρ (bD (at_ b) H (some (.cells l))) w':=by
 obtain ⟨s',eK,a,e,ha,lG,bC⟩:=hH.blk b _ hb
 rw [hs] at eK;cases eK
 obtain ⟨g1,g2,g3⟩:=tp off old new l ve
 have nF:=hn.length
 have nU:∀j,jM ρ (bD (at_ b) H (some (.cells l))) j→jM ρ H j:=fun j hj=>jM.mc hb hj
 by_cases h0:new=[]
 ·subst h0
  cases hn
  have pW:l=old:=by
   apply List.ext_getElem?
   intro i
   rw [g3 i,if_neg (by simp)]
  subst pW
  refine ⟨w,rfl,?_,.refl ρ,fun j hj=>.inl (nU j hj),.put _ _ _,fun _ _ _=>rfl,Nat.le_refl _,rfl,rfl,rfl⟩
  exact hH.write hb hs (fun _ _=>rfl) ⟨a,e,ha,lG,bC⟩
 ·have qo:0 < new.length:=List.length_pos_iff.2 h0
  have T9:s.sh + off + oY.length≤a.size:=by
   have:off + new.length - 1 < old.length:=by omega
   obtain ⟨y,hy,_⟩:=bC (off + new.length - 1) old[off + new.length - 1] (by simp [this])
   have:=(Array.getElem?_eq_some_iff.1 hy).1
   omega
  have bP:=run_storeCells_at P s.blk (s.sh + off) e oY 0 a w ha (by simpa using T9) (hn.one h1)
  refine ⟨_,bP,?_,.refl ρ,fun j hj=>.inl (nU j hj),.put _ _ _,fun j hj iQ=>?_,by simp,rfl,rfl,rfl⟩
  ·refine hH.write hb hs (fun j hj=>setRow_other w s.blk j _ hj) ⟨_,e,setRow_heap w s.blk a _ e _ ha,?_,fun i v hv=>?_⟩
   ·simp;omega
   ·rw [g3 i] at hv
    simp only [Nat.add_zero,List.getElem?_toArray]
    by_cases c1:off≤i∧i < off + new.length
    ·rw [if_pos c1] at hv
     obtain ⟨y,hy,oR⟩:=hn.get hv
     refine ⟨y,?_,oR⟩
     rw [List.getElem?_append_left (by simp;omega),List.getElem?_append_right (by simp;omega)]
     simp only [List.length_take,Array.length_toList]
     rw [← hy];congr 1;omega
    ·rw [if_neg c1] at hv
     obtain ⟨y,hy,oR⟩:=bC i v hv
     refine ⟨y,?_,oR⟩
     have cf:=(Array.getElem?_eq_some_iff.1 hy).1
     by_cases c2:i < off
     ·rw [List.getElem?_append_left (by simp;omega),List.getElem?_append_left (by simp;omega),List.getElem?_take,if_pos (by omega)]
      simpa using hy
     ·rw [List.getElem?_append_right (by simp;omega)]
      simp only [List.length_append,List.length_take,Array.length_toList,List.getElem?_drop]
      rw [← hy,Array.getElem?_toList];congr 1;omega
  ·refine setRow_other w s.blk j _ fun he=>iQ ⟨b,_,s,hb,rfl,hs,he.symm⟩
theorem xS {b off:Nat} {s:Ref} {old new oY:List Value} (hH:HR ρ H nx w.heap) (hb:ak H (at_ b)=some (.cells old)) (hs:ρ b=some s) (ik:off=old.length) (fq:s.sh + off + new.length≤s.size) (hn:cL ρ new oY) (h1:br new=true) :
  ∃w',(storeCells ⟨s.blk,s.sh + off,none⟩ oY).run P w=.ok () w'∧HR ρ (bD (at_ b) H (some (.cells (old++new)))) nx w'.heap∧BX ρ H w ρ (bD (at_ b) H (some (.cells (old++new)))) w':=by
 obtain ⟨s',eK,a,e,ha,lG,bC⟩:=hH.blk b _ hb
 rw [hs] at eK;cases eK
 have nF:=hn.length
 have nU:∀j,jM ρ (bD (at_ b) H (some (.cells (old++new)))) j→jM ρ H j:=fun j hj=>jM.mc hb hj
 have bP:=run_storeCells_at P s.blk (s.sh + off) e oY 0 a w ha (by simp;omega) (hn.one h1)
 refine ⟨_,bP,?_,.refl ρ,fun j hj=>.inl (nU j hj),.put _ _ _,fun j hj iQ=>?_,by simp,rfl,rfl,rfl⟩
 ·refine hH.write hb hs (fun j hj=>setRow_other w s.blk j _ hj) ⟨_,e,setRow_heap w s.blk a _ e _ ha,?_,fun i v hv=>?_⟩
  ·simp;omega
  ·simp only [Nat.add_zero,List.getElem?_toArray]
   by_cases c1:i < old.length
   ·rw [List.getElem?_append_left c1] at hv
    obtain ⟨y,hy,oR⟩:=bC i v hv
    refine ⟨y,?_,oR⟩
    have cf:=(Array.getElem?_eq_some_iff.1 hy).1
    rw [List.getElem?_append_left (by simp;omega),List.getElem?_append_left (by simp;omega),List.getElem?_take,if_pos (by omega)]
    simpa using hy
   ·rw [List.getElem?_append_right (by omega)] at hv
    obtain ⟨y,hy,oR⟩:=hn.get hv
    have cf:=(List.getElem?_eq_some_iff.1 hy).1
    refine ⟨y,?_,oR⟩
    rw [List.getElem?_append_left (by simp;omega),List.getElem?_append_right (by simp;omega)]
    simp only [List.length_take,Array.length_toList]
    rw [← hy];congr 1;omega
 ·refine setRow_other w s.blk j _ fun he=>iQ ⟨b,_,s,hb,rfl,hs,he.symm⟩
theorem vH {t:TypeId} {x v:Operand} {a:bE Operand} (ho:o.op=.store t x v) (hc:aj P ins o=some a) (ha:a.all fun x=>VR ρ (ρa x) (ρc x)) (hH:HR ρ H nx w.heap)
  (h:b7 (a.map (Av ρa)) P T L H nx k=some r):Good P w ρ H nx r k (execOp ρc o):=by
 have he:execOp ρc o=(do Instr.storeAt t (ρc x) (ρc v);pure .skip):=by simp only [execOp,ho]
 simp only [aj,ho,Option.map_eq_some_iff] at hc
 obtain ⟨n,hn,rfl⟩:=hc
 obtain ⟨hx,hv⟩:=ha
 have h':dd (ρa x) (Fp H nx n (cellsOf (ρa v)) k)=some r:=h
 obtain ⟨b,off,e1,h1⟩:=jr h'
 obtain ⟨ss,h2⟩:=bI h1
 simp only [Bool.and_eq_true] at ss
 have hlen:=Nat.eq_of_beq_eq_true ss.1
 obtain ⟨old,hb,h3⟩:=en h2
 rw [e1] at hx
 obtain ⟨s,hs,e2⟩:=hx.oQ
 have ID:=hv.cells
 have hk:∃l,gu old off (cellsOf (ρa v))=some l∧k undef (bD (at_ b) H (some (.cells l))) nx=some r:=by
  revert h3
  generalize cellsOf (ρa v)=cs
  intro h3
  match cs,h3 with
  | [],h3=>cases h3
  | [c],h3=>
   obtain ⟨l,g1,g2⟩:=z8 (K:=lO H nx b undef k) old off c (lO H nx b undef k) h3
   rw [mT] at g2
   exact ⟨l,g1,g2⟩
  | c::c'::cs,h3=>
   have h4:bd (gu old off (c::c'::cs)) (lO H nx b undef k)=some r:=h3
   obtain ⟨l,g1,g2⟩:=aL h4
   rw [mT] at g2
   exact ⟨l,g1,g2⟩
 obtain ⟨l,ve,hk⟩:=hk
 obtain ⟨w',g1,g2,g3⟩:=jU (P:=P) hH hb hs ve ID ss.2
 have lG:(ρc v).cells.size=n:=by rw [← hlen,← ID.length];simp
 rw [he]
 refine ⟨undef,_,nx,undef,w',ρ,hk,.inr ⟨?_,rfl⟩,.tuple .nil,g2,g3,Nat.le_refl _,fun _ _=>rfl⟩
 simp only [Instr.storeAt,e2,Instr.sureAddr,storeVar,Sem.run_bind,Sem.run_pure,Result.andThen_ok,dK hn]
 rw [if_neg (by rw [lG];exact fun h=>h rfl)]
 simp only [Sem.run_bind,Sem.run_pure,Result.andThen_ok,g1]
theorem wH {z m:Nat} {w':World} {b p len c:Nat} {l:List Value} (hl:l.length=m * z) (h:∀i v,l[i]?=some v→w'.cell? ⟨b,p + i,none⟩=some v) :
  (Builtin.firstCells z m (.slice (some ⟨b,p,none⟩) len c)).run P w'=.ok ⟨l⟩ w':=by
 unfold Builtin.firstCells
 exact run_loadCells hl h
theorem qp {z:Nat} {x u:Value} {K:Nat→List Value→R0} (hH:HR ρ H nx w.heap) (hv:VR ρ x u) (h:iK H z K x=some r) :
  ∃n cs,K n cs=some r∧cs.length=n * z∧(∃base len c,u=.slice base len c∧len=n)∧∀m,m≤n→∃cs',cL ρ (cs.take (m * z)) cs'∧∀w':World,w'.heap=w.heap→(Builtin.firstCells z m u).run P w'=.ok ⟨cs'⟩ w':=by
 unfold iK at h
 split at h
 ·cases hv with
  | sc h=>simp [scalar] at h
  | jL=>
   refine ⟨0,[],h,by simp,⟨_,_,_,rfl,rfl⟩,fun m hm=>⟨[],by simp;exact .nil,fun w' _=>?_⟩⟩
   simp [Builtin.firstCells,Sem.run_pure]
 ·cases hv with
  | sc h=>simp [scalar] at h
  | Ef=>
   refine ⟨0,[],h,by simp,⟨_,_,_,rfl,rfl⟩,fun m hm=>⟨[],by simp;exact .nil,fun w' _=>?_⟩⟩
   have:m=0:=by omega
   subst this
   simp [Builtin.firstCells,Sem.run_pure,loadCells,loadCellsFrom]
 ·rename_i b off z' n c
  obtain ⟨hz,h1⟩:=bI h
  have FB:=Nat.eq_of_beq_eq_true hz
  subst FB
  clear h
  cases hv with
  | sc h=>simp [scalar] at h
  | @sl _ _ _ _ _ p c' s hs hl lE he hp=>
   cases hn:Nat.beq n 0 with
   | true=>
    rw [hn] at h1
    have N3:=Nat.eq_of_beq_eq_true hn
    subst N3
    refine ⟨0,[],h1,by simp,⟨_,_,_,rfl,rfl⟩,fun m hm=>⟨[],by simp;exact .nil,fun w' _=>wH ?_ ?_⟩⟩
    ·have:m=0:=by omega
     simp [this]
    ·intro i v hi;simp at hi
   | false=>
    rw [hn] at h1
    have N3:=Nat.ne_of_beq_eq_false hn
    obtain ⟨cs0,xb,hb,T0,h2⟩:=mg h1
    obtain ⟨cs,ht,h3⟩:=aL h2
    obtain ⟨t1,t2⟩:=take?_get ht
    have t1:cs.length=n * z:=t1
    have t2:∀i,i < n * z→cs[i]?=(dH cs0 off)[i]?:=t2
    obtain ⟨s',eK,vA⟩:=hH.blk _ _ hb
    obtain ⟨a,e,fz,ha,lG,bC⟩:=T0 _ _ _ vA
    rw [hs] at eK;cases eK
    have kk:p=s.sh + off:=by rcases hp with h0|h0<;>omega
    refine ⟨n,cs,h3,t1,⟨_,_,_,rfl,rfl⟩,fun m hm=>?_⟩
    have key:∀q,q≤n * z→∃cs':List Value,cs'.length=q∧∀i,i < q→∃x y,cs[i]?=some x∧cs'[i]?=some y∧a[s.sh + off + i]?=some y∧VR ρ x y:=by
     intro q
     induction q with
     | zero=>intro _;exact ⟨[],rfl,fun i hi=>by omega⟩
     | succ q ih=>
      intro hq
      obtain ⟨l',lD,hg⟩:=ih (by omega)
      have hx:cs[q]?=some cs[q]:=List.getElem?_eq_getElem (by rw [t1];exact hq)
      have oT:=t2 q hq
      rw [hx,du,List.getElem?_drop] at oT
      obtain ⟨y,hy,oR⟩:=bC (off + q) _ oT.symm
      refine ⟨l'++[y],by simp [lD],fun i hi=>?_⟩
      by_cases e:i=q
      ·subst e
       exact ⟨_,y,hx,by simp [lD],by rw [← hy];congr 1;omega,oR⟩
      ·obtain ⟨x,z,q1,q2,q3,q4⟩:=hg i (by omega)
       exact ⟨x,z,q1,by rw [List.getElem?_append_left (by omega)];exact q2,q3,q4⟩
    have hmz:m * z≤n * z:=Nat.mul_le_mul_right _ hm
    obtain ⟨cs',lD,hg⟩:=key (m * z) hmz
    refine ⟨cs',.tg (by simp;omega) fun i x hx=>?_,fun w' Pu=>?_⟩
    ·have cf:i < m * z:=by
      have:=(List.getElem?_eq_some_iff.1 hx).1
      simp at this;omega
     rw [List.getElem?_take,if_pos cf] at hx
     obtain ⟨x',y,q1,q2,q3,q4⟩:=hg i cf
     rw [hx] at q1;cases q1
     exact ⟨y,q2,q4⟩
    ·refine wH lD fun i v hi=>?_
     have cf:i < m * z:=by rw [← lD];exact (List.getElem?_eq_some_iff.1 hi).1
     obtain ⟨x',y,q1,q2,q3,q4⟩:=hg i cf
     rw [hi] at q2;cases q2
     subst kk
     exact cell_of w' Pu ha q3
 ·cases h
theorem Cq {t ts:TypeId} {ty:TypeId} {e:TypeId} {z:Nat} {YC:Array TypeId} {x y u v:Value} (xT:YC[0]?=some t) (hu:P.underlying t=some (.slice e)) (hz:bZ P e=some z) (hH:HR ρ H nx w.heap)
  (hx:VR ρ x u) (hy:VR ρ y v) (h:iK H z (Mc z H nx k x) y=some r):Good P w ρ H nx r k (do pure (.value (← Builtin.copy_ YC ty #[u,v]))):=by
 obtain ⟨n,cs,h1,hl,⟨base,len,c,rfl,hlen⟩,xU⟩:=qp (P:=P) hH hy h
 subst hlen
 have zero:∀(b:Option Addr) (dl dc:Nat),Nat.min len dl=0→u=.slice b dl dc→k (.int .i64 (.ofNat 0)) H nx=some r→Good P w ρ H nx r k (do pure (.value (← Builtin.copy_ YC ty #[u,.slice base len c]))):=by
  intro b dl dc hm TZ hk
  obtain ⟨cs',hr,eN⟩:=xU 0 (Nat.zero_le _)
  have:cs'=[]:=by
   have:=hr.length
   simp at this
   exact this
  subst this
  refine .same hH (.sc rfl) hk ?_
  have HB:Nat.min len dl=0:=hm
  subst TZ
  simp only [Builtin.copy_,xT,List.getElem?_toArray,List.getElem?_cons_zero,List.getElem?_cons_succ,Sem.run_bind,run_underlying hu,Result.andThen_ok,Builtin.lenOf,Sem.run_pure,dK hz,HB,eN w rfl]
  cases b with
  | none=>rfl
  | some a=>rfl
 unfold Mc at h1
 split at h1
 ·cases hx with
  | sc h=>simp [scalar] at h
  | jL=>exact zero _ _ _ (Nat.min_zero _) rfl h1
 ·obtain ⟨b,off,z',dl,dc,rfl,h2⟩:=kz h1
  obtain ⟨Pv,h3⟩:=bI h2
  have FB:=Nat.eq_of_beq_eq_true Pv
  subst FB
  cases hx with
  | sc h=>simp [scalar] at h
  | @sl _ _ _ _ _ p c' s hs lD lE he hp=>
   cases hm:Nat.beq (Nat.min len dl) 0 with
   | true=>
    rw [hm] at h3
    exact zero _ _ _ (Nat.eq_of_beq_eq_true hm) rfl h3
   | false=>
    rw [hm] at h3
    have HB:=Nat.ne_of_beq_eq_false hm
    obtain ⟨En,ht,h4⟩:=aL h3
    obtain ⟨N4,h5⟩:=bI h4
    obtain ⟨old,hb,h6⟩:=en h5
    obtain ⟨l,ve,h7⟩:=aL h6
    rw [mT] at h7
    obtain ⟨t1,t2⟩:=take?_eq _ _ _ ht
    obtain ⟨cs',hr,eN⟩:=xU (Nat.min len dl) (Nat.min_le_left _ _)
    have W2:En=cs.take (Nat.min len dl * z):=t1
    rw [← W2] at hr
    have hdl:dl≠0:=by
     intro h0;subst h0
     exact HB (Nat.min_zero _)
    have kk:p=s.sh + off:=by rcases hp with h0|h0<;>omega
    subst kk
    obtain ⟨w',g1,g2,g3⟩:=jU (P:=P) hH hb hs ve hr N4
    refine ⟨_,_,nx,.int .i64 (.ofNat (Nat.min len dl)),w',ρ,h7,.inl ?_,.sc rfl,g2,g3,Nat.le_refl _,fun _ _=>rfl⟩
    simp only [Builtin.copy_,xT,List.getElem?_toArray,List.getElem?_cons_zero,List.getElem?_cons_succ,Sem.run_bind,run_underlying hu,Result.andThen_ok,Builtin.lenOf,Sem.run_pure,dK hz,eN w rfl,g1]
    rfl
end Go.Eng

namespace Go.Eng
variable {P:Program} {w:World} {ρ:bB} {H:Heap} {nx:Nat} {r:Ex×St} {T:Tr Value} {L:List Value} {ρa ρc:Operand→Value} {o:Oper} {k:KA} {ins:List Nat}
theorem qt {v:Value} {K:Nat→List MapEntry→Nat→R0} (h:oI H v K=some r):∃b es c,v=.map (some b)∧ak H (at_ b)=some (.map es c)∧K b es c=some r:=by
 unfold oI at h
 split at h
 ·obtain ⟨es,c,h1,h2⟩:=gd h
  exact ⟨_,es,c,rfl,h1,h2⟩
 ·cases h
theorem kM.append {a a' b b':List MapEntry} (h:kM ρ a a') (h':kM ρ b b'):kM ρ (a++b) (a'++b'):=by
 induction h with
 | nil=>exact h'
 | cons hk hv hb _ ih=>exact .cons hk hv hb ih
theorem kM.set {f:MapEntry→MapEntry} {v u:Value} (hv:VR ρ v u):∀{es es':List MapEntry},kM ρ es es'→∀i:Nat,(∀e',es'[i]?=some e'→(f e').key=e'.key∧(f e').val=u∧(f e').born=e'.born)→kM ρ (gQ es i v) (es'.modify i f):=by
 intro es es' h
 induction h with
 | nil=>intro i _;cases i<;>exact .nil
 | @cons e e' es es' hk lF hb hr ih=>
  intro i hf
  cases i with
  | zero=>
   obtain ⟨f1,f2,f3⟩:=hf e' rfl
   show kM ρ ({ e with val:=v }::es) (f e'::es')
   exact .cons (by rw [f1];exact hk) (by rw [f2];exact hv) (by rw [f3];exact hb) hr
  | succ i=>
   show kM ρ (e::gQ es i v) (e'::es'.modify i f)
   exact .cons hk lF hb (ih i fun YD he=>hf YD (by simpa using he))
theorem kM.abn {f:MapEntry→MapEntry}:∀{es es':List MapEntry},kM ρ es es'→∀i:Nat,(∀e',es'[i]?=some e'→(f e').key=e'.key∧(f e').val=e'.val∧(f e').born=e'.born)→kM ρ es (es'.modify i f):=by
 intro es es' h
 induction h with
 | nil=>intro i _;cases i<;>exact .nil
 | @cons e e' es es' hk lF hb hr ih=>
  intro i hf
  cases i with
  | zero=>
   obtain ⟨f1,f2,f3⟩:=hf e' rfl
   exact .cons (by rw [f1];exact hk) (by rw [f2];exact lF) (by rw [f3];exact hb) hr
  | succ i=>exact .cons hk lF hb (ih i fun YD he=>hf YD (by simpa using he))
theorem jt {b:Nat} {es:Array MapEntry} {c:Nat} (ob:Obj) (h:w.heap[b]?=some (.map es c)):(setObj b ob).run P w=.ok () { w with heap:=w.heap.setIfInBounds b ob }:=by
 simp [setObj,Sem.run,h]
theorem Good.mapped {s:Sem Next} {b:Nat} {rf:Ref} {es oU:List MapEntry} {c c2:Nat} {tq es':Array MapEntry} {v u:Value} (hH:HR ρ H nx w.heap) (hb:ak H (at_ b)=some (.map es c)) (hs:ρ b=some rf) (he:w.heap[rf.blk]?=some (.map tq c))
  (hr:kM ρ oU es'.toList) (hv:VR ρ v u) (hk:k v (bD (at_ b) H (some (.map oU c2))) nx=some r)
  (eN:s.run P w=.ok (.value u) { w with heap:=w.heap.setIfInBounds rf.blk (.map es' c2) }∨(s.run P w=.ok .skip { w with heap:=w.heap.setIfInBounds rf.blk (.map es' c2) }∧u=undef)):Good P w ρ H nx r k s:=by
 have cf:=(Array.getElem?_eq_some_iff.1 he).1
 refine ⟨v,_,nx,u,_,ρ,hk,eN,hv,?_,⟨.refl ρ,fun j hj=>.inl (jM.mc hb hj),.put _ _ _,fun j hj hn=>?_,by simp,rfl,rfl,rfl⟩,Nat.le_refl _,fun _ _=>rfl⟩
 ·refine hH.write hb hs (fun i hi=>?_) ⟨es',?_,hr⟩
  ·simp only
   rw [Array.getElem?_setIfInBounds,if_neg (fun e=>hi e.symm)]
  ·simp only
   rw [Array.getElem?_setIfInBounds,if_pos rfl,if_pos cf]
 ·have:rf.blk≠j:=fun e=>hn ⟨b,_,rf,hb,rfl,hs,e⟩
  simp only
  rw [Array.getElem?_setIfInBounds,if_neg this]
theorem wI {a b:Value} (h:Instr.sameBits 10000 a b=true):(Instr.keyThatStays a b).run P w=.ok b w:=by
 simp only [Instr.keyThatStays,h,if_true,Sem.run_pure]
theorem lH {t:TypeId} {m q x:Operand} {a:bE Operand} (ho:o.op=.mapUpdate t m q x∨o.op=.insert t m q x) (hc:aj P ins o=some a) (ha:a.all fun x=>VR ρ (ρa x) (ρc x)) (hH:HR ρ H nx w.heap)
  (h:b7 (a.map (Av ρa)) P T L H nx k=some r):Good P w ρ H nx r k (execOp ρc o):=by
 have he:execOp ρc o=(do Instr.mapUpdate t (ρc m) (ρc q) (ρc x);pure .skip):=by rcases ho with ho|ho<;>simp only [execOp,ho]
 have hc':∃kt e,P.underlying t=some (.map kt e)∧a=.HA m q x kt:=by
  rcases ho with ho|ho
  all_goals
   simp only [aj,ho] at hc
   split at hc
   ·rename_i kt e hu
    cases hc
    exact ⟨kt,e,hu,rfl⟩
   ·cases hc
 obtain ⟨kt,e,hu,rfl⟩:=hc'
 obtain ⟨hm,hq,hx⟩:=ha
 have h':oI H (ρa m) (fun b es c=>bd (findAt P false kt (ρa q) es) fun i=>Option.rec (cQ (at_ b) H (some (e6 es c (ρa q) (ρa x))) fun H=>k undef H nx) (fun i=>cQ (at_ b) H (some (.map (gQ es i (ρa x)) c)) fun H=>k undef H nx) i)=some r:=h
 obtain ⟨b,es,c,e1,hb,h1⟩:=qt h'
 obtain ⟨i,hi,h2⟩:=aL h1
 rw [e1] at hm
 generalize Pw:ρc m=mu at hm
 cases hm with
 | sc h=>simp [scalar] at h
 | @map _ s hs=>
  obtain ⟨s',eK,es',dP,hr⟩:=hH.blk _ _ hb
  rw [hs] at eK;cases eK
  obtain ⟨hf,BZ,oW⟩:=kV (w:=w) hi hr
  have fQ:=hq.gC hf
  rw [he]
  rcases oW with ⟨rfl,FQ⟩|⟨j,e1,e2,rfl,g1,g2,g3,g4,g5,g6,g7,FQ⟩
  ·have h3:cQ (at_ b) H (some (e6 es c (ρa q) (ρa x))) (fun H=>k undef H nx)=some r:=h2
   rw [bN] at h3
   refine .mapped (es':=es'.push { key:=ρa q,val:=ρc x,born:=c }) (c2:=c + 1) hH hb hs dP ?_ (.tuple .nil) h3 (.inr ⟨?_,rfl⟩)
   ·rw [Array.toList_push]
    exact hr.append (.cons (by rw [← fQ] at hq ⊢;rw [fQ];exact .of_flat hf) hx rfl .nil)
   ·simp only [Instr.mapUpdate,Sem.run_bind,run_underlying hu,Result.andThen_ok,Pw,cY w rfl dP,fQ,BZ,FQ,jt _ dP,Sem.run_pure]
  ·have h3:cQ (at_ b) H (some (.map (gQ es j (ρa x)) c)) (fun H=>k undef H nx)=some r:=h2
   rw [bN] at h3
   have nV:es'[j]?=some e2:=by rw [← Array.getElem?_toList];exact g2
   refine .mapped (es':=es'.modify j fun e=>{ e with key:=ρa q,val:=ρc x }) (c2:=c) hH hb hs dP ?_ (.tuple .nil) h3 (.inr ⟨?_,rfl⟩)
   ·rw [Array.toList_modify]
    refine hr.set hx j fun e' vd=>⟨?_,rfl,rfl⟩
    rw [g2] at vd;cases vd
    exact g5.symm
   ·simp only [Instr.mapUpdate,Sem.run_bind,run_underlying hu,Result.andThen_ok,Pw,cY w rfl dP,fQ,BZ,FQ,nV,Option.map_some,Option.getD_some,wI g7,jt _ dP,Sem.run_pure]
theorem tB {t:TypeId} {m q:Operand} {a:bE Operand} (ho:o.op=.mapEntry t m q) (hc:aj P ins o=some a) (ha:a.all fun x=>VR ρ (ρa x) (ρc x)) (hH:HR ρ H nx w.heap)
  (h:b7 (a.map (Av ρa)) P T L H nx k=some r):Good P w ρ H nx r k (execOp ρc o):=by
 have he:execOp ρc o=(do pure (.value (← Instr.mapEntry t (ρc m) (ρc q)))):=by simp only [execOp,ho]
 simp only [aj,ho] at hc
 split at hc
 ·rename_i kt e hu
  simp only [Option.map_eq_some_iff] at hc
  obtain ⟨z,hz,rfl⟩:=hc
  obtain ⟨oS,rR⟩:=gD (w:=w) hz
  obtain ⟨hm,hq⟩:=ha
  have h':oI H (ρa m) (fun b es c=>bd (findAt P false kt (ρa q) es) fun i=>Option.rec (cQ (at_ b) H (some (e6 es c (ρa q) z)) fun H=>k (.tuple #[z,.int .i64 (.ofNat c)]) H nx)
   (fun i=>bd (eU es i) fun e=>k (.tuple #[e.val,.int .i64 (.ofNat e.born)]) H nx) i)=some r:=h
  obtain ⟨b,es,c,e1,hb,h1⟩:=qt h'
  obtain ⟨i,hi,h2⟩:=aL h1
  rw [e1] at hm
  generalize Pw:ρc m=mu at hm
  cases hm with
  | sc h=>simp [scalar] at h
  | @map _ s hs=>
   obtain ⟨s',eK,es',dP,hr⟩:=hH.blk _ _ hb
   rw [hs] at eK;cases eK
   obtain ⟨hf,BZ,oW⟩:=kV (w:=w) hi hr
   have fQ:=hq.gC hf
   rw [he]
   rcases oW with ⟨rfl,FQ⟩|⟨j,e1,e2,rfl,g1,g2,g3,g4,g5,g6,g7,FQ⟩
   ·have h3:cQ (at_ b) H (some (e6 es c (ρa q) z)) (fun H=>k (.tuple #[z,.int .i64 (.ofNat c)]) H nx)=some r:=h2
    rw [bN] at h3
    refine .mapped (es':=es'.push { key:=ρa q,val:=z,born:=c }) (c2:=c + 1) hH hb hs dP ?_ (.tuple (.cons (.gG rR) (.cons (.sc rfl) .nil))) h3 (.inl ?_)
    ·rw [Array.toList_push]
     exact hr.append (.cons (.of_flat hf) (.gG rR) rfl .nil)
    ·simp only [Instr.mapEntry,Sem.run_bind,run_underlying hu,Result.andThen_ok,Pw,cY w rfl dP,fQ,BZ,FQ,oS,jt _ dP,Sem.run_pure]
     rfl
   ·have h3:bd (eU es j) (fun e=>k (.tuple #[e.val,.int .i64 (.ofNat e.born)]) H nx)=some r:=h2
    rw [tr,g1] at h3
    have nV:es'[j]?=some e2:=by rw [← Array.getElem?_toList];exact g2
    have cf:=(Array.getElem?_eq_some_iff.1 dP).1
    have bV:es'.modify j (fun e=>{ e with key:=ρa q })=es':=by
     apply Array.ext'
     rw [Array.toList_modify]
     apply List.ext_getElem?
     intro i
     rw [List.getElem?_modify]
     by_cases FT:j=i
     ·subst FT
      rw [g2]
      simp [← g5]
     ·simp [FT]
    have hw : { w with heap:=w.heap.setIfInBounds s.blk (.map es' c) } = w:=by
     have:w.heap.setIfInBounds s.blk (.map es' c)=w.heap:=by
      apply Array.ext_getElem?
      intro i
      rw [Array.getElem?_setIfInBounds]
      by_cases FT:s.blk=i
      ·subst FT;rw [if_pos rfl,if_pos cf,dP]
      ·rw [if_neg FT]
     rw [this]
    refine .same hH (.tuple (.cons g3 (.cons (.sc rfl) .nil))) h3 ?_
    simp only [Instr.mapEntry,Sem.run_bind,run_underlying hu,Result.andThen_ok,Pw,cY w rfl dP,fQ,BZ,FQ,nV,Option.map_some,Option.getD_some,wI g7,jt _ dP,Sem.run_pure,bV,hw,g4]
    rfl
 ·cases hc
theorem Aa:∀{es:List MapEntry} {b j i:Nat},jj es b j=some i→∃q,i=j + q∧q < es.length∧(∀e,es[q]?=some e→e.born=b)∧∀p,p < q→∀e,es[p]?=some e→e.born≠b:=by
 intro es
 induction es with
 | nil=>intro b j i h;cases h
 | cons e es ih=>
  intro b j i h
  unfold jj at h
  cases hb:Nat.beq e.born b with
  | true=>
   rw [hb] at h;cases h
   exact ⟨0,rfl,by simp,fun e' he=>by simp at he;subst he;exact Nat.eq_of_beq_eq_true hb,fun p hp=>by omega⟩
  | false=>
   rw [hb] at h
   obtain ⟨q,h1,h2,h3,h4⟩:=ih h
   refine ⟨q + 1,by omega,by simp;omega,fun e' he=>h3 e' (by simpa using he),fun p hp e' he=>?_⟩
   cases p with
   | zero=>simp at he;subst he;exact Nat.ne_of_beq_eq_false hb
   | succ p=>exact h4 p (by omega) e' (by simpa using he)
theorem xV {es:Array MapEntry} {b q:Nat} (hq:q < es.size) (h1:∀e,es[q]?=some e→e.born=b) (h2:∀p,p < q→∀e,es[p]?=some e→e.born≠b) :
  es.findIdx? (fun e=>(e.born:Int) == (b:Int))=some q:=by
 rw [Array.findIdx?_eq_some_iff_getElem]
 refine ⟨hq,?_,fun j hj=>?_⟩
 ·have:=h1 es[q] (by simp [hq])
  simp [this]
 ·have:=h2 j hj es[j] (by simp)
  simpa using by omega
theorem qu {t:TypeId} {m q x:Operand} {a:bE Operand} (ho:o.op=.entryStore t m q x) (hc:aj P ins o=some a) (ha:a.all fun x=>VR ρ (ρa x) (ρc x)) (hH:HR ρ H nx w.heap)
  (h:b7 (a.map (Av ρa)) P T L H nx k=some r):Good P w ρ H nx r k (execOp ρc o):=by
 have he:execOp ρc o=(do Instr.entryStore t (ρc m) (ρc q) (ρc x);pure .skip):=by simp only [execOp,ho]
 simp only [aj,ho] at hc
 cases hc
 obtain ⟨hm,hq,hx⟩:=ha
 have h':cx (ρa q) (fun b=>oI H (ρa m) fun r es c=>bd (jj es b 0) fun i=>cQ (at_ r) H (some (.map (gQ es i (ρa x)) c)) fun H=>k undef H nx)=some r:=h
 obtain ⟨kq,n,e0,h0⟩:=eC h'
 obtain ⟨b,es,c,e1,hb,h1⟩:=qt h0
 obtain ⟨i,hi,h2⟩:=aL h1
 rw [bN] at h2
 rw [e1] at hm
 rw [e0] at hq
 have fQ:=hq.gE
 generalize Pw:ρc m=mu at hm
 cases hm with
 | sc h=>simp [scalar] at h
 | @map _ s hs=>
  obtain ⟨s',eK,es',dP,hr⟩:=hH.blk _ _ hb
  rw [hs] at eK;cases eK
  obtain ⟨j,g1,g2,g3,g4⟩:=Aa hi
  have FT:i=j:=by omega
  subst FT
  have hl:=hr.length
  have Su:es'.findIdx? (fun e=>(e.born:Int) == (Int.ofNat n))=some i:=by
   refine xV (by simp at hl;omega) (fun e he=>?_) fun p hp e he=>?_
   ·obtain ⟨e0,Px,_,_,nG⟩:=hr.get (i:=i) (e':=e) (by rw [Array.getElem?_toList];exact he)
    rw [nG];exact g3 e0 Px
   ·obtain ⟨e0,Px,_,_,nG⟩:=hr.get (i:=p) (e':=e) (by rw [Array.getElem?_toList];exact he)
    rw [nG];exact g4 p hp e0 Px
  rw [he]
  refine .mapped (es':=es'.modify i fun e=>{ e with val:=ρc x }) (c2:=c) hH hb hs dP ?_ (.tuple .nil) h2 (.inr ⟨?_,rfl⟩)
  ·rw [Array.toList_modify]
   exact hr.set hx i fun e' vd=>⟨rfl,rfl,rfl⟩
  ·simp only [Instr.entryStore,Sem.run_bind,Result.andThen_ok,Pw,cY w rfl dP,fQ,gY,Su,jt _ dP,Sem.run_pure]
end Go.Eng

namespace Go.Eng
variable {P:Program} {w:World} {ρ:bB} {H:Heap} {nx:Nat} {r:Ex×St} {T:Tr Value} {L:List Value} {ρa ρc:Operand→Value} {o:Oper} {k:KA} {ins:List Nat}
theorem Ua {n:Nat} (h:n≤small):IntKind.i64.wrap (Int.ofNat n)=(n:Int):=mj h
inductive Src (P:Program) (w:World) (e:TypeId) (z:Nat) (t2:TypeId):Value→Nat→List Value→Prop where
 | cells {e2:TypeId} {b:Option Addr} {n c:Nat} {news:List Value} (ht:P.underlying t2=some (.slice e2)) (hf:∀w':World,w'.heap=w.heap→(Builtin.firstCells z n (.slice b n c)).run P w'=.ok ⟨news⟩ w'):Src P w e z t2 (.slice b n c) n news
 | eL {ki kq:IntKind} {n:Nat} {i:TypeInfo} {zv:Value} (ht:P.underlying t2=some (.int ki)) (hi:P.info? e=some i) (hz:i.zero=some zv) (hs:zv.cells.size=z) (h1:n≤small) (h2:n * i.bytes≤small) :
   Src P w e z t2 (.int kq (.ofNat n)) n (aU zv.cells.toList n)
theorem kX (zv:Value) (n:Nat):Builtin.zeroCells zv.cells n=(aU zv.cells.toList n).toArray:=by
 apply Array.ext'
 have h:=IC zv.cells.toList n
 simp only [Builtin.zeroCells,Array.toList_map,Array.toList_range]
 rw [← h]
 simp
variable {t t2 ty e:TypeId} {z:Nat} {i:TypeInfo}
theorem Ab {x:Value} {n:Nat} {news:List Value} {w':World} {g p ju il:Nat} (ht:P.underlying t=some (.slice e)) (hi:P.info? e=some i) (hz:i.size=z) (hx:Src P w e z t2 x n news) (fq:ju + n≤il)
  (bP:(storeCells ⟨g,p + ju * z,none⟩ news).run P w=.ok () w') :
  (Builtin.append_ #[t,t2] ty #[.slice (some ⟨g,p,none⟩) ju il,x]).run P w=.ok (.slice (some ⟨g,p,none⟩) (ju + n) il) w':=by
 cases hx with
 | cells zj hf=>
  simp [Builtin.append_,run_underlying ht,run_underlying zj,sizeOf,typeInfo,hi,hz,Builtin.lenOf,fq,hf w rfl,Addr.add_lit,bP]
 | @eL ki kq _ i' zv zj xO FB hs h1 h2=>
  rw [hi] at xO;cases xO
  have hw:IntKind.i64.wrap (n:Int)=(n:Int):=mj h1
  have ml:small=1099511627776:=rfl
  have hb:¬((281474976710656:Int) < (n:Int) * (i.bytes:Int)):=by
   have:((n * i.bytes:Nat):Int)≤1099511627776:=by rw [ml] at h2;omega
   have h3:(n:Int) * (i.bytes:Int)≤1099511627776:=by simpa using this
   omega
  have IE:¬((n:Int) < 0):=by omega
  by_cases h0:n * z=0
  ·have:aU zv.cells.toList n=[]:=by
    apply List.eq_nil_of_length_eq_zero
    rw [dV];simp [hs,h0]
   rw [this] at bP
   simp [Builtin.append_,run_underlying ht,run_underlying zj,sizeOf,typeInfo,hi,hz,gY,hw,hb,IE,fq,h0,Addr.add_lit,bP]
  ·simp [Builtin.append_,run_underlying ht,run_underlying zj,sizeOf,typeInfo,zeroValue,hi,hz,FB,gY,hw,hb,IE,fq,h0,Addr.add_lit,kX,bP]
theorem IF {x:Value} {news:List Value} {b:Option Addr} {ju il:Nat} (ht:P.underlying t=some (.slice e)) (hi:P.info? e=some i) (hz:i.size=z) (hx:Src P w e z t2 x 0 news) (hn:news=[]) (fq:ju≤il) :
  (Builtin.append_ #[t,t2] ty #[.slice b ju il,x]).run P w=.ok (.slice b ju il) w:=by
 subst hn
 cases hx with
 | cells zj hf=>
  cases b<;>simp [Builtin.append_,run_underlying ht,run_underlying zj,sizeOf,typeInfo,hi,hz,Builtin.lenOf,fq,hf w rfl,storeCells,Sem.run_pure]
 | @eL ki kq _ i' zv zj xO FB hs h1 h2=>
  have hw:IntKind.i64.wrap (0:Int)=(0:Int):=rfl
  cases b<;>simp [Builtin.append_,run_underlying ht,run_underlying zj,sizeOf,typeInfo,hi,hz,gY,hw,fq,storeCells,Sem.run_pure]
theorem IG {x:Value} {n:Nat} {news olds:List Value} {b:Option Addr} {ju il:Nat} {zv:Value} (ht:P.underlying t=some (.slice e)) (hi:P.info? e=some i) (hz:i.size=z) (FU:i.zero=some zv) (hx:Src P w e z t2 x n news)
  (ho:∀w':World,w'.heap=w.heap→(Builtin.firstCells z ju (.slice b ju il)).run P w'=.ok ⟨olds⟩ w')
  (hg:il < ju + n) (h63:ju + n≤small) (Ub:(ju + n) * i.bytes≤small) :
  (Builtin.append_ #[t,t2] ty #[.slice b ju il,x]).run P w=.ok (.slice (some ⟨w.heap.size,0,none⟩) (ju + n) (grownCap w (ju + n) il e))
   (w.drew.alloc (.cells (olds.toArray++news.toArray++Builtin.zeroCells zv.cells (grownCap w (ju + n) il e - (ju + n))) e)):=by
 have ml:small=1099511627776:=rfl
 rw [ml] at h63 Ub
 have hn:¬(ju + n≤il):=by omega
 have Py:¬(9223372036854775807 < ((ju:Int) + (n:Int))):=by omega
 have zQ:=growslice_fits (old:=il) (need:=ju + n) (bytes:=i.bytes) hg (by omega)
 have Pz:¬(281474976710656 < Builtin.nextslicecap (ju + n) il * i.bytes):=by omega
 cases hx with
 | cells zj hf=>
  simp [Builtin.append_,run_underlying ht,run_underlying zj,sizeOf,typeInfo,zeroValue,hi,hz,FU,Builtin.lenOf,hn,Py,Pz,Question.forced,hf w.drew rfl,ho w.drew rfl,newRow,grownCap]
  congr 2
  apply Array.ext'
  simp [List.append_assoc]
 | @eL ki kq _ i' YE zj xO FB hs h1 h2=>
  rw [hi] at xO;cases xO
  rw [FU] at FB;cases FB
  have hw:IntKind.i64.wrap (n:Int)=(n:Int):=mj h1
  have hb:¬((281474976710656:Int) < (n:Int) * (i.bytes:Int)):=by
   have:((n * i.bytes:Nat):Int)≤1099511627776:=by rw [ml] at h2;omega
   have h3:(n:Int) * (i.bytes:Int)≤1099511627776:=by simpa using this
   omega
  have IE:¬((n:Int) < 0):=by omega
  by_cases h0:n * z=0
  ·have:aU zv.cells.toList n=[]:=by
    apply List.eq_nil_of_length_eq_zero
    rw [dV];simp [hs,h0]
   rw [this]
   simp [Builtin.append_,run_underlying ht,run_underlying zj,sizeOf,typeInfo,zeroValue,hi,hz,FU,gY,hw,hb,IE,hn,Py,Pz,h0,Question.forced,ho w.drew rfl,newRow,grownCap]
  ·simp [Builtin.append_,run_underlying ht,run_underlying zj,sizeOf,typeInfo,zeroValue,hi,hz,FU,gY,hw,hb,IE,hn,Py,Pz,h0,Question.forced,ho w.drew rfl,kX,newRow,grownCap]
theorem jV {bytes:Nat} {len n:Nat} {old new:List Value} (h:dg z bytes H nx k len n old new=some r) :
  (len + n) * bytes≤small∧len + n≤small∧k (rO nx z (len + n) (2 * (len + n))) (bD (at_ nx) H (some (.cells (old++new)))) (nx + 1)=some r:=by
 unfold dg at h
 obtain ⟨hc,h1⟩:=bI h
 simp only [Bool.and_eq_true] at hc
 rw [mh] at h1
 exact ⟨Nat.le_of_ble_eq_true hc.1,Nat.le_of_ble_eq_true hc.2,h1⟩
theorem oZ {rf:Ref} {z len p c':Nat} (h:len≤c'∧c'≤dA) (hp:p=rf.sh∧p + c' * z≤rf.size):VR (ρ.with nx rf) (rO nx z len (2 * len)) (.slice (some ⟨rf.blk,p,none⟩) len c'):=by
 have h1:=h.1
 refine .sl (bB.dF _ _ _) h ?_ (fun hx=>?_) (.inr ⟨by omega,hp.2⟩)
 ·show 2 * len / 2≤c'
  omega
 ·rw [qj] at hx
  omega
theorem nW {bytes:Nat} {x:Value} {n len il:Nat} {b:Option Addr} {old new olds news:List Value} {zv:Value} (hH:HR ρ H nx w.heap) (ht:P.underlying t=some (.slice e)) (hi:P.info? e=some i) (hz:i.size=z) (hb:i.bytes=bytes) (FU:i.zero=some zv) (Uc:zv.cells.size=z)
  (hx:Src P w e z t2 x n news) (ho:∀w':World,w'.heap=w.heap→(Builtin.firstCells z len (.slice b len il)).run P w'=.ok ⟨olds⟩ w') (j7:cL ρ old olds) (vf:cL ρ new news) (Ud:old.length=len * z) (nF:new.length=n * z) (hg:il < len + n)
  (h:dg z bytes H nx k len n old new=some r):Good P w ρ H nx r k (do pure (.value (← Builtin.append_ #[t,t2] ty #[.slice b len il,x]))):=by
 obtain ⟨h1,h2,hk⟩:=jV h
 have eN:=IG (ty:=ty) ht hi hz FU hx ho hg h2 (by rw [hb];exact h1)
 have hge:=grownCap_ge w (len + n) il e
 have Ek:grownCap w (len + n) il e≤dA:=grownCap_le_maxLen w (len + n) il e (by unfold maxLen;unfold small at h2;omega)
 have lG:(olds.toArray++news.toArray++Builtin.zeroCells zv.cells (grownCap w (len + n) il e - (len + n))).size=grownCap w (len + n) il e * z:=by
  simp only [Array.size_append,List.size_toArray,size_zeroCells,j7.length,vf.length,Ud,nF,Uc]
  rw [← Nat.add_mul,← Nat.add_mul]
  congr 1
  omega
 refine .made (e:=e) (w':=w.drew.alloc (.cells (olds.toArray++news.toArray++Builtin.zeroCells zv.cells (grownCap w (len + n) il e - (len + n))) e)) hH rfl rfl rfl rfl ?_ (oZ (rf:=⟨w.heap.size,0,_⟩) ⟨hge,Ek⟩ ⟨rfl,?_⟩) hk ?_
 ·intro j y hj
  obtain ⟨y',HC,hv⟩:=(j7.append vf).get hj
  have cf:=(List.getElem?_eq_some_iff.1 HC).1
  refine ⟨y',?_,hv⟩
  rw [Array.getElem?_append_left (by simpa using cf)]
  simpa using HC
 ·rw [lG];simp
 ·simp only [Sem.run_bind,eN,Result.andThen_ok,Sem.run_pure]
theorem vI {x:Value} {n off len c' bl:Nat} {s:Ref} {cs old new news:List Value} (hH:HR ρ H nx w.heap) (ht:P.underlying t=some (.slice e)) (hi:P.info? e=some i) (hz:i.size=z)
  (hb:ak H (at_ bl)=some (.cells cs)) (hs:ρ bl=some s) (hold:take? (len * z) (dH cs off)=some old) (hx:Src P w e z t2 x n news) (vf:cL ρ new news) (nF:new.length=n * z) (h1:br new=true)
  (fq:len + n≤c') (W3:c'≤dA) (hp:s.sh + off + c' * z≤s.size)
  (hk:k (rO nx z (len + n) (2 * (len + n))) (bD (at_ nx) (bD (at_ bl) H none) (some (.cells (old++new)))) (nx + 1)=some r) :
  Good P w ρ H nx r k (do pure (.value (← Builtin.append_ #[t,t2] ty #[.slice (some ⟨s.blk,s.sh + off,none⟩) len c',x]))):=by
 obtain ⟨s',eK,a,et,ha,lG,bC⟩:=hH.blk bl _ hb
 rw [hs] at eK;cases eK
 obtain ⟨t1,t2'⟩:=take?_get hold
 have lI:=vf.length
 have hmul:len * z + n * z≤c' * z:=by rw [← Nat.add_mul];exact Nat.mul_le_mul_right _ fq
 have bP:=run_storeCells_at P s.blk (s.sh + off + len * z) et news 0 a w ha (by simp;omega) (vf.one h1)
 have eN:=Ab (ty:=ty) ht hi hz hx fq bP
 have nU:jM ρ H s.blk:=⟨bl,_,s,hb,rfl,hs,rfl⟩
 refine ⟨_,_,nx + 1,.slice (some ⟨s.blk,s.sh + off,none⟩) (len + n) c',w.setRow s.blk (a.toList.take (s.sh + off + len * z + 0)++news++a.toList.drop (s.sh + off + len * z + 0 + news.length)).toArray,ρ.with nx ⟨s.blk,s.sh + off,s.size⟩,hk,.inl (by simp only [Sem.run_bind,eN,Result.andThen_ok,Sem.run_pure]),oZ ⟨fq,W3⟩ ⟨rfl,hp⟩,?_,⟨hH.eM _,fun j hj=>?_,(Cg.put _ _ _).trans (.forget _ _),fun j hj hn=>?_,by simp,rfl,rfl,rfl⟩,Nat.le_succ _,fun b hb=>bB.fP _ _ (by omega)⟩
 ·refine (hH.forget bl).make (r:=⟨s.blk,s.sh + off,s.size⟩) (fun b1 y s1 dB a7=>?_) ⟨_,et,setRow_heap w s.blk a _ et _ ha,?_,fun j y hj=>?_⟩
  ·have cy:b1≠bl:=by
    intro e';subst e'
    rw [bk] at dB;cases dB
   rw [aO _ _ _ _ (fun e'=>cy (dO e'))] at dB
   have vJ:s1.blk≠s.blk:=fun e'=>cy (hH.inj bl b1 _ y s s1 hb dB rfl hs a7 e'.symm).symm
   exact ⟨setRow_other w s.blk s1.blk _ vJ,vJ⟩
  ·simp;omega
  ·have ext:=hH.eM ⟨s.blk,s.sh + off,s.size⟩
   simp only [Nat.add_zero,List.getElem?_toArray]
   by_cases c1:j < len * z
   ·rw [List.getElem?_append_left (by rw [t1];exact c1),t2' j c1,du,List.getElem?_drop] at hj
    obtain ⟨y',HC,hv⟩:=bC _ _ hj
    refine ⟨y',?_,hv.mono ext⟩
    have cf:=(Array.getElem?_eq_some_iff.1 HC).1
    rw [List.getElem?_append_left (by simp;omega),List.getElem?_append_left (by simp;omega),List.getElem?_take,if_pos (by omega)]
    rw [Array.getElem?_toList,← HC];congr 1;omega
   ·have W2:old.length=len * z:=t1
    rw [List.getElem?_append_right (by omega)] at hj
    obtain ⟨y',HC,hv⟩:=vf.get hj
    have cf:=(List.getElem?_eq_some_iff.1 HC).1
    refine ⟨y',?_,hv.mono ext⟩
    rw [List.getElem?_append_left (by simp;omega),List.getElem?_append_right (by simp;omega)]
    simp only [List.length_take,Array.length_toList]
    rw [← HC];congr 1;omega
 ·rcases jM.so hj with h|h
  ·have h':j=s.blk:=h
   subst h'
   exact .inl nU
  ·exact .inl (jM.mS h)
 ·exact setRow_other w s.blk j _ fun e'=>hn (by rw [e'];exact nU)
end Go.Eng

namespace Go.Eng
variable {P:Program} {w:World} {ρ:bB} {H:Heap} {nx:Nat} {r:Ex×St} {T:Tr Value} {L:List Value} {ρa ρc:Operand→Value} {o:Oper} {k:KA} {ins:List Nat}
variable {t t2 ty e:TypeId} {z:Nat} {i:TypeInfo}
theorem xW {bytes:Nat} {zero:List Value} {zv:Value} {eL:Bool} {x u:Value} {K:Nat→List Value→R0} (hi:P.info? e=some i) (hz:i.size=z) (hb:i.bytes=bytes) (FU:i.zero=some zv) (hzero:zero=zv.cells.toList) (Ue:zero.length=z) (BY:cL ρ zero zero)
  (Uf:(eL=true∧∃ki,P.underlying t2=some (.int ki))∨(eL=false∧∃e2,P.underlying t2=some (.slice e2))) (hH:HR ρ H nx w.heap) (hv:VR ρ x u) (h:xJ z bytes zero eL H x K=some r) :
  ∃n new news,K n new=some r∧new.length=n * z∧cL ρ new news∧Src P w e z t2 u n news:=by
 rcases Uf with ⟨rfl,ki,ht⟩|⟨rfl,e2,ht⟩
 ·have h':cx x (TJ bytes zero K)=some r:=h
  obtain ⟨kq,n,rfl,h1⟩:=eC h'
  obtain ⟨hc,h2⟩:=bI h1
  simp only [Bool.and_eq_true] at hc
  rw [hv.gE]
  refine ⟨n,aU zero n,aU zero n,h2,by rw [dV,Ue],BY.rep n,?_⟩
  rw [hzero]
  refine .eL ht hi FU ?_ (Nat.le_of_ble_eq_true hc.1) (by rw [hb];exact Nat.le_of_ble_eq_true hc.2)
  rw [← Ue,hzero];simp
 ·have h':iK H z K x=some r:=h
  obtain ⟨n,cs,h1,hl,⟨base,len,c,rfl,hlen⟩,xU⟩:=qp (P:=P) hH hv h'
  subst hlen
  obtain ⟨cs',hr,eN⟩:=xU len (Nat.le_refl _)
  rw [List.take_of_length_le (by omega)] at hr
  exact ⟨len,cs,cs',h1,hl,hr,.cells ht eN⟩
theorem xX {bytes:Nat} {zero:List Value} {zv:Value} {eL:Bool} {s x u v:Value} (ht:P.underlying t=some (.slice e)) (hi:P.info? e=some i) (hz:i.size=z) (hb:i.bytes=bytes) (FU:i.zero=some zv) (hzero:zero=zv.cells.toList) (Ue:zero.length=z) (BY:cL ρ zero zero)
  (Uf:(eL=true∧∃ki,P.underlying t2=some (.int ki))∨(eL=false∧∃e2,P.underlying t2=some (.slice e2))) (hH:HR ρ H nx w.heap) (hs:VR ρ s u) (hx:VR ρ x v)
  (h:xJ z bytes zero eL H x (p8 z bytes H nx k s)=some r):Good P w ρ H nx r k (do pure (.value (← Builtin.append_ #[t,t2] ty #[u,v]))):=by
 obtain ⟨n,new,news,h1,nF,vf,eF⟩:=xW (w:=w) hi hz hb FU hzero Ue BY Uf hH hx h
 have Uc:zv.cells.size=z:=by rw [← Ue,hzero];simp
 have same:∀{b:Option Addr} {len cap:Nat},n=0→u=.slice b len cap→len≤cap→k s H nx=some r→Good P w ρ H nx r k (do pure (.value (← Builtin.append_ #[t,t2] ty #[u,v]))):=by
  intro b len cap hn hu hle hk
  subst hn;subst hu
  have lI:news=[]:=by
   have:=vf.length
   apply List.eq_nil_of_length_eq_zero
   rw [this,nF];simp
  exact .same hH hs hk (by simp only [Sem.run_bind,IF (ty:=ty) ht hi hz eF lI hle,Result.andThen_ok,Sem.run_pure])
 unfold p8 at h1
 split at h1
 ·cases hs with
  | sc h=>simp [scalar] at h
  | jL=>
   cases hn:Nat.beq n 0 with
   | true=>
    rw [hn] at h1
    exact same (Nat.eq_of_beq_eq_true hn) rfl (Nat.le_refl _) h1
   | false=>
    rw [hn] at h1
    obtain ⟨_,h2⟩:=bI h1
    have N3:=Nat.ne_of_beq_eq_false hn
    exact nW hH ht hi hz hb FU Uc eF (olds:=[]) (old:=[]) (fun w' _=>by simp [Builtin.firstCells,Sem.run_pure]) .nil vf (by simp) nF (by omega) h2
 ·rename_i b off z' len c
  obtain ⟨hc,h2⟩:=bI h1
  simp only [Bool.and_eq_true] at hc
  have FB:=Nat.eq_of_beq_eq_true hc.1
  subst FB
  clear h1
  have N4:=hc.2.2
  cases hs with
  | sc h=>simp [scalar] at h
  | @sl _ _ _ _ _ p c' rf Ug hl lE he hp=>
   have hs:VR ρ (.slice (some ⟨b,off,some z⟩) len c) (.slice (some ⟨rf.blk,p,none⟩) len c'):=.sl Ug hl lE he hp
   cases hn:Nat.beq n 0 with
   | true=>
    rw [hn] at h2
    exact same (Nat.eq_of_beq_eq_true hn) rfl hl.1 h2
   | false=>
    rw [hn] at h2
    have N3:=Nat.ne_of_beq_eq_false hn
    cases fq:Nat.ble (Nat.add len n) (au c) with
    | true=>
     rw [fq] at h2
     have IH:len + n≤au c:=Nat.le_of_ble_eq_true fq
     have kk:p=rf.sh + off∧p + c' * z≤rf.size:=by
      rcases hp with h0|h0
      ·omega
      ·exact h0
     have h3:oJ z H nx k b off len c n new=some r:=h2
     unfold oJ at h3
     obtain ⟨cs,fp,h4⟩:=en h3
     obtain ⟨l,ve,h5⟩:=aL h4
     rw [mT] at h5
     have Ac:lB cs (off + len * z) new=some l:=ve
     have hmul:len * z + n * z≤c' * z:=by rw [← Nat.add_mul];exact Nat.mul_le_mul_right _ (Nat.le_trans IH lE)
     have Uh:∃w',(storeCells ⟨rf.blk,rf.sh + (off + len * z),none⟩ news).run P w=.ok () w'∧HR ρ (bD (at_ b) H (some (.cells l))) nx w'.heap∧BX ρ H w ρ (bD (at_ b) H (some (.cells l))) w':=by
      unfold lB at Ac
      cases hq:gu cs (off + len * z) new with
      | some l'=>
       rw [hq] at Ac
       cases Ac
       exact jU (P:=P) hH fp Ug hq vf N4
      | none=>
       rw [hq] at Ac
       have FV:cond (Nat.beq cs.length (off + len * z)) (some (cs++new)) none=some l:=Ac
       obtain ⟨iP,h6⟩:Nat.beq cs.length (off + len * z)=true∧some (cs++new)=some l:=by
        cases hb9:Nat.beq cs.length (off + len * z) with
        | true=>rw [hb9] at FV;exact ⟨rfl,FV⟩
        | false=>rw [hb9] at FV;cases FV
       cases h6
       exact xS (P:=P) hH fp Ug (Nat.eq_of_beq_eq_true iP).symm (by rw [nF];omega) vf N4
     obtain ⟨w',g1,g2,g3⟩:=Uh
     have YF:(storeCells ⟨rf.blk,p + len * z,none⟩ news).run P w=.ok () w':=by
      rw [kk.1,Nat.add_assoc];exact g1
     have eN:=Ab (ty:=ty) ht hi hz eF (Nat.le_trans IH lE) YF
     refine ⟨_,_,nx,.slice (some ⟨rf.blk,p,none⟩) (len + n) c',w',ρ,h5,.inl (by simp only [Sem.run_bind,eN,Result.andThen_ok,Sem.run_pure]),?_,g2,g3,Nat.le_refl _,fun _ _=>rfl⟩
     exact .sl Ug ⟨(show len + n≤c' by omega),hl.2⟩ lE he (.inr kk)
    | false=>
     rw [fq] at h2
     have hnr:¬(len + n≤au c):=fun hle=>by
      have:Nat.ble (Nat.add len n) (au c)=true:=Nat.ble_eq_true_of_le hle
      rw [fq] at this;cases this
     have h3:kO z bytes H nx k b off len c n new=some r:=h2
     unfold kO at h3
     obtain ⟨cs,fp,h4⟩:=en h3
     obtain ⟨old,hold,h5⟩:=aL h4
     have Eo:take? (len * z) (dH cs off)=some old:=hold
     obtain ⟨t1,t2'⟩:=take?_get Eo
     have Ui:∃olds,cL ρ old olds∧∀w':World,w'.heap=w.heap→(Builtin.firstCells z len (.slice (some ⟨rf.blk,p,none⟩) len c')).run P w'=.ok ⟨olds⟩ w':=by
      have hsk:iK H z (fun n1 En=>open Classical in if n1=len∧En=old then some r else none) (.slice (some ⟨b,off,some z⟩) len c)=some r:=by
       unfold iK
       have Pv:Nat.beq z z=true:=by simp
       simp only [Pv,cond_true]
       cases h0:Nat.beq len 0 with
       | true=>
        have:=Nat.eq_of_beq_eq_true h0
        subst this
        have:old=[]:=List.eq_nil_of_length_eq_zero (by rw [t1];simp)
        subst this
        simp
       | false=>
        unfold cr onRead
        rw [fp]
        show bd (take? (Nat.mul len z) (dH cs off)) (fun En=>open Classical in if len=len∧En=old then some r else none)=some r
        have:take? (Nat.mul len z) (dH cs off)=some old:=hold
        rw [this]
        show (open Classical in if len=len∧old=old then some r else none)=some r
        simp
      obtain ⟨n1,En,q1,q2,_,q5⟩:=qp (P:=P) hH hs hsk
      have Uj:n1=len∧En=old:=by
       by_cases hq:n1=len∧En=old
       ·exact hq
       ·simp [hq] at q1
      obtain ⟨rfl,rfl⟩:=Uj
      obtain ⟨olds,g1,g2⟩:=q5 n1 (Nat.le_refl _)
      rw [List.take_of_length_le (by omega)] at g1
      exact ⟨olds,g1,g2⟩
     obtain ⟨olds,j7,ho⟩:=Ui
     cases hex:exact c with
     | true=>
      rw [hex] at h5
      have:=he hex
      exact nW hH ht hi hz hb FU Uc eF ho j7 vf t1 nF (by omega) h5
     | false=>
      rw [hex] at h5
      have h6:dg z bytes (bD (at_ b) H none) nx k len n old new=some r:=by
       have h7:cQ (at_ b) H none (fun H=>dg z bytes H nx k len n old new)=some r:=h5
       rwa [bN] at h7
      by_cases fA:len + n≤c'
      ·obtain ⟨_,_,hk⟩:=jV h6
       have kk:p=rf.sh + off∧p + c' * z≤rf.size:=by
        rcases hp with h0|h0
        ·omega
        ·exact h0
       rw [kk.1]
       exact vI hH ht hi hz fp Ug Eo eF vf nF N4 fA hl.2 (by rw [← kk.1];exact kk.2) hk
      ·exact (nW (hH.forget b) ht hi hz hb FU Uc eF ho j7 vf t1 nF (by omega) h6).pre (fun j hj=>jM.mS hj) (.forget _ _)
 ·cases h1
theorem Good.congr {s s':Sem Next} (e:s=s') (h:Good P w ρ H nx r k s'):Good P w ρ H nx r k s:=e ▸ h
theorem II {ts:Array TypeId} {u:Value} (h:ts[0]?=some t):Builtin.len_ ts ty #[u]=Builtin.len_ #[t] ty #[u]:=by
 simp [Builtin.len_,h]
theorem PA {ts:Array TypeId} {u:Value} (h:ts[0]?=some t):Builtin.cap_ ts ty #[u]=Builtin.cap_ #[t] ty #[u]:=by
 simp [Builtin.cap_,h]
theorem nX {b:Builtin} {d:Call} (ho:o.op=.call d) (hb:d.callee=.builtin b):(execOp ρc o)=builtin b d.argTypes o.type (d.args.map fun | .const _=>true|_=>false) (d.args.map ρc):=by
 simp only [execOp,ho,resolve,hb]
 rfl
theorem jW {d:Call} {l:List Operand} (h:d.args.toList=l):d.args.map ρc=(l.map ρc).toArray:=by
 apply Array.ext'
 simp [h]
theorem o7 {ts:Array TypeId} {l:List TypeId} (h:ts.toList=t::l):ts[0]?=some t:=by
 rw [← Array.getElem?_toList,h];rfl
theorem PB {ts:Array TypeId} (h:ts.toList=[t,t2]):ts=#[t,t2]:=by
 apply Array.ext';rw [h]
theorem IJ {e:TypeId} {z n:Nat} {zero:List Value} (hz:bZ P e=some z) (hb:jO P e=some n) (wG:zeroCells P e=some zero):∃i zv,P.info? e=some i∧i.size=z∧i.bytes=n∧i.zero=some zv∧zero=zv.cells.toList:=by
 unfold bZ at hz
 unfold jO at hb
 obtain ⟨zv,h1,h2⟩:=cS wG
 unfold fO at h1
 cases hi:P.info? e with
 | none=>rw [hi] at hz;cases hz
 | some i=>
  rw [hi] at hz hb h1
  simp at hz hb
  simp only at h1
  cases Pv:i.zero with
  | none=>rw [Pv] at h1;cases h1
  | some YE=>
   rw [Pv] at h1
   simp only at h1
   cases hc:iL YE with
   | false=>rw [hc] at h1;cases h1
   | true=>
    rw [hc] at h1
    cases h1
    exact ⟨i,zv,rfl,hz,hb,Pv,h2⟩
theorem vK:∀{a b:List Value},br a=true→br b=true→br (a++b)=true:=by
 intro a
 induction a with
 | nil=>intro b _ hb;exact hb
 | cons x a o8=>
  intro b ha hb
  have HD:cond (p7 x) (br a) false=true:=ha
  show cond (p7 x) (br (a++b)) false=true
  cases hx:p7 x with
  | false=>rw [hx] at HD;cases HD
  | true=>rw [hx] at HD;exact o8 HD hb
theorem Cr {z:List Value} (h:br z=true):∀n,br (aU z n)=true:=by
 intro n
 induction n with
 | zero=>rfl
 | succ n ih=>exact vK h ih
theorem Ad {ts:Array TypeId} {e:TypeId} {zero:List Value} {x:Operand} {cs:Array Bool} (xT:ts[0]?=some t) (hu:P.underlying t=some (.slice e)) (wG:zeroCells P e=some zero) (hH:HR ρ H nx w.heap) (hv:VR ρ (ρa x) (ρc x))
  (h:b7 ((bE.LI x zero).map (Av ρa)) P T L H nx k=some r):Good P w ρ H nx r k (builtin .clear ts ty cs ([x].map ρc).toArray):=by
 have h':Md zero H nx k (ρa x)=some r:=h
 generalize ρa x=v at hv h'
 show Good P w ρ H nx r k (do pure (.value (← Builtin.clear_ ts ty #[ρc x])))
 generalize ρc x=u at hv
 have fin:∀w':World,(Builtin.clear_ ts ty #[u]).run P w=.ok undef w'→(do pure (.value (← Builtin.clear_ ts ty #[u])):Sem Next).run P w=.ok (.value undef) w':=by
  intro w' hw
  simp only [Sem.run_bind,hw,Result.andThen_ok,Sem.run_pure]
 unfold Md at h'
 split at h'
 ·cases hv with
  | sc h=>simp [scalar] at h
  | jL=>exact .same hH (.tuple .nil) h' (fin w (by simp [Builtin.clear_,xT,run_underlying hu];rfl))
 ·rename_i b o z n cp
  cases hv with
  | sc h=>simp [scalar] at h
  | @sl _ _ _ _ _ p c' s hs hl lE he hp=>
   cases hn:Nat.beq n 0 with
   | true=>
    rw [hn] at h'
    have:=Nat.eq_of_beq_eq_true hn
    subst this
    exact .same hH (.tuple .nil) h' (fin w (by simp [Builtin.clear_,xT,run_underlying hu];rfl))
   | false=>
    rw [hn] at h'
    have N3:=Nat.ne_of_beq_eq_false hn
    obtain ⟨hc,h1⟩:=bI h'
    rw [Bool.and_eq_true] at hc
    obtain ⟨old,hb,h2⟩:=en h1
    obtain ⟨l,ve,h3⟩:=aL h2
    rw [mT] at h3
    obtain ⟨zv,q1,q2⟩:=cS wG
    obtain ⟨oS,rR⟩:=gD (w:=w) q1
    have BY:=(eD (ρ:=ρ) wG q1).2
    have kk:p=s.sh + o:=by rcases hp with h0|h0<;>omega
    have h1r:br (aU zero n)=true:=Cr hc.2 n
    obtain ⟨w',g1,g2,g3⟩:=jU (P:=P) hH hb hs ve (BY.rep n) h1r
    refine ⟨_,_,nx,undef,w',ρ,h3,.inl (fin w' ?_),(.tuple .nil),g2,g3,Nat.le_refl _,fun _ _=>rfl⟩
    have ri:(Builtin.zeroCells zv.cells n).toList=aU zero n:=by rw [kX,q2]
    subst kk
    cases n with
    | zero=>exact absurd rfl N3
    | succ n=>
     simp only [Builtin.clear_,xT,List.getElem?_toArray,List.getElem?_cons_zero,Sem.run_bind,run_underlying hu,Result.andThen_ok,oS,ri,g1,Sem.run_pure]
     rfl
 ·cases h'
theorem wJ {mn:Bool} {vs us:List Value} {k:KV} (j6:cL ρ vs us) (h:bd (vp P mn vs) k=some r):∃x y,k x=some r∧(cond mn (Builtin.min_ #[] 0 us.toArray) (Builtin.max_ #[] 0 us.toArray)).run P w=.ok y w∧VR ρ x y:=by
 unfold vp at h
 cases hi:p6 mn vs with
 | some q=>
  rw [hi] at h
  obtain ⟨rfl,y,h1,h2⟩:=Mn (P:=P) (w:=w) j6 hi
  exact ⟨q,y,h,h1,h2⟩
 | none=>
  rw [hi] at h
  obtain ⟨e1,x,g1,g2,g3⟩:=gF (w:=w) j6 h
  rw [e1]
  exact ⟨x,x,g1,g2,g3⟩
theorem vL {b:Builtin} {d:Call} {a:bE Operand} (ho:o.op=.call d) (hb:d.callee=.builtin b) (hr:b≠.recover) (hc:aj P ins o=some a) (ha:a.all fun x=>VR ρ (ρa x) (ρc x)) (hH:HR ρ H nx w.heap)
  (h:b7 (a.map (Av ρa)) P T L H nx k=some r):Good P w ρ H nx r k (execOp ρc o):=by
 rw [nX ho hb]
 simp only [aj,ho,hb] at hc
 unfold cA at hc
 split at hc
 ·
  rename_i t t2 s x wK bQ
  rw [jW bQ,PB wK]
  split at hc
  ·rename_i e hu
   have key:∀eL z n zero,bZ P e=some z→jO P e=some n→zeroCells P e=some zero→Nat.beq zero.length z=true→((eL=true∧∃ki,P.underlying t2=some (.int ki))∨(eL=false∧∃e2,P.underlying t2=some (.slice e2)))→
     a=.app z n zero s x eL→Good P w ρ H nx r k (builtin .append #[t,t2] o.type (d.args.map fun | .const _=>true|_=>false) ([s,x].map ρc).toArray):=by
    intro eL z n zero hz hn wG hl Uf e
    subst e
    obtain ⟨i,zv,g1,g2,g3,g4,g5⟩:=IJ hz hn wG
    obtain ⟨YE,q1,q2⟩:=cS wG
    have BY:=(eD (ρ:=ρ) wG q1).2
    exact xX hu g1 g2 g3 g4 g5 (Nat.eq_of_beq_eq_true hl) BY Uf hH ha.1 ha.2 h
   split at hc
   ·rename_i z n zero ki hz hn wG zj
    cases hl:Nat.beq zero.length z with
    | false=>rw [hl] at hc;cases hc
    | true=>rw [hl] at hc;cases hc;exact key true z n zero hz hn wG hl (.inl ⟨rfl,ki,zj⟩) rfl
   ·rename_i z n zero e2 hz hn wG zj
    cases hl:Nat.beq zero.length z with
    | false=>rw [hl] at hc;cases hc
    | true=>rw [hl] at hc;cases hc;exact key false z n zero hz hn wG hl (.inr ⟨rfl,e2,zj⟩) rfl
   ·cases hc
  ·cases hc
 ·
  rename_i t l x wK bQ
  rw [jW bQ]
  have hl:∀u:Value,Builtin.len_ d.argTypes o.type #[u]=Builtin.len_ #[t] o.type #[u]:=fun u=>II (o7 wK)
  split at hc
  ·rename_i e hu
   cases hc
   exact .look (s:=Builtin.len_ #[t] o.type #[ρc x]) (by rw [← hl];rfl) hH (FI hu ha (show Ii (ρa x) (fun v=>k v H nx)=some r from h))
  ·rename_i hu
   cases hc
   exact .look (s:=Builtin.len_ #[t] o.type #[ρc x]) (by rw [← hl];rfl) hH (FJ hu ha (show Ij (ρa x) (fun v=>k v H nx)=some r from h))
  ·rename_i kt e hu
   cases hc
   exact .look (s:=Builtin.len_ #[t] o.type #[ρc x]) (by rw [← hl];rfl) hH (wD hu hH ha (show xI H (ρa x) (fun v=>k v H nx)=some r from h))
  ·cases hc
 ·
  rename_i t l x wK bQ
  rw [jW bQ]
  split at hc
  ·rename_i e hu
   cases hc
   exact .look (s:=Builtin.cap_ #[t] o.type #[ρc x]) (by rw [← PA (o7 wK)];rfl) hH (FH hu ha (show zB (ρa x) (fun v=>k v H nx)=some r from h))
  ·cases hc
 ·
  rename_i t l x y wK bQ
  rw [jW bQ]
  split at hc
  ·rename_i e hu
   split at hc
   ·rename_i z hz
    cases hc
    exact Cq (ts:=t) (o7 wK) hu hz hH ha.1 ha.2 h
   ·cases hc
  ·cases hc
 ·
  cases hc
  have h':cH T L ((d.args.toList.map ρa).map Od.aD) (fun vs=>bd (vp P true vs) fun v=>k v H nx)=some r:=by
   rw [List.map_map];exact h
  rw [oX] at h'
  obtain ⟨x,y,g1,g2,g3⟩:=wJ (w:=w) (.map fun x hx=>ha x hx) h'
  exact .look (s:=Builtin.min_ #[] 0 (d.args.toList.map ρc).toArray) (by rw [← jW rfl];rfl) hH ⟨x,y,g1,g2,g3⟩
 ·
  cases hc
  have h':cH T L ((d.args.toList.map ρa).map Od.aD) (fun vs=>bd (vp P false vs) fun v=>k v H nx)=some r:=by
   rw [List.map_map];exact h
  rw [oX] at h'
  obtain ⟨x,y,g1,g2,g3⟩:=wJ (w:=w) (.map fun x hx=>ha x hx) h'
  exact .look (s:=Builtin.max_ #[] 0 (d.args.toList.map ρc).toArray) (by rw [← jW rfl];rfl) hH ⟨x,y,g1,g2,g3⟩
 ·exact absurd rfl hr
 ·
  rename_i t l x wK bQ
  rw [jW bQ]
  split at hc
  ·rename_i e hu
   split at hc
   ·rename_i zero wG
    cases hc
    exact Ad (o7 wK) hu wG hH ha h
   ·cases hc
  ·cases hc
 ·cases hc
end Go.Eng

namespace Go.Eng
variable {P:Program} {w:World} {ρ:bB} {H:Heap} {nx:Nat} {r:Ex×St} {T:Tr Value} {L:List Value} {ρa ρc:Operand→Value} {o:Oper} {k:KA} {ins:List Nat}
theorem rj {b:Nat} {K:Option Nat→Nat→List Nat→Nat→R0} (h:lZ (ak H (at_ b)) K=some r):∃m a s c,ak H (at_ b)=some (.iter m a s c)∧K m a s c=some r:=by
 unfold lZ at h
 split at h
 ·rename_i m a s c hh;exact ⟨m,a,s,c,hh,h⟩
 ·cases h
theorem VR.sw {m:Option Nat} {u:Value} (h:VR ρ (.map m) u):(m=none∧u=.map none)∨∃b rf,m=some b∧ρ b=some rf∧u=.map (some rf.blk):=by
 cases h with
 | sc h=>simp [scalar] at h
 | rQ=>exact .inl ⟨rfl,rfl⟩
 | map h=>exact .inr ⟨_,_,rfl,h,rfl⟩
theorem Ae {t:TypeId} {x:Operand} {a:bE Operand} (ho:o.op=.range t x) (hc:aj P ins o=some a) (ha:a.all fun x=>VR ρ (ρa x) (ρc x)) (hH:HR ρ H nx w.heap)
  (h:b7 (a.map (Av ρa)) P T L H nx k=some r):Good P w ρ H nx r k (execOp ρc o):=by
 have he:execOp ρc o=(do pure (.value (← Instr.range t (ρc x)))):=by simp only [execOp,ho]
 simp only [aj,ho] at hc
 split at hc
 ·rename_i kt e hu
  cases hc
  have hx:VR ρ (ρa x) (ρc x):=ha
  have h':Mf H nx k (ρa x)=some r:=h
  unfold Mf at h'
  rw [he]
  split at h'
  ·rename_i e1
   rw [e1] at hx
   rcases hx.sw with ⟨_,e2⟩|⟨b,rf,e2,_,_⟩
   ·rw [bN] at h'
    refine .El (b:=.iter none 0 [] 0) (rf:=⟨w.heap.size,0,0⟩) (w':={ w with heap:=w.heap.push (.mapIter none 0 #[] 0) }) hH rfl rfl rfl rfl rfl rfl ⟨rfl,none,by simp,.rQ⟩ VR.fresh h' ?_
    simp only [Instr.range,Sem.run_bind,run_underlying hu,Result.andThen_ok,e2,Sem.run_pure]
    rfl
   ·cases e2
  ·rename_i b e1
   rw [e1] at hx
   obtain ⟨es,c,hb,h2⟩:=gd h'
   rw [bN] at h2
   rcases hx.sw with ⟨e2,_⟩|⟨b',rf,e2,hs,e3⟩
   ·cases e2
   ·cases e2
    obtain ⟨s',eK,es',dP,hr⟩:=hH.blk _ _ hb
    rw [hs] at eK;cases eK
    refine .El (b:=.iter (some b) c [] c) (rf:=⟨w.heap.size,0,0⟩) (w':={ w with heap:=w.heap.push (.mapIter (some rf.blk) c #[] c) }) hH rfl rfl rfl rfl rfl rfl ⟨rfl,some rf.blk,by simp,.map (hH.eM _ _ _ hs)⟩ VR.fresh h2 ?_
    simp only [Instr.range,Sem.run_bind,run_underlying hu,Result.andThen_ok,e3,cY w rfl dP,Sem.run_pure]
    rfl
  ·cases h'
 ·cases hc
theorem kM.flt {seen:List Nat} {es es':List MapEntry} (h:kM ρ es es'):kM ρ (sZ es seen) (es'.filter fun e=>!seen.toArray.contains e.born):=by
 induction h with
 | nil=>exact .nil
 | @cons e e' es es' hk hv hb _ ih=>
  unfold sZ at ih ⊢
  rw [List.filter_cons,List.filter_cons]
  have:(!seen.toArray.contains e'.born)=!seen.contains e.born:=by rw [hb];simp
  rw [this]
  cases (!seen.contains e.born) with
  | true=>exact .cons hk hv hb ih
  | false=>exact ih
theorem kM.all {p:Nat→Bool} {es es':List MapEntry} (h:kM ρ es es'):(es'.all fun e=>p e.born)=es.all fun e=>p e.born:=by
 induction h with
 | nil=>rfl
 | @cons e e' es es' hk hv hb _ ih=>
  rw [List.all_cons,List.all_cons,ih,hb]
theorem kM.emp {es es':List MapEntry} (h:kM ρ es es'):es'.isEmpty=es.isEmpty:=by cases h<;>rfl
theorem Ep {x:Value} {u:Value} {q off:Nat} {m:Option Nat} {since last:Nat} {seen:List Nat} (hH:HR ρ H nx w.heap) (hx:VR ρ x u) (e1:x=.pointer (some ⟨q,off,none⟩)) (ho:off=0) (hq:ak H (at_ q)=some (.iter m since seen last)) :
  ∃rf m',ρ q=some rf∧u=.pointer (some ⟨rf.blk,0,none⟩)∧w.heap[rf.blk]?=some (.mapIter m' since seen.toArray last)∧VR ρ (.map m) (.map m')∧rf.sh=0:=by
 subst e1
 cases hx with
 | sc h=>simp [scalar] at h
 | @ptr _ _ s hs=>
  obtain ⟨s',eK,h0,m',h1,h2⟩:=hH.blk _ _ hq
  rw [hs] at eK;cases eK
  exact ⟨s,m',hs,by rw [h0,ho],h1,h2,h0⟩
theorem jX {b:Nat} {m:Option Nat} {a c:Nat} {s:Array Nat} (h:w.heap[b]?=some (.mapIter m a s c)):(getObj b).run P w=.ok (.mapIter m a s c) w:=by
 simp [getObj,Sem.run,h]
theorem Af {b:Nat} {m:Option Nat} {a c:Nat} {s:Array Nat} (ob:Obj) (h:w.heap[b]?=some (.mapIter m a s c)):(setObj b ob).run P w=.ok () { w with heap:=w.heap.setIfInBounds b ob }:=by
 simp [setObj,Sem.run,h]
theorem rk {v:Value} {K:Nat→Nat→R0} (h:dd v K=some r):∃b o,v=.pointer (some ⟨b,o,none⟩)∧K b o=some r:=by
 unfold dd at h
 split at h
 ·exact ⟨_,_,rfl,h⟩
 ·cases h
theorem Cs {x:Operand} {a:bE Operand} (ho:o.op=.next x false) (hc:aj P ins o=some a) (ha:a.all fun x=>VR ρ (ρa x) (ρc x)) (hH:HR ρ H nx w.heap)
  (h:b7 (a.map (Av ρa)) P T L H nx k=some r):Good P w ρ H nx r k (execOp ρc o):=by
 have he:execOp ρc o=(do pure (.value (← Instr.next (ρc x) false o.type))):=by simp only [execOp,ho]
 simp only [aj,ho] at hc
 cases hc
 have hx:VR ρ (ρa x) (ρc x):=ha
 have h':dd (ρa x) (fun r' o'=>cond (Nat.beq o' 0) (lZ (ak H (at_ r')) (TL H nx k r')) none)=some r:=h
 obtain ⟨q,off,e1,h1⟩:=rk h'
 cases ik:Nat.beq off 0 with
 | false=>rw [ik] at h1;cases h1
 | true=>
  rw [ik] at h1
  have ik:=Nat.eq_of_beq_eq_true ik
  obtain ⟨m,since,seen,last,hq,h2⟩:=rj h1
  obtain ⟨rf,m',hs,e2,PC,hm,cj⟩:=Ep hH hx e1 ik hq
  rw [he]
  rcases hm.sw with ⟨rfl,e3⟩|⟨b,rb,rfl,hb,e3⟩
  ·cases e3
   have h3:k (.tuple #[.bool false]) H nx=some r:=h2
   refine .same hH (.tuple (.cons (.sc rfl) .nil)) h3 ?_
   simp only [Instr.next,e2,Sem.run_bind,jX PC,Result.andThen_ok,Sem.run_pure]
  ·cases e3
   have h3:eZ (ak H (at_ b)) (fun es c=>cond (!seen.isEmpty&&!es.isEmpty&&es.all fun e=>decide (e.born≥last)) none (Mg H nx k q b since seen c (sZ es seen)))=some r:=h2
   obtain ⟨es,c,YG,h4⟩:=gd h3
   obtain ⟨s',eK,es',dP,hr⟩:=hH.blk _ _ YG
   rw [hb] at eK;cases eK
   cases bP:(!seen.isEmpty&&!es.isEmpty&&es.all fun e=>decide (e.born≥last)) with
   | true=>rw [bP] at h4;cases h4
   | false=>
    rw [bP] at h4
    have h5:Mg H nx k q b since seen c (sZ es seen)=some r:=h4
    have hl:=hr.flt (seen:=seen)
    have IK:(!seen.toArray.isEmpty&&!es'.isEmpty&&es'.all fun e=>decide (e.born≥last))=false:=by
     rw [← bP]
     have g1:es'.all (fun e=>decide (e.born≥last))=es.all (fun e=>decide (e.born≥last)):=by
      rw [← Array.all_toList];exact hr.all (p:=fun n=>decide (n≥last))
     have g2:es'.isEmpty=es.isEmpty:=by rw [← hr.emp];simp
     rw [g1,g2];simp
    have B0:(es'.filter fun e=>!seen.toArray.contains e.born).toList=es'.toList.filter fun e=>!seen.toArray.contains e.born:=by simp
    generalize hL:es'.filter (fun e=>!seen.toArray.contains e.born)=L' at B0
    rw [← B0] at hl
    generalize hl0:sZ es seen=l0 at hl h5
    unfold Mg at h5
    split at h5
    ·have hL0:L'=#[]:=by
      cases fQ:L'.toList with
      | nil=>exact Array.toList_eq_nil_iff.1 fQ
      | cons y l=>rw [fQ] at hl;cases hl
     refine .same hH (.tuple (.cons (.sc rfl) .nil)) h5 ?_
     simp only [Instr.next,e2,Sem.run_bind,jX PC,cY w rfl dP,Result.andThen_ok,Sem.run_pure,IK,Bool.false_eq_true,if_false,hL,hL0]
     simp [choose,Sem.run,Question.forced]
    ·rename_i e
     cases HE:Nat.blt e.born since with
     | false=>rw [HE] at h5;cases h5
     | true=>
      rw [HE] at h5
      have cf:e.born < since:=Nat.le_of_ble_eq_true HE
      have h6:cQ (at_ q) H (some (.iter (some b) since (seen++[e.born]) c)) (fun H=>k (.tuple #[.bool true,e.key,e.val]) H nx)=some r:=h5
      rw [bN] at h6
      obtain ⟨e',rl,hk,hv,nG⟩:∃e',L'=#[e']∧VR ρ e.key e'.key∧VR ρ e.val e'.val∧e'.born=e.born:=by
       cases fQ:L'.toList with
       | nil=>rw [fQ] at hl;cases hl
       | cons y l=>
        rw [fQ] at hl
        cases hl with
        | cons hk hv nG rp=>
         cases rp
         exact ⟨y,by rw [← Array.toList_inj,fQ],hk,hv,nG⟩
      have iR:(#[e']:Array MapEntry).filter (fun x=>decide (x.born < since))=#[e']:=by
       simp [nG,cf]
      have nk:(#[e']:Array MapEntry).filter (fun x=>decide (x.born≥since))=#[]:=by
       simp [nG];omega
      have YH:=(Array.getElem?_eq_some_iff.1 PC).1
      refine ⟨.tuple #[.bool true,e.key,e.val],_,nx,.tuple #[.bool true,e'.key,e'.val],{ w with heap:=w.heap.setIfInBounds rf.blk (.mapIter (some rb.blk) since (seen.toArray.push e'.born) c) },ρ,h6,.inl ?_,.tuple (.cons (.sc rfl) (.cons hk (.cons hv .nil))),?_,⟨.refl ρ,fun j hj=>.inl (jM.mc hq hj),.put _ _ _,fun j hj hn=>?_,by simp,rfl,rfl,rfl⟩,Nat.le_refl _,fun _ _=>rfl⟩
      ·simp only [Instr.next,e2,Sem.run_bind,jX PC,cY w rfl dP,Result.andThen_ok,Sem.run_pure,IK,Bool.false_eq_true,if_false,hL,rl,iR,nk]
       simp [choose,Sem.run,Question.forced,Af _ PC]
      ·refine hH.write hq hs (fun i hi=>?_) ⟨cj,some rb.blk,?_,.map hb⟩
       ·simp only
        rw [Array.getElem?_setIfInBounds,if_neg (fun e=>hi e.symm)]
       ·simp only
        rw [Array.getElem?_setIfInBounds,if_pos rfl,if_pos YH,nG]
        simp
      ·have:rf.blk≠j:=fun e=>hn ⟨q,_,rf,hq,rfl,hs,e⟩
       simp only
       rw [Array.getElem?_setIfInBounds,if_neg this]
    ·cases h5
theorem kM.find {st:Nat} {es es':List MapEntry} (h:kM ρ es es') {e:MapEntry} (hf:es.find? (fun e=>e.born == st)=some e):∃e',es'.find? (fun e=>e.born == st)=some e'∧VR ρ e.key e'.key∧VR ρ e.val e'.val:=by
 induction h with
 | nil=>cases hf
 | @cons x x' es es' hk hv hb _ ih=>
  rw [List.find?_cons] at hf ⊢
  rw [hb]
  cases hx:x.born == st with
  | true=>rw [hx] at hf;cases hf;exact ⟨x',rfl,hk,hv⟩
  | false=>rw [hx] at hf;exact ih hf
theorem Ag {x:Operand} {a:bE Operand} (ho:o.op=.entry x) (hc:aj P ins o=some a) (ha:a.all fun x=>VR ρ (ρa x) (ρc x)) (hH:HR ρ H nx w.heap)
  (h:b7 (a.map (Av ρa)) P T L H nx k=some r):Good P w ρ H nx r k (execOp ρc o):=by
 have he:execOp ρc o=(do pure (.value (← Instr.entry (ρc x)))):=by simp only [execOp,ho]
 simp only [aj,ho] at hc
 cases hc
 have hx:VR ρ (ρa x) (ρc x):=ha
 have h':dd (ρa x) (fun r' o'=>cond (Nat.beq o' 0) (lZ (ak H (at_ r')) (TM H nx k)) none)=some r:=h
 obtain ⟨q,off,e1,h1⟩:=rk h'
 cases ik:Nat.beq off 0 with
 | false=>rw [ik] at h1;cases h1
 | true=>
  rw [ik] at h1
  have ik:=Nat.eq_of_beq_eq_true ik
  obtain ⟨m,since,seen,last,hq,h2⟩:=rj h1
  obtain ⟨rf,m',hs,e2,PC,hm,cj⟩:=Ep hH hx e1 ik hq
  rw [he]
  rcases hm.sw with ⟨rfl,e3⟩|⟨b,rb,rfl,hb,e3⟩
  ·have h3:(none:R0)=some r:=h2
   cases h3
  ·cases e3
   have h3:bd seen.getLast? (fun st=>eZ (ak H (at_ b)) fun es c=>cond (Nat.beq c last) (bd (es.find? fun e=>e.born == st) fun e=>k (.tuple #[e.key,e.val]) H nx) none)=some r:=h2
   obtain ⟨st,bP,h4⟩:=aL h3
   obtain ⟨es,c,YG,h5⟩:=gd h4
   obtain ⟨s',eK,es',dP,hr⟩:=hH.blk _ _ YG
   rw [hb] at eK;cases eK
   cases iP:Nat.beq c last with
   | false=>rw [iP] at h5;cases h5
   | true=>
    rw [iP] at h5
    have iP:=Nat.eq_of_beq_eq_true iP
    have h6:bd (es.find? fun e=>e.born == st) (fun e=>k (.tuple #[e.key,e.val]) H nx)=some r:=h5
    obtain ⟨e,hfe,h7⟩:=aL h6
    obtain ⟨e',T1,hk,hv⟩:=hr.find hfe
    have Uk:seen.toArray.back?=some st:=by simpa using bP
    have hfa:es'.find? (fun e=>e.born == st)=some e':=by rw [← Array.find?_toList];exact T1
    subst iP
    refine .same hH (.tuple (.cons hk (.cons hv .nil))) h7 ?_
    simp only [Instr.entry,e2,Sem.run_bind,jX PC,cY w rfl dP,Result.andThen_ok,Sem.run_pure,Uk,bne_self_eq_false,Bool.false_eq_true,if_false,hfa]
end Go.Eng

namespace Go.Eng
variable {P:Program} {w:World} {ρ:bB} {H:Heap} {nx:Nat} {r:Ex×St} {T:Tr Value} {L:List Value} {ρa ρc:Operand→Value} {o:Oper} {k:KA} {ins:List Nat}
def bE.plain {α:Type}:bE α→Bool
 | .call _ _ | .inv _ _ _ | .oC _ _ | .nA _ | .wi | .ins _ _ _ _ _=>false
 | _=>true
theorem qv {a:bE Operand} (hc:aj P ins o=some a) (hp:a.plain=true) (ha:a.all fun x=>VR ρ (ρa x) (ρc x)) (hH:HR ρ H nx w.heap)
  (h:b7 (a.map (Av ρa)) P T L H nx k=some r):Good P w ρ H nx r k (execOp ρc o):=by
 cases ho:o.op with
 | move x=>exact tu (.inl ho) hc ha hH h
 | assign x=>exact tu (.inr ho) hc ha hH h
 | pick c x y=>exact Cl ho hc ha hH h
 | alloc t=>exact z6 ho hc hH h
 | box t x=>exact FR ho hc ha hH h
 | build t xs=>exact zV ho hc ha hH h
 | buildSlice t n xs=>exact qn ho hc ha hH h
 | load t x=>exact zW ho hc ha hH h
 | store t x v=>exact vH ho hc ha hH h
 | nilCheck x=>exact tw ho hc ha hH h
 | binOp op t x y q=>exact zX (b:=true) ⟨q,ho⟩ hc ha hH h
 | unOp op t x=>exact Cn ho hc ha hH h
 | convert s d x=>exact vE ho hc ha hH h
 | makeInterface t x=>exact ni ho hc ha hH h
 | makeFunc fn xs ys=>exact tx ho hc ha hH h
 | makeMap t x=>exact vG ho hc ha hH h
 | makeSlice t x y=>exact rW ho hc ha hH h
 | slice t x lo hi mx=>exact zY ho hc ha hH h
 | fieldAddr s x f=>exact rT ho hc ha hH h
 | field s x f=>exact zZ ho hc ha hH h
 | indexAddr t x i=>exact rU ho hc ha hH h
 | index t x i=>exact z5 ho hc ha hH h
 | lookup t x i ok=>exact xR ho hc ha hH h
 | mapUpdate t m q x=>exact lH (.inl ho) hc ha hH h
 | insert t m q x=>exact lH (.inr ho) hc ha hH h
 | mapEntry t m q=>exact tB ho hc ha hH h
 | entryStore t m q x=>exact qu ho hc ha hH h
 | typeAssert x xt t ok=>exact ql ho hc ha hH h
 | extract x i=>exact vF ho hc ha hH h
 | call d=>
  cases hb:d.callee with
  | builtin b=>
   by_cases hr:b=.recover
   ·subst hr
    simp only [aj,ho,hb] at hc
    cases hl:d.args.toList with
    | nil=>
     have:a=.wi:=by
      unfold cA at hc
      rw [hl] at hc
      cases wK:d.argTypes.toList with
      | nil=>rw [wK] at hc;cases hc;rfl
      | cons t l=>rw [wK] at hc;cases l<;>(cases hc;rfl)
     subst this
     simp [bE.plain] at hp
    | cons x l=>
     exfalso
     unfold cA at hc
     rw [hl] at hc
     cases wK:d.argTypes.toList with
     | nil=>rw [wK] at hc;cases hc
     | cons t l'=>rw [wK] at hc;cases l'<;>cases hc
   ·exact vL ho hb hr hc ha hH h
  | value f=>
   exfalso
   cases f with
   | func g=>
    simp only [aj,ho,hb] at hc
    cases hg:dt ins g with
    | true=>
     rw [hg] at hc
     simp only [cond_true] at hc
     split at hc
     ·split at hc
      ·split at hc
       ·cases hc;simp [bE.plain] at hp
       ·cases hc
      ·cases hc
     ·cases hc
    | false=>rw [hg] at hc;cases hc;simp [bE.plain] at hp
   | _=>simp only [aj,ho,hb] at hc;cases hc;simp [bE.plain] at hp
  | invoke x name=>
   simp only [aj,ho,hb] at hc
   cases hc;simp [bE.plain] at hp
 | defer d=>
  simp only [aj,ho] at hc
  split at hc
  ·cases hc;simp [bE.plain] at hp
  ·cases hc
 | panic x=>simp only [aj,ho] at hc;cases hc;simp [bE.plain] at hp
 | range t x=>exact Ae ho hc ha hH h
 | next x q=>
  cases q with
  | false=>exact Cs ho hc ha hH h
  | true=>simp only [aj,ho] at hc;cases hc
 | entry x=>exact Ag ho hc ha hH h
 | _=>simp only [aj,ho] at hc;cases hc
end Go.Eng

namespace Go.Eng
variable {P:Program} {ρ:bB} {T:Tr Value} {L:List Value} {kept:List Nat} {n:Nat} {env:Env} {a:Act}
structure gZ (ρ:bB) (kept:List Nat) (n:Nat) (env:Env) (T:Tr Value) (L:List Value) (a:Act):Prop where
 size:n≤a.tmps.size
 env:∀t od,find env t=some od→VR ρ ((gW T L od).getD undef) (a.tmps.getD t undef)
 kept:∀t,dt kept t=true→VR ρ ((ak T (bY t)).getD undef) (a.tmps.getD t undef)
theorem VR.undef:VR ρ undef undef:=.tuple .nil
theorem gZ.mono {ρ':bB} (e:Ext ρ ρ') (h:gZ ρ kept n env T L a):gZ ρ' kept n env T L a:=
 ⟨h.size,fun t od ht=>(h.env t od ht).mono e,fun t ht=>(h.kept t ht).mono e⟩
theorem e7 (h:gZ ρ kept n env T L a) {x:Operand} {od:Od} (hc:cv kept n env x=some od):VR ρ ((gW T L od).getD undef) (a.eval x):=by
 cases x with
 | tmp t=>
  simp only [cv] at hc
  cases hb:Nat.blt t n with
  | false=>rw [hb] at hc;cases hc
  | true=>
   rw [hb] at hc
   simp only [cond_true] at hc
   cases hf:find env t with
   | some y=>rw [hf] at hc;cases hc;exact h.env t _ hf
   | none=>
    rw [hf] at hc
    cases hk:dt kept t with
    | false=>rw [hk] at hc;cases hc
    | true=>rw [hk] at hc;cases hc;exact h.kept t hk
 | const v=>
  simp only [cv] at hc
  cases hk:iL v with
  | false=>rw [hk] at hc;cases hc
  | true=>rw [hk] at hc;cases hc;exact .gG hk
 | func f=>cases hc;exact .func .nil .nil
 | global g=>cases hc
theorem qw {p:List Bool} {od:Od}:isVar p od=true↔od=.var p:=by
 have same:∀p q:List Bool,jn p q=true↔p=q:=by
  intro p
  induction p with
  | nil=>intro q;cases q<;>simp [jn]
  | cons b p ih=>intro q;cases q with
   | nil=>cases b<;>simp [jn]
   | cons c q=>cases b<;>cases c<;>simp [jn,ih]
 cases od with
 | var q=>
  unfold isVar
  rw [same]
  constructor
  ·intro h;rw [h]
  ·intro h;cases h;rfl
 | _=>simp [isVar]
theorem tC (v:Value) (od:Od):gW T (v::L) (shift od)=gW T L od:=by
 cases od<;>rfl
theorem Ct:∀(env:Env) (t:Nat),find (cC env) t=(find env t).map shift:=by
 intro env
 induction env with
 | nil=>intro t;rfl
 | cons p env ih=>
  intro t
  obtain ⟨u,x⟩:=p
  show (bif Nat.beq u t then some (shift x) else find (cC env) t)=Option.map shift (bif Nat.beq u t then some x else find env t)
  cases Nat.beq u t with
  | true=>rfl
  | false=>exact ih t
theorem xY:∀(env:Env) (d t:Nat),find (eV env d) t=if t=d then none else find env t:=by
 intro env
 induction env with
 | nil=>intro d t;simp [eV,find]
 | cons p env ih=>
  intro d t
  obtain ⟨u,x⟩:=p
  have Sw:=ih d t
  unfold eV at Sw ⊢
  rw [List.filter_cons]
  by_cases hu:u=d
  ·subst hu
   simp only [Nat.beq_refl,Bool.not_true,Bool.false_eq_true,if_false]
   rw [Sw]
   by_cases ht:t=u
   ·simp [ht]
   ·rw [if_neg ht,if_neg ht]
    show find env t=(bif Nat.beq u t then some x else find env t)
    have:Nat.beq u t=false:=by
     cases hb:Nat.beq u t with
     | false=>rfl
     | true=>exact absurd (Nat.eq_of_beq_eq_true hb).symm ht
    rw [this];rfl
  ·have hb:(!(Nat.beq u d))=true:=by
    cases hb:Nat.beq u d with
    | false=>rfl
    | true=>exact absurd (Nat.eq_of_beq_eq_true hb) hu
   simp only [hb,if_true]
   show (bif Nat.beq u t then some x else find (env.filter fun p=>!(Nat.beq p.1 d)) t)=if t=d then none else (bif Nat.beq u t then some x else find env t)
   cases hut:Nat.beq u t with
   | true=>
    have:=Nat.eq_of_beq_eq_true hut
    subst this
    rw [if_neg hu];rfl
   | false=>exact Sw
theorem gZ.put {v u:Value} {d:Nat} {keep:Option (List Bool)} {T':Tr Value} (h:gZ ρ kept n env T L a) (hv:VR ρ v u) (hd:d < n)
  (hT:(keep=none∧T'=T∧dt kept d=false)∨(∃p,keep=some p∧p=bY d∧T'=bD p T (some v)∧(cC env).any (fun e=>isVar p e.2)=false)) :
  gZ ρ kept n ((d,.loc 0)::eV (cC env) d) T' (v::L) (a.put (some d) u):=by
 have nV:∀t,(a.put (some d) u).tmps.getD t undef=if t=d then u else a.tmps.getD t undef:=by
  intro t
  have YI:d < a.tmps.size:=Nat.lt_of_lt_of_le hd h.size
  show (a.tmps.setIfInBounds d u).getD t undef=_
  simp only [Array.getD_eq_getD_getElem?,Array.getElem?_setIfInBounds]
  by_cases ht:d=t
  ·subst ht;simp [YI]
  ·rw [if_neg ht,if_neg (fun e=>ht e.symm)]
 refine ⟨by show n≤(a.tmps.setIfInBounds d u).size;simpa using h.size,fun t od ht=>?_,fun t ht=>?_⟩
 ·rw [nV]
  by_cases HF:t=d
  ·subst HF
   have:od=.loc 0:=by
    unfold find at ht
    simp at ht
    exact ht.symm
   subst this
   rw [if_pos rfl]
   exact hv
  ·rw [if_neg HF]
   have hf:find (eV (cC env) d) t=some od:=by
    have hb:Nat.beq d t=false:=by
     cases hb:Nat.beq d t with
     | false=>rfl
     | true=>exact absurd (Nat.eq_of_beq_eq_true hb).symm HF
    simp only [find] at ht
    rw [hb] at ht
    exact ht
   rw [xY,if_neg HF,Ct] at hf
   cases he:find env t with
   | none=>rw [he] at hf;cases hf
   | some x=>
    rw [he] at hf
    cases hf
    have h0:=h.env t x he
    have xZ:gW T' (v::L) (shift x)=gW T (v::L) (shift x):=by
     rcases hT with ⟨_,rfl,_⟩|⟨p,_,_,rfl,vM⟩
     ·rfl
     ·cases x with
      | var q=>
       have cy:q≠p:=by
        intro e;subst e
        have tD:∀(env:Env) (t:Nat) (x:Od),find env t=some x→(t,x)∈env:=by
         intro env
         induction env with
         | nil=>intro t x hx;cases hx
         | cons y env ih=>
          intro t x hx
          obtain ⟨a,b⟩:=y
          unfold find at hx
          cases hb:Nat.beq a t with
          | true=>
           rw [hb] at hx;cases hx
           have:=Nat.eq_of_beq_eq_true hb
           subst this
           exact List.mem_cons_self
          | false=>rw [hb] at hx;exact List.mem_cons_of_mem _ (ih t x hx)
        have h1:=tD _ _ _ he
        have h2:(t,shift (.var q))∈cC env:=List.mem_map.2 ⟨_,h1,rfl⟩
        have h3:=List.any_eq_false.1 vM _ h2
        exact h3 (qw.2 rfl)
       show ak (bD p T (some v)) q=ak T q
       exact aO _ _ _ _ cy
      | _=>rfl
    rw [xZ,tC]
    exact h0
 ·rw [nV]
  rcases hT with ⟨_,rfl,hk⟩|⟨p,_,rfl,rfl,_⟩
  ·have:t≠d:=by intro e;subst e;rw [hk] at ht;cases ht
   rw [if_neg this]
   exact h.kept t ht
  ·by_cases HF:t=d
   ·subst HF
    rw [if_pos rfl,bk]
    exact hv
   ·rw [if_neg HF,aO _ _ _ _ (by rw [ie,ie];exact fun e=>HF (dO e))]
    exact h.kept t ht
end Go.Eng

namespace Go.Eng
inductive lQ (ρ:bB):List PanicEntry→List PanicEntry→Prop
 | nil:lQ ρ [] []
 | cons {e e':PanicEntry} {l l':List PanicEntry} (hv:VR ρ e.v e'.v) (hr:e'.recovered=e.recovered) (hg:e'.goexit=e.goexit) (h:lQ ρ l l'):lQ ρ (e::l) (e'::l')
theorem lQ.mono {ρ ρ':bB} (e:Ext ρ ρ') {l l':List PanicEntry} (h:lQ ρ l l'):lQ ρ' l l':=by
 induction h with
 | nil=>exact .nil
 | cons hv hr hg _ ih=>exact .cons (hv.mono e) hr hg ih
def Mr (ρ:bB) (x:eQ) (d:Deferred):Prop:=
 ∃f a a' c c' vs,x.1=.func (.func f) ⟨a⟩ ⟨c⟩∧d = { target:=.fn (.func f) ⟨c'⟩,args:=⟨a'++vs⟩ }∧cL ρ a a'∧cL ρ c c'∧cL ρ x.2 vs
inductive gv (ρ:bB):List eQ→List Deferred→Prop
 | nil:gv ρ [] []
 | cons {x:eQ} {d:Deferred} {l:List eQ} {l':List Deferred} (hx:Mr ρ x d) (h:gv ρ l l'):gv ρ (x::l) (d::l')
theorem Mr.mono {ρ ρ':bB} (e:Ext ρ ρ') {x:eQ} {d:Deferred} (h:Mr ρ x d):Mr ρ' x d:=by
 obtain ⟨f,a,a',c,c',vs,h1,h2,h3,h4,h5⟩:=h
 exact ⟨f,a,a',c,c',vs,h1,h2,h3.mono e,h4.mono e,h5.mono e⟩
theorem gv.mono {ρ ρ':bB} (e:Ext ρ ρ') {l:List eQ} {l':List Deferred} (h:gv ρ l l'):gv ρ' l l':=by
 induction h with
 | nil=>exact .nil
 | cons hx _ ih=>exact .cons (hx.mono e) ih
structure jv (ρ:bB) (H:Heap) (nx:Nat) (w:World) (ρ':bB) (H':Heap) (nx':Nat) (w':World):Prop where
 hr:HR ρ' H' nx' w'.heap
 fF:BX ρ H w ρ' H' w'
 le:nx≤nx'
 low:∀b,b < nx→ρ' b=ρ b
theorem jv.refl {ρ:bB} {H:Heap} {nx:Nat} {w:World} (h:HR ρ H nx w.heap):jv ρ H nx w ρ H nx w:=⟨h,.refl ρ H w,Nat.le_refl _,fun _ _=>rfl⟩
theorem jv.trans {ρ ρ1 ρ2:bB} {H H1 H2:Heap} {nx aT nx2:Nat} {w w1 w2:World} (h:jv ρ H nx w ρ1 H1 aT w1) (h':jv ρ1 H1 aT w1 ρ2 H2 nx2 w2):jv ρ H nx w ρ2 H2 nx2 w2:=
 ⟨h'.hr,h.fF.trans h'.fF,Nat.le_trans h.le h'.le,fun b hb=>(h'.low b (Nat.lt_of_lt_of_le hb h.le)).trans (h.low b hb)⟩
def Ah (ρ:bB) (H:Heap) (nx:Nat) (w:World) (c:cV) (e:Ending) (w':World):Prop:=match c with
 | .ok v H' nx'=>∃u ρ',e=.returned u∧VR ρ' v u∧jv ρ H nx w ρ' H' nx' w'
 | .nA ch H' nx'=>∃vN ρ',e=.panicked vN∧lQ ρ' ch vN∧jv ρ H nx w ρ' H' nx' w'
def er (P:Program) (g:FuncId):Prop:=∃fn,P.funcs[g]?=some fn∧fn.body.isNone=false∧(fn.name == "runtime.NumGoroutine")=false
theorem er.run {P:Program} {g:FuncId} {w:World} {args:Array Value} (h:er P g):(callFunc g args).run P w=.ok (.enter g args) w:=by
 obtain ⟨fn,h1,h2,h3⟩:=h
 have hp:(program).run P w=.ok P w:=rfl
 simp only [callFunc,Sem.run_bind,hp,Result.andThen_ok,h1,h2,h3,Bool.false_eq_true,if_false,Sem.run_pure]
def fC (P:Program) (r:jk):Prop:=∀g vs H nx c,r.call g vs H nx=some c→er P g∧∀ρ us w,cL ρ vs us→HR ρ H nx w.heap→Calls P g ⟨us⟩ w (Ah ρ H nx w c)
def ExR (ρ:bB):Ex→Exit→Prop
 | .normal,.normal=>True
 | .exit i,.exit j=>i=j
 | .ret,.ret=>True
 | .panic ch,.panic vN=>lQ ρ ch vN
 | _,_=>False
structure FW (ρ:bB) (kept:List Nat) (n:Nat) (T:Tr Value) (D:List eQ) (a:Act):Prop where
 env:gZ ρ kept n [] T [] a
 oC:gv ρ D a.defers
def kB (ρ:bB) (H:Heap) (nx:Nat) (w:World) (kept:List Nat) (n:Nat) (o:Ex×St) (e:Exit) (a':Act) (w':World):Prop:=
 ∃ρ',jv ρ H nx w ρ' o.2.H o.2.nx w'∧FW ρ' kept n o.2.T o.2.D a'∧ExR ρ' o.1 e
def fD (P:Program) (ins kept:List Nat) (n:Nat) (f:RC) (c:Code):Prop:=
 ∀T D H nx o,f T D H nx=some o→∀ρ a w,HR ρ H nx w.heap→FW ρ kept n T D a→c.wp P (kB ρ H nx w kept n o) a w
end Go.Eng

namespace Go.Eng
variable {P:Program} {ins kept:List Nat} {n:Nat}
theorem kB.trans {ρ ρ1:bB} {H H1:Heap} {nx aT:Nat} {w w1:World} {o:Ex×St} {e:Exit} {a':Act} {w':World} (h:jv ρ H nx w ρ1 H1 aT w1) (h':kB ρ1 H1 aT w1 kept n o e a' w'):kB ρ H nx w kept n o e a' w':=by
 obtain ⟨ρ',h1,h2,h3⟩:=h'
 exact ⟨ρ',h.trans h1,h2,h3⟩
theorem Ms:fD P ins kept n Im .skip:=by
 intro T D H nx o h ρ a w hH ha
 cases h
 exact wp_skip ⟨ρ,.refl hH,ha,trivial⟩
theorem Mt {id:Nat}:fD P ins kept n (NV id) (.exit id):=by
 intro T D H nx o h ρ a w hH ha
 cases h
 exact wp_exit ⟨ρ,.refl hH,ha,rfl⟩
theorem PD:fD P ins kept n TR .ret:=by
 intro T D H nx o h ρ a w hH ha
 cases h
 exact wp_ret ⟨ρ,.refl hH,ha,trivial⟩
theorem qx {k:RC} {Q:Exit→Act→World→Prop} {o1 o:Ex×St} {ρ:bB} {H:Heap} {nx:Nat} {w:World} {N:Act→World→Prop} (h:ma k o1=some o)
  (hk:∀st:St,k st.T st.D st.H st.nx=some o→∀ρ1 a1 w1,jv ρ H nx w ρ1 st.H st.nx w1→FW ρ1 kept n st.T st.D a1→N a1 w1) {e:Exit} {a1:Act} {w1:World} (hq:kB ρ H nx w kept n o1 e a1 w1) :
  Exit.then N (kB ρ H nx w kept n o) e a1 w1:=by
 obtain ⟨ex,st⟩:=o1
 obtain ⟨ρ1,g1,g2,g3⟩:=hq
 cases ex with
 | normal=>
  cases e with
  | normal=>exact hk st h ρ1 a1 w1 g1 g2
  | _=>exact g3.elim
 | exit i=>
  cases e with
  | exit j=>cases h;exact ⟨ρ1,g1,g2,g3⟩
  | _=>exact g3.elim
 | ret=>
  cases e with
  | ret=>cases h;exact ⟨ρ1,g1,g2,g3⟩
  | _=>exact g3.elim
 | panic ch=>
  cases e with
  | panic vN=>cases h;exact ⟨ρ1,g1,g2,g3⟩
  | _=>exact g3.elim
theorem PE {f g:RC} {x y:Code} (hf:fD P ins kept n f x) (hg:fD P ins kept n g y):fD P ins kept n (TQ f g) (.seq x y):=by
 intro T D H nx o h ρ a w hH ha
 obtain ⟨o1,h1,h2⟩:=aL h
 refine wp_seq (wp_mono (hf T D H nx o1 h1 ρ a w hH ha) fun e a1 w1 hq=>?_)
 exact qx (N:=y.wp P (kB ρ H nx w kept n o)) (Q:=kB ρ H nx w kept n o) h2 (fun st bP ρ1 a1 w1 g1 g2=>wp_mono (hg _ _ _ _ o bP ρ1 a1 w1 g1.hr g2) fun e a2 w2 hq=>.trans g1 hq) hq
theorem Mu {f g:RC} {x y:Code} {c:Operand} {od:Od} (hc:cv kept n ([]:Env) c=some od) (hf:fD P ins kept n f x) (hg:fD P ins kept n g y):fD P ins kept n (NT od f g) (.cond c x y):=by
 intro T D H nx o h ρ a w hH ha
 have h':aS T [] od (fun v=>fx v (f T D H nx) (g T D H nx))=some o:=h
 rw [b6] at h'
 obtain ⟨v,hv,h1⟩:=aL h'
 have hr:=e7 ha.env hc
 rw [hv] at hr
 rcases mf h1 with ⟨e,h2⟩|⟨e,h2⟩
 ·subst e
  exact wp_cond_true hr.oP (hf T D H nx o h2 ρ a w hH ha)
 ·subst e
  exact wp_cond_false hr.oP (hg T D H nx o h2 ρ a w hH ha)
theorem IL {f:RC} {x:Code} {id:Nat} (hf:fD P ins kept n f x):fD P ins kept n (Io id f) (.block id x):=by
 intro T D H nx o h ρ a w hH ha
 obtain ⟨o1,h1,h2⟩:=aL h
 refine wp_block (wp_mono (hf T D H nx o1 h1 ρ a w hH ha) fun e a1 w1 hq=>?_)
 obtain ⟨ex,st⟩:=o1
 obtain ⟨ρ1,g1,g2,g3⟩:=hq
 cases ex with
 | normal=>
  cases e with
  | normal=>cases h2;exact ⟨ρ1,g1,g2,trivial⟩
  | _=>exact g3.elim
 | exit i=>
  cases e with
  | exit j=>
   have FT:i=j:=g3
   subst FT
   have h3:cond (Nat.beq i id) (stay .normal st) (stay (.exit i) st)=some o:=by
    have h4:(cond (Nat.beq i id) (stay .normal) (stay (.exit i))) st=some o:=h2
    cases hb:Nat.beq i id<;>(rw [hb] at h4;exact h4)
   show (if i=id then kB ρ H nx w kept n o .normal a1 w1 else kB ρ H nx w kept n o (.exit i) a1 w1)
   cases hb:Nat.beq i id with
   | true=>
    rw [hb] at h3
    rw [if_pos (Nat.eq_of_beq_eq_true hb)]
    cases h3;exact ⟨ρ1,g1,g2,trivial⟩
   | false=>
    rw [hb] at h3
    rw [if_neg (Nat.ne_of_beq_eq_false hb)]
    cases h3;exact ⟨ρ1,g1,g2,rfl⟩
  | _=>exact g3.elim
 | ret=>
  cases e with
  | ret=>cases h2;exact ⟨ρ1,g1,g2,trivial⟩
  | _=>exact g3.elim
 | panic ch=>
  cases e with
  | panic vN=>cases h2;exact ⟨ρ1,g1,g2,g3⟩
  | _=>exact g3.elim
def o9 (P:Program) (kept:List Nat) (n:Nat) (f:RC) (m:Nat) (c:Code):Prop:=
 ∀T D H nx o,f T D H nx=some o→∀ρ a w,HR ρ H nx w.heap→FW ρ kept n T D a→Code.rounds P c (kB ρ H nx w kept n o) m a w
theorem Ai {c:Code} {Q Q':Exit→Act→World→Prop} (hq:∀e a w,Q e a w→Q' e a w):∀m a w,Code.rounds P c Q m a w→Code.rounds P c Q' m a w:=by
 intro m
 induction m with
 | zero=>intro a w h;exact h
 | succ m ih=>
  intro a w h
  refine wp_mono (show c.wp P (Exit.then (Code.rounds P c Q m) Q) a w from h) fun e a1 w1 h1=>?_
  cases e<;>first|exact ih _ _ h1|exact hq _ _ _ h1
theorem rq {r:jk} {ac:a8} {f:RC} {x:Code} {m:Nat} (hf:fD P ins kept n f x) (hr:o9 P kept n (r.code (.loop ac)) m x):o9 P kept n (NU r ac f) (m + 1) x:=by
 intro T D H nx o h ρ a w hH ha
 obtain ⟨o1,h1,h2⟩:=aL h
 refine wp_mono (hf T D H nx o1 h1 ρ a w hH ha) fun e a1 w1 hq=>?_
 exact qx (Q:=kB ρ H nx w kept n o) h2 (fun st bP ρ1 a1 w1 g1 g2=>Ai (fun e a2 w2 hq=>.trans g1 hq) _ _ _ (hr _ _ _ _ o bP ρ1 a1 w1 g1.hr g2)) hq
theorem Mv {f:RC} {x:Code} {m:Nat} (h:o9 P kept n f m x):fD P ins kept n f (.loop x):=by
 intro T D H nx o hf ρ a w hH ha
 exact wp_loop_rounds m (h T D H nx o hf ρ a w hH ha)
end Go.Eng

namespace Go.Eng
variable {P:Program} {ins kept:List Nat} {n:Nat} {A:aG} {rn:jk}
theorem Aj {T:Tr Value} {p:Option (List Bool)} {v:Value} {k:Tr Value→R0}:Il T p v k=k (match p with|none=>T|some p=>bD p T (some v)):=by
 cases p with
 | none=>rfl
 | some p=>exact bN p T (some v) k
theorem g8 {p:Option (List Bool)} {k:RL} {T:Tr Value} {L:List Value} {D:List eQ} {v:Value} {H:Heap} {nx:Nat} :
  bn P p [] k T L D v H nx=k (match p with|none=>T|some p=>bD p T (some v)) (v::L) D H nx:=by
 unfold bn
 rw [Aj]
 rfl
theorem N5 {o:AO} {ag:List bx} {l:List (AO×List bx)}:bt A rn ((o,ag)::l)=opG A rn o ag (bt A rn l):=rfl
theorem PF {ops:List Oper} {ek:List Nat} {done:Nat} {env:Env} {bh:Nat}:∀{l:List Nat},(∀j∈l,Nat.testBit bh j=true)→kS P kept n ops ek done env bh l=some []:=by
 intro l
 induction l with
 | nil=>intro _;rfl
 | cons j l ih=>
  intro h
  unfold kS
  rw [ih fun i hi=>h i (List.mem_cons_of_mem _ hi),h j List.mem_cons_self]
  rfl
theorem map_map {α β γ:Type} (f:α→β) (g:β→γ) (a:bE α):(a.map f).map g=a.map (fun x=>g (f x)):=by
 cases a<;>simp only [bE.map,List.map_map,Option.map_map]<;>rfl
theorem Ak {env:Env} {T:Tr Value} {L:List Value} {a:bE Operand} {b:bE Od} (h:a.fy (cv kept n env)=some b) :
  b.map (gB T L)=a.map (Av fun x=>(gW T L ((cv kept n env x).getD (.loc 0))).getD undef):=by
 obtain ⟨h1,_⟩:=gX (.loc 0) h
 rw [h1,map_map]
 rfl
theorem Mw {ρ:bB} {env:Env} {T:Tr Value} {L:List Value} {a:bE Operand} {b:bE Od} {c:Act} (h:a.fy (cv kept n env)=some b) (he:gZ ρ kept n env T L c) :
  a.all fun x=>VR ρ ((gW T L ((cv kept n env x).getD (.loc 0))).getD undef) (c.eval x):=by
 obtain ⟨_,h2⟩:=gX (.loc 0) h
 refine kA (fun x hx=>?_) h2
 obtain ⟨y,hy⟩:=hx
 rw [hy]
 exact e7 he hy
theorem FX {ρ:bB} {env:Env} {T:Tr Value} {L:List Value} {H:Heap} {nx:Nat} {w:World} {o:Oper} {a:bE Operand} {b:bE Od} {c:Act} {r:Ex×St} {k:KA} (hc:aj P ins o=some a) (hp:a.plain=true) (h:a.fy (cv kept n env)=some b) (he:gZ ρ kept n env T L c)
  (hH:HR ρ H nx w.heap) (hr:b7 b P T L H nx k=some r):Good P w ρ H nx r k (execOp c.eval o):=by
 have h1:=Ee (T':=T) (L':=L) hr
 rw [Ak h] at h1
 exact qv hc hp (Mw h he) hH h1
theorem tE {ρ:bB} {env:Env} {T:Tr Value} {L:List Value} {c:Act} {ops:List Oper} {o:Oper} {g:Option (Nat×Bool)} (h:gU ops env o.guard=some g) (he:gZ ρ kept n env T L c) :
  Region.wanted o (yielded ops.toArray c.tmps)=wanted L g:=by
 unfold Region.wanted
 cases hg:o.guard with
 | none=>rw [hg] at h;cases h;rfl
 | some p=>
  obtain ⟨j,want⟩:=p
  rw [hg] at h
  simp only [gU] at h
  cases hj:ops[j]? with
  | none=>rw [hj] at h;cases h
  | some q=>
   rw [hj] at h
   simp only at h
   cases hd:q.dst with
   | none=>rw [hd] at h;cases h
   | some t=>
    rw [hd] at h
    simp only at h
    cases hf:find env t with
    | none=>rw [hf] at h;cases h
    | some x=>
     rw [hf] at h
     simp only [Option.map_eq_some_iff] at h
     obtain ⟨d,hx,rfl⟩:=h
     have oT:x=.loc d:=by cases x<;>simp [zE] at hx;rw [hx]
     subst oT
     have hv:=he.env t _ hf
     show (yielded ops.toArray c.tmps j == some want)=wo want (Cd L d)
     rw [oO]
     have xZ:gW T L (.loc d)=L[d]?:=rfl
     rw [xZ] at hv
     have hy:yielded ops.toArray c.tmps j=match c.tmps.getD t undef with | .bool b=>some b|_=>none:=by
      unfold yielded
      simp only [List.getElem?_toArray,hj,Option.bind_some,hd,Array.getD_eq_getD_getElem?]
      cases c.tmps[t]? with
      | none=>rfl
      | some v=>cases v<;>rfl
     rw [hy]
     generalize c.tmps.getD t undef=u at hv
     cases hL:L[d]? with
     | none=>
      rw [hL] at hv
      have:u=undef:=by
       cases hv with
       | sc h=>rfl
       | tuple h=>cases h;rfl
      subst this
      rfl
     | some v=>
      rw [hL] at hv
      have lF:VR ρ v u:=hv
      show _=nC want v
      cases lF with
      | sc h=>cases u<;>first|rfl|(rename_i b;cases b<;>cases want<;>rfl)|(simp [scalar] at h)
      | any h=>cases u<;>first|rfl|(simp [tf] at h)
      | _=>rfl
end Go.Eng

namespace Go.Eng
variable {P:Program} {ins kept:List Nat} {n:Nat} {A:aG} {rn:jk}
def qy (A:aG) (p:Option (List Bool)) (ag:List bx) (k:RL) (r:Ex×St) (ρ:bB) (T:Tr Value) (L:List Value) (H:Heap) (nx:Nat) (w:World) (o:Oper) (c:Act) (next:Act→World→Prop):Prop:=
 ∀(v:Value) (H':Heap) (nx':Nat) (D':List eQ) (ρ':bB) (u:Value) (w':World) (c':Act),bn A.P p ag k T L D' v H' nx'=some r→VR ρ' v u→jv ρ H nx w ρ' H' nx' w'→gv ρ' D' c'.defers→c'.tmps=c.tmps→next (c'.put o.dst u) w'
def pd (r:Ex×St) (ρ:bB) (T:Tr Value) (D:List eQ) (H:Heap) (nx:Nat) (w:World) (c:Act) (Q:Exit→Act→World→Prop):Prop:=
 ∀ch vN ρ' H' nx' w',r=(.panic ch,⟨T,D,H',nx'⟩)→lQ ρ' ch vN→jv ρ H nx w ρ' H' nx' w'→Q (.panic vN) c w'
theorem iZ {b:bE Od} (h:b.plain=true):pV b=dz:=by
 cases b<;>first|rfl|(simp [bE.plain] at h)|skip
theorem FY {α β:Type} (f:α→β) (a:bE α):(a.map f).plain=a.plain:=by cases a<;>rfl
theorem IM {ρ:bB} {env:Env} {T:Tr Value} {L:List Value} {D:List eQ} {H:Heap} {nx:Nat} {w:World} {o:Oper} {a:bE Operand} {b:bE Od} {c:Act} {r:Ex×St} {p:Option (List Bool)} {ag:List bx} {k:RL}
  {next:Act→World→Prop} {Q:Exit→Act→World→Prop} (hA:A.P=P) (hc:aj P ins o=some a) (hp:a.plain=true) (h:a.fy (cv kept n env)=some b) (he:gZ ρ kept n env T L c) (hD:gv ρ D c.defers)
  (hH:HR ρ H nx w.heap) (hr:pV b A rn p ag k b T L D H nx=some r) (hn:qy A p ag k r ρ T L H nx w o c next):o.upon P c next Q ((execOp c.eval o).run P w):=by
 have hb:b.plain=true:=by
  rw [(gX (.loc 0) h).1,FY];exact hp
 rw [iZ hb] at hr
 have nn:b7 b P T L H nx (bn A.P p ag k T L D)=some r:=by rw [← hA];exact hr
 obtain ⟨v,H',nx',u,w',ρ',h1,h2,h3,h4,h5,h6,h7⟩:=FX hc hp h he hH nn
 have N6:=hn v H' nx' D ρ' u w' c h1 h3 ⟨h4,h5,h6,h7⟩ (hD.mono h5.ext) rfl
 rcases h2 with h2|⟨h2,rfl⟩
 ·rw [h2];exact N6
 ·rw [h2];exact N6
theorem nY {ρ:bB} {env:Env} {T:Tr Value} {L:List Value} {c:Act} (he:gZ ρ kept n env T L c):∀{xs:List Operand} {ys:List Od} {vs:List Value},gz (cv kept n env) xs=some ys→nE T L ys=some vs→cL ρ vs (xs.map c.eval):=by
 intro xs
 induction xs with
 | nil=>intro ys vs h1 h2;cases h1;cases h2;exact .nil
 | cons x xs ih=>
  intro ys vs h1 h2
  unfold gz at h1
  cases hx:cv kept n env x with
  | none=>simp [hx] at h1
  | some y=>
   cases Ul:gz (cv kept n env) xs with
   | none=>simp [hx,Ul] at h1
   | some YJ=>
    simp [hx,Ul] at h1
    subst h1
    unfold nE at h2
    cases hv:gW T L y with
    | none=>simp [hv] at h2
    | some v=>
     cases j6:nE T L YJ with
     | none=>simp [hv,j6] at h2
     | some NZ=>
      simp [hv,j6] at h2
      subst h2
      have:=e7 he hx
      rw [hv] at this
      exact .cons this (ih Ul j6)
theorem Al {ρ:bB} {T:Tr Value} {L:List Value} {D:List eQ} {H:Heap} {nx:Nat} {w:World} {o:Oper} {c:Act} {r:Ex×St} {p:Option (List Bool)} {ag:List bx} {k:RL} {g:FuncId} {vs us:List Value}
  {next:Act→World→Prop} {Q:Exit→Act→World→Prop} (cF:fC P rn) (hD:gv ρ D c.defers) (hH:HR ρ H nx w.heap) (j6:cL ρ vs us) (hr:bd (rn.call g vs H nx) (dq A.P p ag k T L D)=some r)
  (he:(execOp c.eval o).run P w=(callFunc g ⟨us⟩).run P w)
  (hn:qy A p ag k r ρ T L H nx w o c next) (hq:pd r ρ T D H nx w c Q):o.upon P c next Q ((execOp c.eval o).run P w):=by
 obtain ⟨ret,h1,h2⟩:=aL hr
 obtain ⟨np,iP⟩:=cF g vs H nx ret h1
 rw [he,np.run,Oper.upon_enter]
 refine (iP ρ us w j6 hH).mono fun e w' gL=>?_
 cases ret with
 | ok v H' nx'=>
  obtain ⟨u,ρ',rfl,hv,hw⟩:=gL
  exact hn v H' nx' D ρ' u w' c h2 hv hw (hD.mono hw.fF.ext) rfl
 | nA ch H' nx'=>
  obtain ⟨vN,ρ',rfl,oD,hw⟩:=gL
  have h3:some (Ex.panic ch,(⟨T,D,H',nx'⟩:St))=some r:=h2
  cases h3
  exact hq ch vN ρ' H' nx' w' rfl oD hw
theorem Mx {ρ:bB} {env:Env} {T:Tr Value} {L:List Value} {D:List eQ} {H:Heap} {nx:Nat} {w:World} {o:Oper} {d:Call} {f:Operand} {f':Od} {im:List Od} {c:Act} {r:Ex×St} {p:Option (List Bool)} {ag:List bx} {k:RL}
  {next:Act→World→Prop} {Q:Exit→Act→World→Prop} (cF:fC P rn) (ho:o.op=.call d) (Cu:d.callee=.value f) (hf:cv kept n env f=some f') (bQ:gz (cv kept n env) d.args.toList=some im) (he:gZ ρ kept n env T L c) (hD:gv ρ D c.defers)
  (hH:HR ρ H nx w.heap) (hr:pV (.call f' im) A rn p ag k (.call f' im) T L D H nx=some r) (hn:qy A p ag k r ρ T L H nx w o c next) (hq:pd r ρ T D H nx w c Q):o.upon P c next Q ((execOp c.eval o).run P w):=by
 have nn:aS T L f' (fun f=>cH T L im fun vs=>fh vs (fun g vs=>bd (rn.call g vs H nx) (dq A.P p ag k T L D)) f)=some r:=hr
 rw [b6] at nn
 obtain ⟨fv,pX,h1⟩:=aL nn
 rw [dJ] at h1
 obtain ⟨vs,j6,h2⟩:=aL h1
 have Um:=e7 he hf
 rw [pX] at Um
 have Un:=nY he bQ j6
 unfold fh at h2
 split at h2
 ·rename_i g first captured
  have IN:VR ρ (.func (.func g) first captured) (c.eval f):=Um
  generalize hu:c.eval f=u at IN
  cases IN with
  | sc h=>simp [scalar] at h
  | @func _ a a' q q' h3 h4=>
   refine Al cF hD hH (vs:=a++vs++q) (us:=a'++d.args.toList.map c.eval++q') ((h3.append Un).append h4) h2 ?_ hn hq
   simp only [execOp,ho,resolve,Cu,hu,Deferred.ofValue,Sem.run_bind,Sem.run_pure,Result.andThen_ok,invoke]
   congr 2
   apply Array.ext'
   simp
 ·cases h2
theorem PG {ρ:bB} {env:Env} {T:Tr Value} {L:List Value} {D:List eQ} {H:Heap} {nx:Nat} {w:World} {o:Oper} {x:Operand} {x':Od} {c:Act} {r:Ex×St} {p:Option (List Bool)} {ag:List bx} {k:RL}
  {next:Act→World→Prop} {Q:Exit→Act→World→Prop} (ho:o.op=.panic x) (hx:cv kept n env x=some x') (he:gZ ρ kept n env T L c)
  (hH:HR ρ H nx w.heap) (hr:pV (.nA x') A rn p ag k (.nA x') T L D H nx=some r) (hq:pd r ρ T D H nx w c Q):o.upon P c next Q ((execOp c.eval o).run P w):=by
 have nn:aS T L x' (zD T D H nx)=some r:=hr
 rw [b6] at nn
 obtain ⟨v,hv,h1⟩:=aL nn
 have Cv:=e7 he hx
 rw [hv] at Cv
 unfold zD at h1
 split at h1
 ·rename_i t v
  have IP:VR ρ (.iface t v) (c.eval x):=Cv
  generalize hu:c.eval x=u at IP
  cases IP with
  | sc h=>simp [scalar] at h
  | @iface _ _ u' lF=>
   cases h1
   have eN:(execOp c.eval o).run P w=.halt (.panic (.iface t u')) w:=by
    simp only [execOp,ho,hu]
    rfl
   rw [eN,Oper.upon_panic]
   exact hq _ _ ρ H nx w rfl (.cons (.iface lF) rfl rfl .nil) (.refl hH)
 ·cases h1
theorem PH {ρ:bB} {env:Env} {T:Tr Value} {L:List Value} {D:List eQ} {H:Heap} {nx:Nat} {w:World} {o:Oper} {d:Call} {f:Operand} {f':Od} {im:List Od} {c:Act} {r:Ex×St} {p:Option (List Bool)} {ag:List bx} {k:RL}
  {next:Act→World→Prop} {Q:Exit→Act→World→Prop} (ho:o.op=.defer d) (Cu:d.callee=.value f) (hf:cv kept n env f=some f') (bQ:gz (cv kept n env) d.args.toList=some im) (he:gZ ρ kept n env T L c) (hD:gv ρ D c.defers)
  (hH:HR ρ H nx w.heap) (hr:pV (.oC f' im) A rn p ag k (.oC f' im) T L D H nx=some r) (hn:qy A p ag k r ρ T L H nx w o c next):o.upon P c next Q ((execOp c.eval o).run P w):=by
 have nn:aS T L f' (fun f=>cH T L im fun vs=>p9 f (bn A.P p ag k T L ((f,vs)::D) undef H nx))=some r:=hr
 rw [b6] at nn
 obtain ⟨fv,pX,h1⟩:=aL nn
 rw [dJ] at h1
 obtain ⟨vs,j6,h2⟩:=aL h1
 have Um:=e7 he hf
 rw [pX] at Um
 have Un:=nY he bQ j6
 unfold p9 at h2
 split at h2
 ·rename_i g first captured
  have IN:VR ρ (.func (.func g) first captured) (c.eval f):=Um
  generalize hu:c.eval f=u at IN
  cases IN with
  | sc h=>simp [scalar] at h
  | @func _ a a' q q' h3 h4=>
   have eN:(execOp c.eval o).run P w=.ok (.defer { target:=.fn (.func g) ⟨q'⟩,args:=⟨a'++d.args.toList.map c.eval⟩ }) w:=by
    simp only [execOp,ho,resolve,Cu,hu,Deferred.ofValue,Sem.run_bind,Sem.run_pure,Result.andThen_ok]
    congr 3
    apply Array.ext'
    simp
   rw [eN,Oper.upon_defer]
   exact hn undef H nx _ ρ undef w { c with defers:=_::c.defers } h2 .undef (.refl hH) (.cons ⟨g,a,a',q,q',_,rfl,rfl,h3,h4,Un⟩ hD) rfl
 ·cases h2
end Go.Eng

namespace Go.Eng
variable {P:Program} {ins kept:List Nat} {n:Nat} {A:aG} {rn:jk} {ρ:bB} {H:Heap} {nx:Nat} {w:World} {r:Ex×St}
theorem Cw (t:TypeId):xG P t=oM P t:=rfl
theorem Am {α:Type} (p:α→Bool) (a:Array α):a.find? p=a.toList.find? p:=by simp
theorem ya {fuel:Nat} {t:TypeId} {v u:Value} {name:String} {m:FuncId×Option (Option Nat)} {k:Value→R0} (hH:HR ρ H nx w.heap) (hv:VR ρ v u) (hm:methodOf P t name=some m) (hr:zC H v m.2 k=some r) :
  ∃x y,k x=some r∧(method (fuel + 1) t u name).run P w=.ok (m.1,y) w∧VR ρ x y:=by
 unfold methodOf at hm
 split at hm
 ·rename_i i hi
  split at hm
  ·rename_i q hq
   have fQ:i.methods.find? (·.name == name)=some q:=by rw [Am];exact hq
   cases hp:q.path.isEmpty with
   | false=>rw [hp] at hm;cases hm
   | true=>
    rw [hp] at hm
    simp only [cond_true] at hm
    have IQ:q.path.toList=[]:=by
     have:q.path=#[]:=by simpa using hp
     rw [this]
    have YK:(typeInfo t).run P w=.ok i w:=ky hi
    split at hm
    ·rename_i f e hf hu
     cases hm
     refine ⟨v,u,hr,?_,hv⟩
     simp only [method,Sem.run_bind,YK,Result.andThen_ok,fQ,IQ,follow,Sem.run_pure,hf,receiverAt,run_underlying hu,Place.get]
    ·rename_i f e hf hu
     cases hg:xG P e with
     | none=>simp [hg] at hm
     | some g=>
      simp [hg] at hm
      subst hm
      have nn:(dd v fun b o=>cr H b fun cs=>bd (partOf cs o g) k)=some r:=hr
      obtain ⟨b,o,rfl,h1⟩:=jr nn
      obtain ⟨cs,xb,hb,T0,h2⟩:=mg h1
      obtain ⟨x,hx,h3⟩:=aL h2
      obtain ⟨s,hs,rfl⟩:=hv.oQ
      obtain ⟨s',eK,vA⟩:=hH.blk b _ hb
      have vA:=T0 _ _ _ vA
      rw [hs] at eK;cases eK
      obtain ⟨y,hy,oR⟩:=tk (w:=w) (Cw e ▸ hg) vA hx
      refine ⟨x,y,h3,?_,oR⟩
      simp only [method,Sem.run_bind,YK,Result.andThen_ok,fQ,IQ,follow,Sem.run_pure,hf,receiverAt,run_underlying hu,Place.get]
      have BZ:∀nm:String,(Builtin.ssaWrapNilChk_ #[t] t #[.pointer (some ⟨s.blk,s.sh + o,none⟩),strVal "",strVal nm]).run P w=.ok (.pointer (some ⟨s.blk,s.sh + o,none⟩)) w:=fun _=>rfl
      have has:(asAddr (.pointer (some ⟨s.blk,s.sh + o,none⟩))).run P w=.ok ⟨s.blk,s.sh + o,none⟩ w:=rfl
      simp only [hp,if_true,Sem.run_bind,BZ,has,Result.andThen_ok,hy,Sem.run_pure]
    ·rename_i f d hn hf hu
     cases hm
     refine ⟨v,u,hr,?_,hv⟩
     simp only [method,Sem.run_bind,YK,Result.andThen_ok,fQ,IQ,follow,Sem.run_pure,hf,receiverAt,run_underlying hu,Place.get]
    ·cases hm
  ·cases hm
 ·cases hm
theorem PI {env:Env} {T:Tr Value} {L:List Value} {D:List eQ} {o:Oper} {d:Call} {x:Operand} {name:String} {x':Od} {im:List Od} {c:Act} {p:Option (List Bool)} {ag:List bx} {k:RL}
  {next:Act→World→Prop} {Q:Exit→Act→World→Prop} (hA:A.P=P) (cF:fC P rn) (ho:o.op=.call d) (Cu:d.callee=.invoke x name) (hx:cv kept n env x=some x') (bQ:gz (cv kept n env) d.args.toList=some im) (he:gZ ρ kept n env T L c) (hD:gv ρ D c.defers)
  (hH:HR ρ H nx w.heap) (hr:pV (.inv x' name im) A rn p ag k (.inv x' name im) T L D H nx=some r) (hn:qy A p ag k r ρ T L H nx w o c next) (hq:pd r ρ T D H nx w c Q):o.upon P c next Q ((execOp c.eval o).run P w):=by
 have nn:aS T L x' (fun x=>cH T L im fun vs=>ng A.P name H (fun g v=>bd (rn.call g (v::vs) H nx) (dq A.P p ag k T L D)) x)=some r:=hr
 rw [b6] at nn
 obtain ⟨xv,hxv,h1⟩:=aL nn
 rw [dJ] at h1
 obtain ⟨vs,j6,h2⟩:=aL h1
 have Cv:=e7 he hx
 rw [hxv] at Cv
 have Un:=nY he bQ j6
 unfold ng at h2
 split at h2
 ·rename_i t v
  obtain ⟨m,hm,h3⟩:=aL h2
  rw [hA] at hm
  have IP:VR ρ (.iface t v) (c.eval x):=Cv
  generalize hu:c.eval x=u at IP
  cases IP with
  | sc h=>simp [scalar] at h
  | @iface _ _ u' lF=>
   have hd:0 < Made.depth:=by decide
   have Uo:∃q,P.types.size + Made.depth=q + 1:=⟨P.types.size + Made.depth - 1,by omega⟩
   obtain ⟨q,fQ⟩:=Uo
   obtain ⟨y,z,h4,h5,h6⟩:=ya (w:=w) (fuel:=q) hH lF hm h3
   refine Al cF hD hH (vs:=y::vs) (us:=z::d.args.toList.map c.eval) (.cons h6 Un) h4 ?_ hn hq
   have hp:(program).run P w=.ok P w:=rfl
   simp only [execOp,ho,resolve,Cu,hu,Sem.run_bind,Sem.run_pure,Result.andThen_ok,invoke]
   have nV:(#[Value.iface t u']++d.args.map c.eval)[0]?=some (.iface t u'):=by rw [Array.getElem?_append_left (by simp)];rfl
   simp only [nV,callMethod,Sem.run_bind,hp,Result.andThen_ok,fQ,h5]
   congr 2
   apply Array.ext'
   simp
   rw [List.take_of_length_le (by simp)]
 ·cases h2
end Go.Eng

namespace Go.Eng
variable {P:Program} {ins kept:List Nat} {n:Nat} {A:aG} {rn:jk} {ρ:bB} {H:Heap} {nx:Nat} {w:World} {r:Ex×St}
def My (o:Oper):bE Operand→Prop
 | .call f args=>∃d,o.op=.call d∧d.callee=.value f∧args=d.args.toList
 | .inv x name args=>∃d,o.op=.call d∧d.callee=.invoke x name∧args=d.args.toList
 | .oC f args=>∃d,o.op=.defer d∧d.callee=.value f∧args=d.args.toList
 | .nA x=>o.op=.panic x
 | _=>True
theorem My.plain {o:Oper} {a:bE Operand} (h:a.plain=true):My o a:=by
 cases a<;>first|trivial|(simp [bE.plain] at h)
theorem nq {b:Builtin} {ts:Array TypeId} {args:Array Operand} {o:Oper} {a:bE Operand} (h:cA P b ts args=some a):My o a:=by
 unfold cA at h
 repeat' split at h
 all_goals first
  | (cases h;done)
  | (cases h;trivial)
  | (revert h;generalize Nat.beq _ _=q;intro h;cases q<;>first|(cases h;done)|(cases h;trivial))
theorem dv {α:Type} {c:Bool} {x:Option α} {a:α} (h:(bif c then x else none)=some a):x=some a:=by
 cases c
 ·cases h
 ·exact h
theorem pe {o:Oper} {a:bE Operand} (h:aj P ins o=some a):My o a:=by
 cases ho:o.op with
 | call d=>
  simp only [aj,ho] at h
  cases hc:d.callee with
  | builtin b=>simp only [hc] at h;exact nq h
  | invoke x name=>simp only [hc] at h;cases h;exact ⟨d,ho,hc,rfl⟩
  | value f=>
   cases f with
   | func g=>
    simp only [hc] at h
    cases hg:dt ins g with
    | true=>
     rw [hg] at h
     simp only [cond_true] at h
     repeat' split at h
     all_goals first|(cases h;done)|(cases h;trivial)
    | false=>rw [hg] at h;cases h;exact ⟨d,ho,hc,rfl⟩
   | _=>simp only [hc] at h;cases h;exact ⟨d,ho,hc,rfl⟩
 | defer d=>
  simp only [aj,ho] at h
  split at h
  ·rename_i f hc;cases h;exact ⟨d,ho,hc,rfl⟩
  ·cases h
 | panic x=>simp only [aj,ho] at h;cases h;exact ho
 | binOp op t x y q=>
  simp only [aj,ho,gS] at h
  repeat' split at h
  all_goals first
   | (cases h;done)
   | (cases h;trivial)
   | (revert h;generalize (dk x||dk y)=q;intro h;cases q<;>first|(cases h;done)|(cases h;trivial))
 | makeFunc fn xs ys=>
  cases fn with
  | func f=>simp only [aj,ho] at h;cases h;trivial
  | _=>simp only [aj,ho] at h;cases h
 | next x q=>
  cases q with
  | false=>simp only [aj,ho] at h;cases h;trivial
  | true=>simp only [aj,ho] at h;cases h
 | _=>
  unfold aj at h
  rw [ho] at h
  simp only at h
  repeat' split at h
  all_goals first
   | (cases h;done)
   | (cases h;trivial)
   | (simp only [Option.map_eq_some_iff] at h;obtain ⟨_,_,rfl⟩:=h;trivial)
   | (have h:=dv h;first|(cases h;trivial)|(simp only [Option.map_eq_some_iff] at h;obtain ⟨_,_,rfl⟩:=h;trivial))
theorem tF {v:Value} {k:Nat→R0} {r:Ex×St} (h:lA v k=some r):∃n,v=.int .i64 (.ofNat n)∧k n=some r:=by
 unfold lA at h
 split at h
 ·exact ⟨_,rfl,h⟩
 ·cases h
def nz (P:Program) (ins:List Nat):Prop:=∀o z bytes s i v,aj P ins o=some (.ins z bytes s i v)→∀(ρ:bB) (H:Heap) (nx:Nat) (w:World) (sv iv vv:Value) (c:Act),VR ρ sv (c.eval s)→VR ρ iv (c.eval i)→VR ρ vv (c.eval v)→HR ρ H nx w.heap→
 ∀(k:KA) (r:Ex×St),(lA iv fun i=>xK z bytes H nx k i sv vv)=some r→
  ∃g us,(execOp c.eval o).run P w=.ok (.enter g us) w∧Calls P g us w fun e w'=>∃x H' nx' u ρ',k x H' nx'=some r∧e=.returned u∧VR ρ' x u∧jv ρ H nx w ρ' H' nx' w'
theorem IS {env:Env} {T:Tr Value} {L:List Value} {D:List eQ} {o:Oper} {a:bE Operand} {b:bE Od} {c:Act} {p:Option (List Bool)} {ag:List bx} {k:RL}
  {next:Act→World→Prop} {Q:Exit→Act→World→Prop} (hA:A.P=P) (cF:fC P rn) (pf:nz P ins) (hc:aj P ins o=some a) (h:a.fy (cv kept n env)=some b) (he:gZ ρ kept n env T L c) (hD:gv ρ D c.defers)
  (hH:HR ρ H nx w.heap) (hr:pV b A rn p ag k b T L D H nx=some r) (hn:qy A p ag k r ρ T L H nx w o c next) (hq:pd r ρ T D H nx w c Q):o.upon P c next Q ((execOp c.eval o).run P w):=by
 by_cases hp:a.plain=true
 ·exact IM hA hc hp h he hD hH hr hn
 ·have An:=pe hc
  cases a with
  | call f args=>
   obtain ⟨d,g1,g2,g3⟩:=An
   simp only [bE.fy] at h
   split at h
   ·rename_i f' im hf bQ
    cases h
    subst g3
    exact Mx cF g1 g2 hf bQ he hD hH hr hn hq
   ·cases h
  | inv x name args=>
   obtain ⟨d,g1,g2,g3⟩:=An
   simp only [bE.fy] at h
   split at h
   ·rename_i x' im hx bQ
    cases h
    subst g3
    exact PI hA cF g1 g2 hx bQ he hD hH hr hn hq
   ·cases h
  | oC f args=>
   obtain ⟨d,g1,g2,g3⟩:=An
   simp only [bE.fy] at h
   split at h
   ·rename_i f' im hf bQ
    cases h
    subst g3
    exact PH g1 g2 hf bQ he hD hH hr hn
   ·cases h
  | nA x=>
   simp only [bE.fy] at h
   split at h
   ·rename_i x' hx
    cases h
    exact PG An hx he hH hr hq
   ·cases h
  | wi=>
   simp only [bE.fy] at h
   cases h
   cases hr
  | ins z bytes s i v=>
   simp only [bE.fy] at h
   split at h
   ·rename_i s' i' v' hs hi hv
    cases h
    have nn:aS T L s' (fun s=>aS T L i' fun i=>lA i fun i=>aS T L v' fun v=>xK z bytes H nx (bn A.P p ag k T L D) i s v)=some r:=hr
    rw [b6] at nn
    obtain ⟨sv,Sx,h1⟩:=aL nn
    rw [b6] at h1
    obtain ⟨iv,hiv,h2⟩:=aL h1
    obtain ⟨m,rfl,h3⟩:=tF h2
    rw [b6] at h3
    obtain ⟨vv,hvv,h4⟩:=aL h3
    have r1:=e7 he hs
    have r2:=e7 he hi
    have r3:=e7 he hv
    rw [Sx] at r1
    rw [hiv] at r2
    rw [hvv] at r3
    obtain ⟨g,us,q1,q2⟩:=pf o z bytes s i v hc ρ H nx w sv _ vv c r1 r2 r3 hH (bn A.P p ag k T L D) r h4
    rw [q1,Oper.upon_enter]
    refine q2.mono fun e w' gL=>?_
    obtain ⟨x,H',nx',u,ρ',h5,rfl,h6,h7⟩:=gL
    exact hn x H' nx' D ρ' u w' c h5 h6 h7 (hD.mono h7.fF.ext) rfl
   ·cases h
  | _=>exact absurd rfl hp
end Go.Eng

namespace Go.Eng
variable {P:Program} {T:Tr Value} {L:List Value} {H:Heap} {nx:Nat}
def W4 {X:Type} (F:(X→R0)→R0):Prop:=∀k r,F k=some r→∃x,k x=some r∧∀k',F k'=k' x
def bH {X:Type} (p:X→Prop) (F:(X→R0)→R0):Prop:=∀k r,F k=some r→∃x,k x=some r∧(∀k',F k'=k' x)∧p x
theorem bH.Sy {X:Type} {p:X→Prop} {F:(X→R0)→R0} (h:bH p F):W4 F:=fun k r hr=>let ⟨x,h1,h2,_⟩:=h k r hr;⟨x,h1,h2⟩
section comb
variable {X α:Type} {p:X→Prop}
theorem bH.ret (x:X) (hp:p x):bH p fun k=>k x:=fun _ _ h=>⟨x,h,fun _=>rfl,hp⟩
theorem bH.no:bH p fun _=>none:=fun _ _ h=>by cases h
theorem bH.bd {o:Option α} {F:α→(X→R0)→R0} (h:∀a,bH p (F a)):bH p fun k=>bd o fun a=>F a k:=by
 cases o with
 | none=>exact .no
 | some a=>exact h a
theorem bH.ev {x:Od} {F:Value→(X→R0)→R0} (h:∀a,bH p (F a)):bH p fun k=>aS T L x fun a=>F a k:=by
 intro k r hr
 simp only [b6] at hr ⊢
 exact bH.bd h k r hr
theorem bH.tG {xs:List Od} {F:List Value→(X→R0)→R0} (h:∀a,bH p (F a)):bH p fun k=>cH T L xs fun a=>F a k:=by
 intro k r hr
 simp only [dJ] at hr ⊢
 exact bH.bd h k r hr
theorem bH.parts {xs:List (Nat×Nat×Od)} {F:List (Nat×Nat×Value)→(X→R0)→R0} (h:∀a,bH p (F a)):bH p fun k=>cW T L xs fun a=>F a k:=by
 intro k r hr
 simp only [wx] at hr ⊢
 exact bH.bd h k r hr
theorem bH.cond {c:Bool} {F G:(X→R0)→R0} (h:bH p F) (h':bH p G):bH p fun k=>cond c (F k) (G k):=by
 cases c
 ·exact h'
 ·exact h
theorem bH.nat {v:Value} {F:Nat→(X→R0)→R0} (h:∀a,bH p (F a)):bH p fun k=>cx v fun a=>F a k:=by
 unfold cx
 split
 ·exact h _
 ·exact .no
theorem bH.i64 {v:Value} {F:Nat→(X→R0)→R0} (h:∀a,bH p (F a)):bH p fun k=>lA v fun a=>F a k:=by
 unfold lA
 split
 ·exact h _
 ·exact .no
theorem bH.agg {v:Value} {F:List Value→(X→R0)→R0} (h:∀a,bH p (F a)):bH p fun k=>nB v fun a=>F a k:=by
 unfold nB
 split
 ·exact h _
 ·exact .no
theorem bH.ptr {v:Value} {F:Nat→Nat→(X→R0)→R0} (h:∀a b,bH p (F a b)):bH p fun k=>dd v fun a b=>F a b k:=by
 unfold dd
 split
 ·exact h _ _
 ·exact .no
theorem bH.sl {v:Value} {F:Nat→Nat→Nat→Nat→Nat→(X→R0)→R0} (h:∀a b c d e,bH p (F a b c d e)):bH p fun k=>nN v fun a b c d e=>F a b c d e k:=by
 unfold nN
 split
 ·exact h _ _ _ _ _
 ·exact .no
theorem bH.bool {v:Value} {F G:(X→R0)→R0} (h:bH p F) (h':bH p G):bH p fun k=>fx v (F k) (G k):=by
 unfold fx
 split
 ·exact .cond h h'
 ·exact .no
theorem bH.cells {b:Nat} {F:List Value→(X→R0)→R0} (h:∀a,bH p (F a)):bH p fun k=>dy H b fun a=>F a k:=by
 unfold dy sm
 cases ak H (at_ b) with
 | none=>exact .no
 | some x=>cases x with
  | cells cs=>exact h _
  | map es c=>exact .no
  | ro cs=>exact .no
  | iter _ _ _ _=>exact .no
theorem bH.cr {b:Nat} {F:List Value→(X→R0)→R0} (h:∀a,bH p (F a)):bH p fun k=>cr H b fun a=>F a k:=by
 unfold Eng.cr onRead
 cases ak H (at_ b) with
 | none=>exact .no
 | some x=>cases x with
  | cells cs=>exact h _
  | map es c=>exact .no
  | ro cs=>exact h _
  | iter _ _ _ _=>exact .no
theorem bH.FZ {b:Option gK} {F:List MapEntry→Nat→(X→R0)→R0} (h:∀a c,bH p (F a c)):bH p fun k=>eZ b fun a c=>F a c k:=by
 unfold eZ
 cases b with
 | none=>exact .no
 | some x=>cases x with
  | cells cs=>exact .no
  | map es c=>exact h _ _
  | ro cs=>exact .no
  | iter _ _ _ _=>exact .no
theorem bH.iter {b:Option gK} {F:Option Nat→Nat→List Nat→Nat→(X→R0)→R0} (h:∀a c d e,bH p (F a c d e)):bH p fun k=>lZ b fun a c d e=>F a c d e k:=by
 unfold lZ
 split
 ·exact h _ _ _ _
 ·exact .no
theorem bH.map {m:Value} {F:Nat→List MapEntry→Nat→(X→R0)→R0} (h:∀a b c,bH p (F a b c)):bH p fun k=>oI H m fun a b c=>F a b c k:=by
 unfold oI
 split
 ·exact .FZ fun _ _=>h _ _ _
 ·exact .no
theorem bH.opt {x:Option Od} {d:Nat} {F:Nat→(X→R0)→R0} (h:∀a,bH p (F a)):bH p fun k=>fI T L x d fun a=>F a k:=by
 cases x with
 | none=>exact h d
 | some x=>exact .ev fun _=>.nat h
theorem bH.Ca {x:Option Od} {F:Option Value→(X→R0)→R0} (h:∀a,bH p (F a)):bH p fun k=>vq T L x fun a=>F a k:=by
 cases x with
 | none=>exact h none
 | some x=>exact .ev fun _=>h _
theorem bH.set {pp:List Bool} {H:Heap} {b:Option gK} {F:Heap→(X→R0)→R0} (h:∀a,bH p (F a)):bH p fun k=>cQ pp H b fun a=>F a k:=by
 intro k r hr
 simp only [bN] at hr ⊢
 exact h _ k r hr
theorem bH.oi {o:Option Nat} {F:(X→R0)→R0} {G:Nat→(X→R0)→R0} (h:bH p F) (h':∀a,bH p (G a)):bH p fun k=>Option.rec (F k) (fun a=>G a k) o:=by
 cases o with
 | none=>exact h
 | some a=>exact h' a
end comb
theorem IT {p:Value→Prop} (hp:∀v,p v) {mx:Option Od} {b o z l h c:Nat}:bH p fun k=>Fo T L mx k b o z l h c:=by
 unfold Fo
 cases mx with
 | none=>exact .ret _ (hp _)
 | some m=>exact .ev fun _=>.nat fun _=>.cond (.ret _ (hp _)) .no
theorem Cy {p:Value→Prop} (hp:∀v,p v) (a:bE Od):bH p fun k=>dp a P T L H k:=by
 cases a with
 | ae x=>exact .ev fun _=>.ret _ (hp _)
 | pick c x y=>exact .ev fun _=>.bool (.ev fun _=>.ret _ (hp _)) (.ev fun _=>.ret _ (hp _))
 | al x=>exact .ev fun _=>by unfold sX;split<;>first|exact .ret _ (hp _)|exact .no
 | ext x i=>
  exact .ev fun _=>by
   unfold Ig
   split
   ·intro k r hr;simp only [jR] at hr ⊢;exact bH.bd (F:=fun v k=>k v) (fun _=>.ret _ (hp _)) k r hr
   ·exact .no
 | u9 x off agg=>exact .ev fun _=>.agg fun _=>.bd fun _=>.ret _ (hp _)
 | ar x off=>exact .ev fun _=>.ptr fun _ _=>.ret _ (hp _)
 | aA x i z=>exact .ev fun _=>.ev fun _=>.nat fun _=>.sl fun _ _ _ _ _=>.cond (.ret _ (hp _)) .no
 | iB x i n z=>exact .ev fun _=>.ev fun _=>.nat fun _=>.ptr fun _ _=>.cond (.ret _ (hp _)) .no
 | ix x i n z agg=>exact .ev fun _=>.ev fun _=>.nat fun _=>.agg fun _=>.cond (.bd fun _=>.ret _ (hp _)) .no
 | bin op t x y=>
  exact .ev fun u=>.ev fun v=>by
   unfold eA
   cases vn op u v with
   | none=>exact .bd fun _=>.ret _ (hp _)
   | some x=>exact .ret _ (hp _)
 | un op x=>exact .ev fun _=>.bd fun _=>.ret _ (hp _)
 | wh s d x=>exact .ev fun _=>.bd fun _=>.ret _ (hp _)
 | lM mn xs=>exact .tG fun _=>.bd fun _=>.ret _ (hp _)
 | Hz t x i=>exact .ev fun _=>.ev fun _=>.bd fun _=>.ret _ (hp _)
 | Ca t x lo hi=>exact .ev fun _=>.Ca fun _=>.Ca fun _=>.bd fun _=>.ret _ (hp _)
 | dn neg kd x y=>exact .ev fun _=>.ev fun _=>.bd fun _=>.bd fun _=>.cond (.ret _ (hp _)) .no
 | eu zero parts=>exact .parts fun _=>.bd fun _=>.ret _ (hp _)
 | xF fn first cap=>exact .tG fun _=>.tG fun _=>.ret _ (hp _)
 | zf t x=>exact .ev fun _=>.ret _ (hp _)
 | Fm x t zero ok=>
  exact .ev fun v=>by
   unfold L9
   split
   ·exact .cond (.ret _ (hp _)) .no
   ·exact .cond (.ret _ (hp _)) (.cond (.ret _ (hp _)) .no)
   ·exact .no
 | ah x agg=>exact .ev fun _=>.ptr fun _ _=>.cr fun _=>.bd fun _=>.ret _ (hp _)
 | len x=>exact .ev fun v=>by unfold Ii;split<;>first|exact .ret _ (hp _)|exact .no
 | zg x=>
  exact .ev fun v=>by
   unfold xI
   split
   ·exact .ret _ (hp _)
   ·exact .FZ fun _ _=>.ret _ (hp _)
   ·exact .no
 | D4 x=>exact .ev fun v=>by unfold Ij;split<;>first|exact .ret _ (hp _)|exact .no
 | cap x=>
  exact .ev fun v=>by
   unfold zB
   split
   ·exact .ret _ (hp _)
   ·exact .cond (.ret _ (hp _)) (.ret _ (hp _))
   ·exact .no
 | iC x lo hi mx z=>
  exact .ev fun v=>by
   unfold vr
   split
   ·exact .opt fun _=>.opt fun _=>.cond (.ret _ (hp _)) .no
   ·exact .opt fun _=>.opt fun _=>.cond (.ret _ (hp _)) .no
   ·exact .opt fun _=>.opt fun _=>.cond (IT hp) .no
   ·exact .no
 | Ia x lo hi n z=>exact .ev fun _=>.ptr fun _ _=>.opt fun _=>.opt fun _=>.cond (.ret _ (hp _)) .no
 | lN x key kt zero ok=>
  exact .ev fun m=>.ev fun key=>by
   unfold vt
   split
   ·exact .cond (.bd fun _=>.ret _ (hp _)) .no
   ·exact .FZ fun _ _=>.bd fun i=>.oi (.ret _ (hp _)) fun _=>.bd fun _=>.ret _ (hp _)
   ·exact .no
 | _=>exact .no
theorem aX (a:bE Od):W4 fun k=>dp a P T L H k:=(Cy (p:=fun _=>True) (fun _=>trivial) a).Sy
abbrev W5:=Value×Heap×Nat
def uk (k:W5→R0):KA:=fun v H nx=>k (v,H,nx)
def up (nx:Nat) (x:W5):Prop:=nx≤x.2.2
theorem bJ (f:LK) (h:W4 fun k=>f P T L H k):bH (up nx) fun k=>dI f P T L H nx (uk k):=by
 intro k r hr
 obtain ⟨x,h1,h2⟩:=h _ r hr
 exact ⟨(x,H,nx),h1,fun k'=>h2 _,Nat.le_refl _⟩
theorem kC {v:Value} {cs:List Value}:bH (up nx) fun k=>fresh H nx v (uk k) cs:=.set fun _=>.ret _ (Nat.le_succ _)
theorem mm {b:Nat} {v:Value} {cs:List Value}:bH (up nx) fun k=>lO H nx b v (uk k) cs:=.set fun _=>.ret _ (Nat.le_refl _)
theorem jw {z bytes len n:Nat} {old new:List Value}:bH (up nx) fun k=>dg z bytes H nx (uk k) len n old new:=.cond kC .no
theorem Er {X:Type} {p:X→Prop} {z:Nat} {v:Value} {F:Nat→List Value→(X→R0)→R0} (h:∀a b,bH p (F a b)):bH p fun k=>iK H z (fun a b=>F a b k) v:=by
 unfold iK
 split
 ·exact h _ _
 ·exact h _ _
 ·exact .cond (.cond (h _ _) (.cr fun _=>.bd fun _=>h _ _)) .no
 ·exact .no
theorem Cz {p:W5→Prop} {v:Value} {F:List Value→(W5→R0)→R0} (h:∀l,bH p (F l)):∀(l:List Value) (o:Nat) (G:List Value→List Value),bH p fun k=>sY l o v fun l=>F (G l) k:=by
 intro l
 induction l with
 | nil=>intro o G;exact .no
 | cons c l ih=>
  intro o G
  cases o with
  | zero=>exact h _
  | succ o=>exact ih o fun l=>G (c::l)
theorem Ao {z bytes n:Nat} {s:Value} {new:List Value}:bH (up nx) fun k=>p8 z bytes H nx (uk k) s n new:=by
 unfold p8
 split
 ·exact .cond (.ret _ (Nat.le_refl _)) (.cond jw .no)
 ·exact .cond (.cond (.ret _ (Nat.le_refl _)) (.cond (.cells fun _=>.bd fun _=>mm) (.cells fun _=>.bd fun _=>.cond jw (.set fun _=>jw)))) .no
 ·exact .no
theorem ja (a:bE Od):bH (up nx) fun k=>b7 a P T L H nx (uk k):=by
 cases a with
 | box x=>exact .ev fun _=>kC
 | ef zero=>exact kC
 | iF z bytes zero l c=>exact .ev fun _=>.nat fun _=>.ev fun _=>.nat fun _=>.cond kC .no
 | fu z len zero parts=>exact .parts fun _=>.bd fun _=>.cond kC .no
 | zz x=>exact .opt (d:=0) (F:=fun _ k=>cQ (at_ nx) H (some (gK.map [] 0)) fun H=>k (Value.map (some nx),H,Nat.succ nx)) fun _=>.set fun _=>.ret _ (Nat.le_succ _)
 | aY x v n=>
  exact .ev fun _=>.ev fun v=>.ptr fun b o=>.cond (.cells fun old=>by
   unfold Mb
   cases cellsOf v with
   | nil=>exact .no
   | cons c r=>
    cases r with
    | nil=>exact Cz (F:=fun l k=>lO H nx b undef (uk k) l) (fun l=>mm) old o id
    | cons c2 r=>exact .bd fun _=>mm) .no
 | app z bytes zero s x eL=>
  exact .ev fun s=>.ev fun x=>by
   unfold xJ
   cases eL with
   | true=>exact .nat fun n=>.cond Ao .no
   | false=>exact Er (F:=fun n cs k=>p8 z bytes H nx (uk k) s n cs) fun _ _=>Ao
 | LI x zero=>
  exact .ev fun x=>by
   unfold Md
   split
   ·exact .ret _ (Nat.le_refl _)
   ·exact .cond (.ret _ (Nat.le_refl _)) (.cond (.cells fun _=>.bd fun _=>mm) .no)
   ·exact .no
 | D5 z d s=>
  exact .ev fun d=>.ev fun s=>Er fun n cs=>by
   unfold Mc
   split
   ·exact .ret _ (Nat.le_refl _)
   ·exact .sl fun _ _ _ _ _=>.cond (.cond (.ret _ (Nat.le_refl _)) (.bd fun _=>.cond (.cells fun _=>.bd fun _=>mm) .no)) .no
 | HA m key v kt=>exact .ev fun _=>.ev fun _=>.ev fun _=>.map fun _ _ _=>.bd fun i=>.oi (.set fun _=>.ret _ (Nat.le_refl _)) fun _=>.set fun _=>.ret _ (Nat.le_refl _)
 | Cb m key kt zero=>exact .ev fun _=>.ev fun _=>.map fun _ _ _=>.bd fun i=>.oi (.set fun _=>.ret _ (Nat.le_refl _)) fun _=>.bd fun _=>.ret _ (Nat.le_refl _)
 | Cc m s v=>exact .ev fun _=>.ev fun _=>.nat fun _=>.ev fun _=>.map fun _ _ _=>.bd fun i=>.set fun _=>.ret _ (Nat.le_refl _)
 | ins z bytes s i v=>
  refine .ev fun _=>.ev fun _=>.i64 fun i=>.ev fun _=>?_
  unfold xK
  split
  ·exact .sl fun b2 o2 z2 m c2=>by
    unfold Me
    exact .cond (.cells fun _=>.bd fun _=>.cond (.set fun _=>jw) .no) .no
  ·exact .sl fun b o z1 len c=>.sl fun b2 o2 z2 m c2=>by
    unfold Pk
    exact .cond (.cells fun _=>.cells fun _=>.bd fun _=>.bd fun _=>.bd fun _=>.cond (.set fun _=>jw) .no) .no
 | call f args=>exact .no
 | inv x name args=>exact .no
 | oC f args=>exact .no
 | nA x=>exact .no
 | wi=>exact .no
 | wj x=>
  exact .ev fun m=>by
   unfold Mf
   split
   ·exact .set fun _=>.ret _ (Nat.le_succ _)
   ·exact .FZ fun _ _=>.set fun _=>.ret _ (Nat.le_succ _)
   ·exact .no
 | nxt x=>
  exact .ev fun v=>.ptr fun r o=>.cond (.iter fun m since seen last=>by
   cases m with
   | none=>exact .ret _ (Nat.le_refl _)
   | some b=>exact .FZ fun es c=>.cond .no (by
     cases sZ es seen with
     | nil=>exact .ret _ (Nat.le_refl _)
     | cons e l=>
      cases l with
      | nil=>exact .cond (.set fun _=>.ret _ (Nat.le_refl _)) .no
      | cons e2 l=>exact .no)) .no
 | L6 x=>
  exact .ev fun v=>.ptr fun r o=>.cond (.iter fun m since seen last=>by
   cases m with
   | none=>exact .no
   | some b=>exact .bd fun _=>.FZ fun es c=>.cond (.bd fun _=>.ret _ (Nat.le_refl _)) .no) .no
 | ae x=>exact bJ _ (aX (.ae x))
 | pick c x y=>exact bJ _ (aX (.pick c x y))
 | al x=>exact bJ _ (aX (.al x))
 | ext x i=>exact bJ _ (aX (.ext x i))
 | u9 x off agg=>exact bJ _ (aX (.u9 x off agg))
 | ar x off=>exact bJ _ (aX (.ar x off))
 | aA x i z=>exact bJ _ (aX (.aA x i z))
 | iB x i n z=>exact bJ _ (aX (.iB x i n z))
 | ix x i n z agg=>exact bJ _ (aX (.ix x i n z agg))
 | bin op t x y=>exact bJ _ (aX (.bin op t x y))
 | un op x=>exact bJ _ (aX (.un op x))
 | wh s d x=>exact bJ _ (aX (.wh s d x))
 | lM mn xs=>exact bJ _ (aX (.lM mn xs))
 | Hz t x i=>exact bJ _ (aX (.Hz t x i))
 | Ca t x lo hi=>exact bJ _ (aX (.Ca t x lo hi))
 | dn neg kd x y=>exact bJ _ (aX (.dn neg kd x y))
 | eu zero parts=>exact bJ _ (aX (.eu zero parts))
 | xF fn first cap=>exact bJ _ (aX (.xF fn first cap))
 | zf t x=>exact bJ _ (aX (.zf t x))
 | Fm x t zero ok=>exact bJ _ (aX (.Fm x t zero ok))
 | ah x agg=>exact bJ _ (aX (.ah x agg))
 | len x=>exact bJ _ (aX (.len x))
 | zg x=>exact bJ _ (aX (.zg x))
 | D4 x=>exact bJ _ (aX (.D4 x))
 | cap x=>exact bJ _ (aX (.cap x))
 | iC x lo hi mx z=>exact bJ _ (aX (.iC x lo hi mx z))
 | Ia x lo hi n z=>exact bJ _ (aX (.Ia x lo hi n z))
 | lN x key kt zero ok=>exact bJ _ (aX (.lN x key kt zero ok))
theorem pg (a:bE Od):W4 fun k=>b7 a P T L H nx (uk k):=(ja a).Sy
theorem W6 {a:bE Od} {v:Value} {H':Heap} {nx':Nat} (h:∀k,b7 a P T L H nx k=k v H' nx'):nx≤nx':=by
 obtain ⟨x,h1,_,h3⟩:=ja (P:=P) (T:=T) (L:=L) (H:=H) (nx:=nx) a (fun x=>some (.normal,⟨.e,[],.e,x.2.2⟩)) (.normal,⟨.e,[],.e,nx'⟩) (h _)
 simp only [Option.some.injEq,Prod.mk.injEq,St.mk.injEq,true_and] at h1
 rw [← h1]
 exact h3
end Go.Eng

namespace Go.Eng
abbrev lW:=Nat→Value
def lW.set (σ:lW) (d:Option Nat) (v:Value):lW:=match d with
 | none=>σ
 | some d=>fun t=>if t=d then v else σ t
def qz (σ:lW):Operand→Value
 | .tmp t=>σ t
 | .const v=>v
 | .func f=>.func (.func f) #[] #[]
 | .global _=>undef
structure eX (kept:List Nat) (σ:lW) (env:Env) (T:Tr Value) (L:List Value):Prop where
 env:∀t od,(t,od)∈env→(gW T L od).getD undef=σ t
 kept:∀t,dt kept t=true→(ak T (bY t)).getD undef=σ t
theorem ph:∀{env:Env} {t:Nat} {x:Od},find env t=some x→(t,x)∈env:=by
 intro env
 induction env with
 | nil=>intro t x hx;cases hx
 | cons y env ih=>
  intro t x hx
  obtain ⟨a,b⟩:=y
  unfold find at hx
  cases hb:Nat.beq a t with
  | true=>
   rw [hb] at hx;cases hx
   have:=Nat.eq_of_beq_eq_true hb
   subst this
   exact List.mem_cons_self
  | false=>rw [hb] at hx;exact List.mem_cons_of_mem _ (ih hx)
variable {P:Program} {ins kept:List Nat} {n:Nat} {A:aG} {rn:jk} {σ:lW} {T:Tr Value} {L:List Value} {D:List eQ} {H:Heap} {nx:Nat} {env:Env} {ops:List Oper}
theorem eX.yb (h:eX kept σ env T L) {t:Nat} {od:Od} (hf:find env t=some od):(gW T L od).getD undef=σ t:=h.env t od (ph hf)
theorem Uq (h:eX kept σ env T L) {x:Operand} {od:Od} (hc:cv kept n env x=some od):(gW T L od).getD undef=qz σ x:=by
 cases x with
 | tmp t=>
  simp only [cv] at hc
  cases hb:Nat.blt t n with
  | false=>rw [hb] at hc;cases hc
  | true=>
   rw [hb] at hc
   simp only [cond_true] at hc
   cases hf:find env t with
   | some y=>rw [hf] at hc;cases hc;exact h.yb hf
   | none=>
    rw [hf] at hc
    cases hk:dt kept t with
    | false=>rw [hk] at hc;cases hc
    | true=>rw [hk] at hc;cases hc;exact h.kept t hk
 | const v=>
  simp only [cv] at hc
  cases hk:iL v with
  | false=>rw [hk] at hc;cases hc
  | true=>rw [hk] at hc;cases hc;rfl
 | func f=>cases hc;rfl
 | global g=>cases hc
theorem map_congr {α β:Type} {f g:α→β} {a:bE α} (h:a.all fun x=>f x=g x):a.map f=a.map g:=by
 have hl:∀l:List α,(∀x∈l,f x=g x)→l.map f=l.map g:=fun l h=>List.map_congr_left h
 have ho:∀o:Option α,(∀x∈o,f x=g x)→o.map f=o.map g:=by
  intro o h
  cases o with
  | none=>rfl
  | some x=>rw [Option.map_some,Option.map_some,h x rfl]
 have hp:∀l:List (Nat×Nat×α),(∀x∈l,f x.2.2=g x.2.2)→(l.map fun x=>(x.1,x.2.1,f x.2.2))=l.map fun x=>(x.1,x.2.1,g x.2.2):=fun l h=>List.map_congr_left fun x hx=>by rw [h x hx]
 cases a<;>simp only [bE.all,bE.map] at h ⊢<;>first|rfl|skip
 all_goals grind
theorem IU {a:bE Operand} {b:bE Od} (h:a.fy (cv kept n env)=some b) (he:eX kept σ env T L):b.map (gB T L)=a.map (Av (qz σ)):=by
 rw [Ak h]
 obtain ⟨_,h2⟩:=gX (.loc 0) h
 refine map_congr (kA (fun x hx=>?_) h2)
 obtain ⟨y,hy⟩:=hx
 show Od.aD ((gW T L ((cv kept n env x).getD (.loc 0))).getD undef)=Od.aD (qz σ x)
 rw [hy,Option.getD_some,Uq he hy]
end Go.Eng

namespace Go.Eng
variable {P:Program} {ins kept:List Nat} {n:Nat} {A:aG} {rn:jk} {σ:lW} {T:Tr Value} {L:List Value} {D:List eQ} {H:Heap} {nx:Nat} {env:Env} {ops:List Oper}
theorem mU {env:Env} {t:Nat} {od:Od}:(t,od)∈cC env↔∃x,(t,x)∈env∧od=shift x:=by
 unfold cC
 rw [List.mem_map]
 constructor
 ·rintro ⟨⟨u,x⟩,h,e⟩
  cases e
  exact ⟨x,h,rfl⟩
 ·rintro ⟨x,h,rfl⟩
  exact ⟨(t,x),h,rfl⟩
theorem ep {env:Env} {d t:Nat} {od:Od}:(t,od)∈eV env d↔(t,od)∈env∧t≠d:=by
 unfold eV
 rw [List.mem_filter]
 constructor
 ·rintro ⟨h,e⟩
  refine ⟨h,fun e'=>?_⟩
  subst e'
  simp at e
 ·rintro ⟨h,e⟩
  refine ⟨h,?_⟩
  simp only [Bool.not_eq_true']
  cases hb:Nat.beq t d with
  | false=>rfl
  | true=>exact absurd (Nat.eq_of_beq_eq_true hb) e
theorem eX.shift (h:eX kept σ env T L) (v:Value):eX kept σ (cC env) T (v::L):=by
 refine ⟨fun t od ht=>?_,h.kept⟩
 obtain ⟨x,hx,rfl⟩:=mU.1 ht
 rw [tC]
 exact h.env t x hx
theorem eX.put {v:Value} {d:Nat} {keep:Option (List Bool)} {T':Tr Value} (h:eX kept σ env T L)
  (hT:(keep=none∧T'=T∧dt kept d=false)∨(∃p,keep=some p∧p=bY d∧T'=bD p T (some v)∧(cC env).any (fun e=>isVar p e.2)=false)) :
  eX kept (σ.set (some d) v) ((d,.loc 0)::eV (cC env) d) T' (v::L):=by
 refine ⟨fun t od ht=>?_,fun t ht=>?_⟩
 ·rcases List.mem_cons.1 ht with e|hm
  ·cases e
   show v=if d=d then v else σ d
   rw [if_pos rfl]
  ·obtain ⟨hm,cy⟩:=ep.1 hm
   have hs:lW.set σ (some d) v t=σ t:=if_neg cy
   rw [hs,← (h.shift v).env t od hm]
   rcases hT with ⟨_,rfl,_⟩|⟨p,_,_,rfl,vM⟩
   ·rfl
   ·cases od with
    | var q=>
     have hq:q≠p:=by
      intro e;subst e
      exact List.any_eq_false.1 vM _ hm (qw.2 rfl)
     show (ak (bD p T (some v)) q).getD undef=(ak T q).getD undef
     rw [aO _ _ _ _ hq]
    | _=>rfl
 ·rcases hT with ⟨_,rfl,hk⟩|⟨p,_,rfl,rfl,_⟩
  ·have:t≠d:=by intro e;subst e;rw [hk] at ht;cases ht
   have hs:lW.set σ (some d) v t=σ t:=if_neg this
   rw [hs]
   exact h.kept t ht
  ·by_cases HF:t=d
   ·subst HF
    rw [bk]
    show v=if t=t then v else σ t
    rw [if_pos rfl]
   ·have hs:lW.set σ (some d) v t=σ t:=if_neg HF
    rw [hs,aO _ _ _ _ (by rw [ie,ie];exact fun e=>HF (dO e))]
    exact h.kept t ht
structure kY (s s':Laid):Prop where
 dj:s'.dj=s.dj
 cB:s'.cB=s.cB
 make:s'.make=s.make
 done:s'.done=s.done
theorem F0 {p:List Bool} {rest:List Oper}:∀(l:Env) (s:Laid),∃new,(gA p rest l s).out=new.reverse++s.out∧kY s (gA p rest l s)∧
  (∀t od,(t,od)∈(gA p rest l s).env→(∃km,(t,km)∈s.env)∨∃km,(t,km)∈l)∧
  ∀de T L D H nx r σ,bt A rn (new++de) T L D H nx=some r→eX kept σ s.env T L→(∀t,(t,.var p)∈l→(ak T p).getD undef=σ t)→
   ∃L',bt A rn de T L' D H nx=some r∧eX kept σ (gA p rest l s).env T L':=by
 intro l
 induction l with
 | nil=>intro s;exact ⟨[],rfl,⟨rfl,rfl,rfl,rfl⟩,fun t od h=>.inl ⟨od,h⟩,fun de T L D H nx r σ h he _=>⟨L,h,he⟩⟩
 | cons y l ih=>
  intro s
  obtain ⟨t,x⟩:=y
  unfold gA
  cases hv:isVar p x with
  | false=>
   simp only [cond_false]
   obtain ⟨new,h1,h2,h3,h4⟩:=ih s
   refine ⟨new,h1,h2,fun t od h=>?_,fun de T L D H nx r σ h he hl=>h4 de T L D H nx r σ h he fun t ht=>hl t (List.mem_cons_of_mem _ ht)⟩
   rcases h3 t od h with h|⟨km,h⟩
   ·exact .inl h
   ·exact .inr ⟨km,List.mem_cons_of_mem _ h⟩
  | true=>
   have hx:=qw.1 hv
   subst hx
   simp only [cond_true]
   cases hr:wu t rest with
   | false=>
    simp only [cond_false]
    obtain ⟨new,h1,h2,h3,h4⟩:=ih { s with env:=eV s.env t }
    refine ⟨new,h1,⟨h2.dj,h2.cB,h2.make,h2.done⟩,fun t' od h=>?_,fun de T L D H nx r σ h he hl=>h4 de T L D H nx r σ h ⟨fun u od hu=>he.env u od (ep.1 hu).1,he.kept⟩ fun t ht=>hl t (List.mem_cons_of_mem _ ht)⟩
    rcases h3 t' od h with ⟨km,h⟩|⟨km,h⟩
    ·exact .inl ⟨km,(ep.1 h).1⟩
    ·exact .inr ⟨km,List.mem_cons_of_mem _ h⟩
   | true=>
    simp only [cond_true]
    obtain ⟨new,h1,h2,h3,h4⟩:=ih { s with env:=(t,.loc 0)::eV (cC s.env) t,out:=(⟨none,none,.ae (.var p)⟩,[])::s.out }
    refine ⟨(⟨none,none,.ae (.var p)⟩,[])::new,?_,⟨h2.dj,h2.cB,h2.make,h2.done⟩,fun t' od h=>?_,fun de T L D H nx r σ h he hl=>?_⟩
    ·rw [h1]
     simp
    ·rcases h3 t' od h with ⟨km,h⟩|⟨km,h⟩
     ·rcases List.mem_cons.1 h with e|h
      ·cases e
       exact .inr ⟨.var p,List.mem_cons_self⟩
      ·obtain ⟨x,hx,_⟩:=mU.1 (ep.1 h).1
       exact .inl ⟨x,hx⟩
     ·exact .inr ⟨km,List.mem_cons_of_mem _ h⟩
    ·have h':aS T L (.var p) (fun v=>bn A.P none [] (bt A rn (new++de)) T L D v H nx)=some r:=h
     rw [b6] at h'
     obtain ⟨v,hv,h5⟩:=aL h'
     rw [g8] at h5
     have hvt:v=σ t:=by
      have:=hl t List.mem_cons_self
      have lF:ak T p=some v:=hv
      rw [lF] at this
      exact this
     refine h4 de T (v::L) D H nx r σ h5 ⟨fun u od hu=>?_,he.kept⟩ fun t ht=>hl t (List.mem_cons_of_mem _ ht)
     rcases List.mem_cons.1 hu with e|hu
     ·cases e
      exact hvt
     ·exact (he.shift v).env u od (ep.1 hu).1
end Go.Eng

namespace Go.Eng
variable {P:Program} {ins kept:List Nat} {n:Nat} {A:aG} {rn:jk} {σ:lW} {T:Tr Value} {L:List Value} {D:List eQ} {H:Heap} {nx:Nat} {env:Env} {ops:List Oper}
theorem Mz {b:bE Od} {p:Option (List Bool)} {ag:List bx} {k:RL} {r:Ex×St} (h:pV b A rn p ag k b T L D H nx=some r) :
  (∃v D' H' nx',(∀p' jY k',pV b A rn p' jY k' b T L D H nx=bn A.P p' jY k' T L D' v H' nx')∧bn A.P p ag k T L D' v H' nx'=some r∧(b.plain=true→D'=D))∨
  (∃ch H' nx',r=(.panic ch,⟨T,D,H',nx'⟩)∧∀p' jY k',pV b A rn p' jY k' b T L D H nx=some r):=by
 have N7:∀(o:Option cV),bd o (dq A.P p ag k T L D)=some r→
   (∃v D' H' nx',(∀p' jY k',bd o (dq A.P p' jY k' T L D)=bn A.P p' jY k' T L D' v H' nx')∧bn A.P p ag k T L D' v H' nx'=some r)∨
   (∃ch H' nx',r=(.panic ch,⟨T,D,H',nx'⟩)∧∀p' jY k',bd o (dq A.P p' jY k' T L D)=some r):=by
  intro o ho
  obtain ⟨c,rfl,h1⟩:=aL ho
  cases c with
  | ok v H' nx'=>exact .inl ⟨v,D,H',nx',fun _ _ _=>rfl,h1⟩
  | nA ch H' nx'=>
   have h2:some (Ex.panic ch,(⟨T,D,H',nx'⟩:St))=some r:=h1
   cases h2
   exact .inr ⟨ch,H',nx',rfl,fun _ _ _=>rfl⟩
 by_cases hp:b.plain=true
 ·rw [iZ hp] at h ⊢
  have h':b7 b A.P T L H nx (uk fun x=>bn A.P p ag k T L D x.1 x.2.1 x.2.2)=some r:=h
  obtain ⟨x,h1,h2⟩:=pg b _ r h'
  exact .inl ⟨x.1,D,x.2.1,x.2.2,fun p' jY k'=>h2 fun x=>bn A.P p' jY k' T L D x.1 x.2.1 x.2.2,h1,fun _=>rfl⟩
 ·cases b with
  | call f args=>
   have h':aS T L f (fun f=>cH T L args fun vs=>fh vs (fun g vs=>bd (rn.call g vs H nx) (dq A.P p ag k T L D)) f)=some r:=h
   rw [b6] at h'
   obtain ⟨fv,pX,h1⟩:=aL h'
   rw [dJ] at h1
   obtain ⟨vs,j6,h2⟩:=aL h1
   have e:∀p' jY k',pV (.call f args) A rn p' jY k' (.call f args) T L D H nx=fh vs (fun g vs=>bd (rn.call g vs H nx) (dq A.P p' jY k' T L D)) fv:=by
    intro p' jY k'
    show aS T L f (fun f=>cH T L args fun vs=>fh vs (fun g vs=>bd (rn.call g vs H nx) (dq A.P p' jY k' T L D)) f)=_
    rw [b6,pX]
    show cH T L args _=_
    rw [dJ,j6]
    rfl
   unfold fh at h2
   split at h2
   ·rcases N7 _ h2 with ⟨v,D',H',nx',g1,g2⟩|⟨ch,H',nx',g1,g2⟩
    ·exact .inl ⟨v,D',H',nx',fun p' jY k'=>(e p' jY k').trans (g1 p' jY k'),g2,fun kk=>absurd kk hp⟩
    ·exact .inr ⟨ch,H',nx',g1,fun p' jY k'=>(e p' jY k').trans (g2 p' jY k')⟩
   ·cases h2
  | inv x name args=>
   have h':aS T L x (fun x=>cH T L args fun vs=>ng A.P name H (fun g v=>bd (rn.call g (v::vs) H nx) (dq A.P p ag k T L D)) x)=some r:=h
   rw [b6] at h'
   obtain ⟨fv,pX,h1⟩:=aL h'
   rw [dJ] at h1
   obtain ⟨vs,j6,h2⟩:=aL h1
   have e:∀p' jY k',pV (.inv x name args) A rn p' jY k' (.inv x name args) T L D H nx=ng A.P name H (fun g v=>bd (rn.call g (v::vs) H nx) (dq A.P p' jY k' T L D)) fv:=by
    intro p' jY k'
    show aS T L x (fun x=>cH T L args fun vs=>ng A.P name H (fun g v=>bd (rn.call g (v::vs) H nx) (dq A.P p' jY k' T L D)) x)=_
    rw [b6,pX]
    show cH T L args _=_
    rw [dJ,j6]
    rfl
   have hd:bH (fun _=>True) fun k':FuncId×Value→R0=>ng A.P name H (fun g v=>k' (g,v)) fv:=by
    unfold ng
    split
    ·refine .bd fun m=>?_
     unfold zC
     cases m.2 with
     | none=>exact .ret _ trivial
     | some agg=>exact .ptr fun _ _=>.cr fun _=>.bd fun _=>.ret _ trivial
    ·exact .no
   obtain ⟨y,g1,g2⟩:=hd.Sy (fun y=>bd (rn.call y.1 (y.2::vs) H nx) (dq A.P p ag k T L D)) r h2
   have e2:∀p' jY k',pV (.inv x name args) A rn p' jY k' (.inv x name args) T L D H nx=bd (rn.call y.1 (y.2::vs) H nx) (dq A.P p' jY k' T L D):=fun p' jY k'=>
    (e p' jY k').trans (g2 fun y=>bd (rn.call y.1 (y.2::vs) H nx) (dq A.P p' jY k' T L D))
   rcases N7 _ g1 with ⟨v,D',H',nx',q1,q2⟩|⟨ch,H',nx',q1,q2⟩
   ·exact .inl ⟨v,D',H',nx',fun p' jY k'=>(e2 p' jY k').trans (q1 p' jY k'),q2,fun kk=>absurd kk hp⟩
   ·exact .inr ⟨ch,H',nx',q1,fun p' jY k'=>(e2 p' jY k').trans (q2 p' jY k')⟩
  | oC f args=>
   have h':aS T L f (fun f=>cH T L args fun vs=>p9 f (bn A.P p ag k T L ((f,vs)::D) undef H nx))=some r:=h
   rw [b6] at h'
   obtain ⟨fv,pX,h1⟩:=aL h'
   rw [dJ] at h1
   obtain ⟨vs,j6,h2⟩:=aL h1
   refine .inl ⟨undef,(fv,vs)::D,H,nx,fun p' jY k'=>?_,?_,fun kk=>absurd kk hp⟩
   ·show aS T L f (fun f=>cH T L args fun vs=>p9 f (bn A.P p' jY k' T L ((f,vs)::D) undef H nx))=_
    rw [b6,pX]
    show cH T L args _=_
    rw [dJ,j6]
    show p9 fv _=_
    unfold p9 at h2 ⊢
    split at h2
    ·rfl
    ·cases h2
   ·unfold p9 at h2
    split at h2
    ·exact h2
    ·cases h2
  | nA x=>
   have h':aS T L x (zD T D H nx)=some r:=h
   rw [b6] at h'
   obtain ⟨v,hv,h1⟩:=aL h'
   have nH:=h1
   unfold zD at h1
   split at h1
   ·cases h1
    refine .inr ⟨_,_,_,rfl,fun p' jY k'=>?_⟩
    show aS T L x (zD T D H nx)=_
    rw [b6,hv]
    exact nH
   ·cases h1
  | wi=>cases h
  | ins z bytes s i v=>
   have h':b7 (.ins z bytes s i v) A.P T L H nx (uk fun x=>bn A.P p ag k T L D x.1 x.2.1 x.2.2)=some r:=h
   obtain ⟨x,h1,h2⟩:=pg _ _ r h'
   exact .inl ⟨x.1,D,x.2.1,x.2.2,fun p' jY k'=>h2 fun x=>bn A.P p' jY k' T L D x.1 x.2.1 x.2.2,h1,fun _=>rfl⟩
  | _=>exact absurd rfl hp
end Go.Eng

namespace Go.Eng
variable {P:Program} {ins kept:List Nat} {n:Nat} {A:aG} {rn:jk} {σ:lW} {T:Tr Value} {L:List Value} {D:List eQ} {H:Heap} {nx:Nat} {env:Env} {ops:List Oper}
def iG (ops:List Oper) (σ:lW) (g:Option (Nat×Bool)):Bool:=match g with
 | none=>true
 | some (j,w)=>match (ops[j]?).bind (·.dst) with
  | some t=>nC w (σ t)
  | none=>false
theorem yc {c:Option (Nat×Bool)} {g:Option (Nat×Bool)} (h:gU ops env c=some g) (he:eX kept σ env T L):wanted L g=iG ops σ c:=by
 cases c with
 | none=>cases h;rfl
 | some p=>
  obtain ⟨j,want⟩:=p
  simp only [gU] at h
  cases hj:ops[j]? with
  | none=>rw [hj] at h;cases h
  | some q=>
   rw [hj] at h
   simp only at h
   cases hd:q.dst with
   | none=>rw [hd] at h;cases h
   | some t=>
    rw [hd] at h
    simp only at h
    cases hf:find env t with
    | none=>rw [hf] at h;cases h
    | some x=>
     rw [hf] at h
     simp only [Option.map_eq_some_iff] at h
     obtain ⟨d,hx,rfl⟩:=h
     have oT:x=.loc d:=by cases x<;>simp [zE] at hx;rw [hx]
     subst oT
     have hv:=he.yb hf
     have hs:iG ops σ (some (j,want))=nC want (σ t):=by simp only [iG,hj,Option.bind_some,hd]
     rw [hs,← hv]
     show wo want (Cd L d)=nC want ((L[d]?).getD undef)
     rw [oO]
     cases L[d]?<;>rfl
def pY:KV:=fun v=>some (.normal,⟨.n .e (some v) .e,[],.e,0⟩)
theorem IV {a:bE Operand} {b:bE Od} {u:Value} (h:a.fy (cv kept n env)=some b) (he:eX kept σ env T L) (hl:∀k,dp b P T L H k=k u) :
  ∀T' L' k,dp (a.map (Av (qz σ))) P T' L' H k=k u:=by
 intro T' L' k
 have h1:=bG T' L' (hl pY)
 rw [IU h he] at h1
 obtain ⟨x,g1,g2⟩:=aX (P:=P) (T:=T') (L:=L') (H:=H) _ _ _ h1
 have:x=u:=by
  have e:pY x=pY u:=g1
  unfold pY at e
  simp only [Option.some.injEq,Prod.mk.injEq,St.mk.injEq,Tr.n.injEq,true_and,and_true] at e
  exact e
 subst this
 exact g2 k
theorem N8 {a:bE Operand} {b:bE Od} {v:Value} {H':Heap} {nx':Nat} (h:a.fy (cv kept n env)=some b) (he:eX kept σ env T L) (hl:∀k,b7 b P T L H nx k=k v H' nx') :
  ∀T' L' k,b7 (a.map (Av (qz σ))) P T' L' H nx k=k v H' nx':=by
 intro T' L' k
 have h1:=Ee T' L' (hl fun v H nx=>some (.normal,⟨.n .e (some v) .e,[],H,nx⟩))
 rw [IU h he] at h1
 obtain ⟨x,g1,g2⟩:=pg (P:=P) (T:=T') (L:=L') (H:=H) (nx:=nx) _ (fun x=>some (.normal,⟨.n .e (some x.1) .e,[],x.2.1,x.2.2⟩)) _ h1
 have:x=(v,H',nx'):=by
  obtain ⟨x1,x2,x3⟩:=x
  simp only [Option.some.injEq,Prod.mk.injEq,St.mk.injEq,Tr.n.injEq,true_and,and_true] at g1
  obtain ⟨rfl,rfl,rfl⟩:=g1
  rfl
 subst this
 exact g2 fun x=>k x.1 x.2.1 x.2.2
def qA (P:Program) (ops:List Oper) (ek:List Nat) (done:Nat) (σ:lW) (H:Heap) (j:Nat):Prop:=
 ∃q a t,ops[j]?=some q∧aj P [] q=some a∧q.dst=some t∧jo ops ek done j q=true∧
  (iG ops σ q.guard=true→∃u,(∀T L k,dp (a.map (Av (qz σ))) P T L H k=k u)∧jK (σ t) u=true)
theorem ru {X:R0} {r:Ex×St} {a:bx} (h:Ik P T L H a X=some r):X=some r∧(wanted L a.guard=true→∃u u',(∀k,dp a.op P T L H k=k u)∧L[a.d]?=some u'∧jK u' u=true):=by
 have h':cond (wanted L a.guard) (dp a.op P T L H fun v=>vo L a.d fun u=>cond (jK u v) X none) X=some r:=h
 cases hw:wanted L a.guard with
 | false=>
  rw [hw] at h'
  exact ⟨h',fun h=>by cases h⟩
 | true=>
  rw [hw] at h'
  obtain ⟨v,q1,q2⟩:=aX (P:=P) (T:=T) (L:=L) (H:=H) _ _ _ h'
  rw [jR] at q1
  obtain ⟨u,hu,q3⟩:=aL q1
  have q4:cond (jK u v) X none=some r:=q3
  cases hv:jK u v with
  | false=>rw [hv] at q4;cases q4
  | true=>rw [hv] at q4;exact ⟨q4,fun _=>⟨v,u,q2,hu,hv⟩⟩
theorem IW {ek:List Nat} {done bh:Nat} {X:R0} {r:Ex×St} (he:eX kept σ env T L):∀{l:List Nat} {as:List bx},kS P kept n ops ek done env bh l=some as→fT P T L H as X=some r→
  X=some r∧∀j∈l,Nat.testBit bh j=false→qA P ops ek done σ H j:=by
 intro l
 induction l with
 | nil=>
  intro as h hk
  cases h
  exact ⟨hk,fun j hj=>by simp at hj⟩
 | cons j l ih=>
  intro as h hk
  unfold kS at h
  cases h0:kS P kept n ops ek done env bh l with
  | none=>rw [h0] at h;cases h
  | some bs=>
   rw [h0] at h
   simp only at h
   cases hb:Nat.testBit bh j with
   | true=>
    rw [hb] at h
    simp only [cond_true,Option.some.injEq] at h
    subst h
    obtain ⟨g1,g2⟩:=ih h0 hk
    refine ⟨g1,fun i hi Co=>?_⟩
    rcases List.mem_cons.1 hi with rfl|hi
    ·rw [hb] at Co;cases Co
    ·exact g2 i hi Co
   | false=>
    rw [hb] at h
    simp only [cond_false] at h
    cases hq:ops[j]? with
    | none=>rw [hq] at h;cases h
    | some q=>
     rw [hq] at h
     simp only at h
     cases hs:jo ops ek done j q with
     | false=>rw [hs] at h;cases h
     | true=>
      rw [hs] at h
      simp only [Bool.not_true,cond_false] at h
      split at h
      ·rename_i a g d ha hg hd
       simp only [Option.some.injEq] at h
       subst h
       obtain ⟨g1,g2⟩:=ru hk
       obtain ⟨k1,k2⟩:=ih h0 g1
       refine ⟨k1,fun i hi Co=>?_⟩
       rcases List.mem_cons.1 hi with rfl|hi
       ·obtain ⟨a0,W7,ht⟩:=Option.bind_eq_some_iff.1 ha
        obtain ⟨od,hod,Ur⟩:=Option.bind_eq_some_iff.1 hd
        obtain ⟨t,vO,hf⟩:=Option.bind_eq_some_iff.1 hod
        have oT:od=.loc d:=by cases od<;>simp [zE] at Ur;rw [Ur]
        subst oT
        refine ⟨q,a0,t,hq,W7,vO,hs,fun hw=>?_⟩
        obtain ⟨u,u',p1,p2,p3⟩:=g2 ((yc hg he).trans hw)
        refine ⟨u,IV ht he p1,?_⟩
        have:=he.yb hf
        rw [← this]
        show jK ((L[d]?).getD undef) u=true
        have p2':L[d]?=some u':=p2
        rw [p2']
        exact p3
       ·exact k2 i hi Co
      ·cases h
end Go.Eng

namespace Go.Eng
variable {P:Program} {ins kept:List Nat} {n:Nat} {A:aG} {rn:jk} {σ:lW} {T:Tr Value} {L:List Value} {D:List eQ} {H:Heap} {nx:Nat} {env:Env} {ops:List Oper}
inductive Step (A:aG) (rn:jk) (o:Oper) (b:bE Od) (g:Option (Nat×Bool)) (T:Tr Value) (L:List Value) (D:List eQ) (H:Heap) (nx:Nat):Value→List eQ→Heap→Nat→Prop
 | alias (od:Od) (hb:b=.ae od) (hm:s5 o.op=true) (hg:g=none):Step A rn o b g T L D H nx ((gW T L od).getD undef) D H nx
 | gu (hw:wanted L g=false):Step A rn o b g T L D H nx undef D H nx
 | Sz (hw:wanted L g=true) (v:Value) (D':List eQ) (H':Heap) (nx':Nat) (h:∀p ag k,pV b A rn p ag k b T L D H nx=bn A.P p ag k T L D' v H' nx') (hd:b.plain=true→D'=D) :
   Step A rn o b g T L D H nx v D' H' nx'
theorem ry {d:Option Nat} {t:Nat} (h:cX kept d=none) (ht:d=some t):dt kept t=false:=by
 subst ht
 cases hk:dt kept t with
 | false=>rfl
 | true=>simp [cX,hk] at h
theorem Ap {d:Option Nat} {p:List Bool} (h:cX kept d=some p):∃t,d=some t∧p=bY t∧dt kept t=true:=by
 cases d with
 | none=>simp [cX] at h
 | some t=>
  cases hk:dt kept t with
  | false=>simp [cX,hk] at h
  | true=>
   simp [cX,hk] at h
   exact ⟨t,rfl,h.symm,hk⟩
def MA (T:Tr Value) (p:Option (List Bool)) (v:Value):Tr Value:=match p with
 | none=>T
 | some p=>bD p T (some v)
theorem gg {p:Option (List Bool)} {v:Value} {k:Tr Value→R0}:Il T p v k=k (MA T p v):=by
 rw [Aj]
 cases p<;>rfl
theorem IX {ek:List Nat} {bm:Nat} {o:Oper} {g:Option (Nat×Bool)} {a:bE Od} {s s1:Laid} (h:emit P kept n ops ek bm o g a s=some s1) :
  ∃as,s1.out=(⟨cX kept o.dst,g,a⟩,as)::s.out∧kY s s1∧(∀t od,(t,od)∈s1.env→some t=o.dst∨∃km,(t,km)∈s.env)∧(bX (bR a)=false→as=[])∧
   ∀de T L D H nx r σ,A.P=P→bt A rn ((⟨cX kept o.dst,g,a⟩,as)::de) T L D H nx=some r→eX kept σ s.env T L→
    (∃v D' H' nx' T',Step A rn o a g T L D H nx v D' H' nx'∧bt A rn de T' (v::L) D' H' nx'=some r∧eX kept (σ.set o.dst v) s1.env T' (v::L)∧
     (bX (bR a)=true→∀j∈s.dj,Nat.testBit bm j=false→qA P ops ek s.done (σ.set o.dst v) H' j))∨
    (wanted L g=true∧∃ch H' nx',r=(.panic ch,⟨T,D,H',nx'⟩)∧∀p ag k,pV a A rn p ag k a T L D H nx=some r):=by
 unfold emit at h
 generalize N9:oN s.env o.dst=PJ at h
 split at h
 ·cases h
 ·rename_i as has
  have j8:∀t od,(t,od)∈PJ→some t=o.dst∨∃km,(t,km)∈s.env:=by
   intro t od ht
   subst N9
   cases hd:o.dst with
   | none=>
    rw [hd] at ht
    obtain ⟨x,hx,_⟩:=mU.1 ht
    exact .inr ⟨x,hx⟩
   | some d=>
    rw [hd] at ht
    rcases List.mem_cons.1 ht with e|ht
    ·cases e;exact .inl rfl
    ·obtain ⟨x,hx,_⟩:=mU.1 (ep.1 ht).1
     exact .inr ⟨x,hx⟩
  have PL:∀(T:Tr Value) (L:List Value) (σ:lW) (v:Value),eX kept σ s.env T L→(∀p,cX kept o.dst=some p→(cC s.env).any (fun e=>isVar p e.2)=false)→
    eX kept (σ.set o.dst v) PJ (MA T (cX kept o.dst) v) (v::L):=by
   intro T L σ v he vM
   subst N9
   cases hd:o.dst with
   | none=>
    have:cX kept (none:Option Nat)=none:=rfl
    rw [this]
    exact he.shift v
   | some d=>
    rw [hd] at vM
    cases hk:cX kept (some d) with
    | none=>exact he.put (keep:=none) (.inl ⟨rfl,rfl,ry hk rfl⟩)
    | some p=>
     obtain ⟨t,ht,hp,_⟩:=Ap hk
     cases ht
     exact he.put (keep:=some p) (.inr ⟨p,rfl,hp,rfl,vM p hk⟩)
  have nZ:s1.env=PJ∧s1.out=(⟨cX kept o.dst,g,a⟩,as)::s.out∧kY s s1∧(∀p,cX kept o.dst=some p→(cC s.env).any (fun e=>isVar p e.2)=false):=by
   split at h
   ·rename_i hk
    cases h
    rw [hk]
    exact ⟨rfl,rfl,⟨rfl,rfl,rfl,rfl⟩,fun p hp=>by cases hp⟩
   ·rename_i p hk
    cases vM:(cC s.env).any (fun e=>isVar p e.2) with
    | true=>rw [vM] at h;cases h
    | false=>
     rw [vM] at h
     cases h
     rw [hk]
     exact ⟨rfl,rfl,⟨rfl,rfl,rfl,rfl⟩,fun q hq=>by cases hq;exact vM⟩
  obtain ⟨e1,e2,e3,e4⟩:=nZ
  refine ⟨as,e2,e3,fun t od ht=>j8 t od (by rw [← e1];exact ht),fun hh=>by rw [hh] at has;cases has;rfl,fun de T L D H nx r σ hA hr he=>?_⟩
  have Oa:∀v D' H' nx',bn A.P (cX kept o.dst) as (bt A rn de) T L D' v H' nx'=some r→
    ∃T',bt A rn de T' (v::L) D' H' nx'=some r∧eX kept (σ.set o.dst v) s1.env T' (v::L)∧(bX (bR a)=true→∀j∈s.dj,Nat.testBit bm j=false→qA P ops ek s.done (σ.set o.dst v) H' j):=by
   intro v D' H' nx' hc
   unfold bn at hc
   rw [gg] at hc
   have hE:=PL T L σ v he e4
   rw [← e1] at hE
   generalize MA T (cX kept o.dst) v=T' at hE hc
   refine ⟨T',?_⟩
   cases hh:bX (bR a) with
   | false=>
    rw [hh] at has
    cases has
    exact ⟨hc,hE,fun h=>by cases h⟩
   | true=>
    rw [hh] at has
    rw [hA] at hc
    rw [e1] at hE
    obtain ⟨q1,q2⟩:=IW hE has hc
    exact ⟨q1,by rw [e1];exact hE,fun _=>q2⟩
  have nn:cond (wanted L g) (pV a A rn (cX kept o.dst) as (bt A rn de) a T L D H nx) (bn A.P (cX kept o.dst) as (bt A rn de) T L D undef H nx)=some r:=hr
  cases hw:wanted L g with
  | false=>
   rw [hw] at nn
   obtain ⟨T',q1,q2,q3⟩:=Oa _ _ _ _ nn
   exact .inl ⟨undef,D,H,nx,T',.gu hw,q1,q2,q3⟩
  | true=>
   rw [hw] at nn
   rcases Mz nn with ⟨v,D',H',nx',g1,g2,g3⟩|⟨ch,H',nx',g1,g2⟩
   ·obtain ⟨T',q1,q2,q3⟩:=Oa _ _ _ _ g2
    exact .inl ⟨v,D',H',nx',T',.Sz hw v D' H' nx' g1 g3,q1,q2,q3⟩
   ·exact .inr ⟨rfl,ch,H',nx',g1,g2⟩
theorem wL {rest:List Oper} {ek:List Nat} {bm:Nat} {s6:Bool} {o:Oper} {s0 s1:Laid} (h:Ip P ins kept n ops rest ek bm s6 o s0=some s1) :
  ∃new env a b g,aj P ins o=some a∧a.fy (cv kept n env)=some b∧gU ops env o.guard=some g∧s1.out=new.reverse++s0.out∧kY s0 s1∧
   (∀t od,(t,od)∈env→∃km,(t,km)∈s0.env)∧(∀t od,(t,od)∈s1.env→some t=o.dst∨∃km,(t,km)∈s0.env)∧
   ∀de T L D H nx r σ,A.P=P→bt A rn (new++de) T L D H nx=some r→eX kept σ s0.env T L→∃L1,eX kept σ env T L1∧
    ((∃v D' H' nx' T' L',Step A rn o b g T L1 D H nx v D' H' nx'∧bt A rn de T' L' D' H' nx'=some r∧eX kept (σ.set o.dst v) s1.env T' L'∧
     (bX (bR b)=true→∀j∈s0.dj,Nat.testBit bm j=false→qA P ops ek s0.done (σ.set o.dst v) H' j))∨
    (wanted L1 g=true∧∃ch H' nx',r=(.panic ch,⟨T,D,H',nx'⟩)∧∀p ag k,pV b A rn p ag k b T L1 D H nx=some r)):=by
 unfold Ip at h
 simp only at h
 have hs:∃yd s,D8 (o::rest) s0 (cX kept o.dst)=s∧s.out=yd.reverse++s0.out∧kY s0 s∧(∀t od,(t,od)∈s.env→∃km,(t,km)∈s0.env)∧
   ∀de T L D H nx r σ,bt A rn (yd++de) T L D H nx=some r→eX kept σ s0.env T L→∃L',bt A rn de T L' D H nx=some r∧eX kept σ s.env T L':=by
  cases hk:cX kept o.dst with
  | none=>exact ⟨[],s0,rfl,rfl,⟨rfl,rfl,rfl,rfl⟩,fun t od h=>⟨od,h⟩,fun de T L D H nx r σ h he=>⟨L,h,he⟩⟩
  | some p=>
   obtain ⟨new,h1,h2,h3,h4⟩:=F0 (A:=A) (rn:=rn) (kept:=kept) (p:=p) (rest:=o::rest) s0.env s0
   refine ⟨new,_,rfl,h1,h2,fun t od h=>(h3 t od h).elim id id,fun de T L D H nx r σ h he=>h4 de T L D H nx r σ h he fun t ht=>he.env t _ ht⟩
 obtain ⟨yd,s,YL,lP,bV,j8,eN⟩:=hs
 rw [YL] at h
 split at h
 ·rename_i b g hb hg
  obtain ⟨a,ha,ht⟩:=Option.bind_eq_some_iff.1 hb
  have Ob:emit P kept n ops ek bm o g b s=some s1→∃new env a b g,aj P ins o=some a∧a.fy (cv kept n env)=some b∧gU ops env o.guard=some g∧s1.out=new.reverse++s0.out∧kY s0 s1∧
   (∀t od,(t,od)∈env→∃km,(t,km)∈s0.env)∧(∀t od,(t,od)∈s1.env→some t=o.dst∨∃km,(t,km)∈s0.env)∧
   ∀de T L D H nx r σ,A.P=P→bt A rn (new++de) T L D H nx=some r→eX kept σ s0.env T L→∃L1,eX kept σ env T L1∧
    ((∃v D' H' nx' T' L',Step A rn o b g T L1 D H nx v D' H' nx'∧bt A rn de T' L' D' H' nx'=some r∧eX kept (σ.set o.dst v) s1.env T' L'∧
     (bX (bR b)=true→∀j∈s0.dj,Nat.testBit bm j=false→qA P ops ek s0.done (σ.set o.dst v) H' j))∨
    (wanted L1 g=true∧∃ch H' nx',r=(.panic ch,⟨T,D,H',nx'⟩)∧∀p ag k,pV b A rn p ag k b T L1 D H nx=some r)):=by
   intro he
   obtain ⟨as,e1,e2,e3,_,e5⟩:=IX (A:=A) (rn:=rn) he
   refine ⟨yd++[(⟨cX kept o.dst,g,b⟩,as)],s.env,a,b,g,ha,ht,hg,?_,⟨e2.dj.trans bV.dj,e2.cB.trans bV.cB,e2.make.trans bV.make,e2.done.trans bV.done⟩,j8,fun t od h=>?_,fun de T L D H nx r σ hA hr hE=>?_⟩
   ·rw [e1,lP]
    simp
   ·rcases e3 t od h with h|⟨km,h⟩
    ·exact .inl h
    ·exact .inr (j8 t km h)
   ·rw [List.append_assoc] at hr
    obtain ⟨L1,nS,SA⟩:=eN _ T L D H nx r σ hr hE
    refine ⟨L1,SA,?_⟩
    rcases e5 de T L1 D H nx r σ hA nS SA with ⟨v,D',H',nx',T',q1,q2,q3,q4⟩|q
    ·refine .inl ⟨v,D',H',nx',T',v::L1,q1,q2,q3,?_⟩
     rw [← bV.dj,← bV.done]
     exact q4
    ·exact .inr q
  split at h
  ·rename_i x t vO
   cases hc:(cX kept (some t)).isNone&&s5 o.op&&!s6 with
   | false=>rw [hc] at h;exact Ob h
   | true=>
    rw [hc] at h
    simp only [cond_true,Option.some.injEq] at h
    simp only [Bool.and_eq_true,Option.isNone_iff_eq_none] at hc
    obtain ⟨⟨hk,hm⟩,_⟩:=hc
    subst h
    refine ⟨yd,s.env,a,.ae x,none,ha,ht,hg,lP,⟨bV.dj,bV.cB,bV.make,bV.done⟩,j8,fun u od hu=>?_,fun de T L D H nx r σ hA hr hE=>?_⟩
    ·rcases List.mem_cons.1 hu with e|hu
     ·cases e;exact .inl vO.symm
     ·exact .inr (j8 u od (ep.1 hu).1)
    ·obtain ⟨L1,nS,SA⟩:=eN _ T L D H nx r σ hr hE
     refine ⟨L1,SA,.inl ⟨(gW T L1 x).getD undef,D,H,nx,T,L1,.alias x rfl hm rfl,nS,?_,fun hh=>by cases hh⟩⟩
     rw [vO]
     refine ⟨fun u od hu=>?_,fun u hu=>?_⟩
     ·rcases List.mem_cons.1 hu with e|hu
      ·cases e
       show _=if t=t then _ else _
       rw [if_pos rfl]
      ·obtain ⟨hu,cy⟩:=ep.1 hu
       have hs:lW.set σ (some t) ((gW T L1 x).getD undef) u=σ u:=if_neg cy
       rw [hs]
       exact SA.env u od hu
     ·have cy:u≠t:=by intro e;subst e;rw [ry hk rfl] at hu;cases hu
      have hs:lW.set σ (some t) ((gW T L1 x).getD undef) u=σ u:=if_neg cy
      rw [hs]
      exact SA.kept u hu
  ·exact Ob h
 ·cases h
end Go.Eng

namespace Go.Eng
variable {P:Program} {ins kept:List Nat} {n:Nat} {A:aG} {rn:jk} {σ:lW} {T:Tr Value} {L:List Value} {D:List eQ} {H:Heap} {nx:Nat} {env:Env} {ops:List Oper} {ρ:bB}
structure rX (ρ:bB) (kept:List Nat) (n:Nat) (env:Env) (σ:lW) (tm:Array Value):Prop where
 size:n≤tm.size
 env:∀t od,(t,od)∈env→VR ρ (σ t) (tm.getD t undef)
 kept:∀t,dt kept t=true→VR ρ (σ t) (tm.getD t undef)
theorem gZ.of {a:Act} (he:eX kept σ env T L) (hs:rX ρ kept n env σ a.tmps):gZ ρ kept n env T L a:=
 ⟨hs.size,fun t od ht=>by rw [he.yb ht];exact hs.env t od (ph ht),fun t ht=>by rw [he.kept t ht];exact hs.kept t ht⟩
theorem rX.mono {ρ':bB} {tm:Array Value} (e:Ext ρ ρ') (h:rX ρ kept n env σ tm):rX ρ' kept n env σ tm:=
 ⟨h.size,fun t od ht=>(h.env t od ht).mono e,fun t ht=>(h.kept t ht).mono e⟩
theorem rX.less {vP:Env} {tm:Array Value} (h:rX ρ kept n env σ tm) (hd:∀t od,(t,od)∈vP→∃km,(t,km)∈env):rX ρ kept n vP σ tm:=
 ⟨h.size,fun t od ht=>let ⟨km,g⟩:=hd t od ht;h.env t km g,h.kept⟩
theorem tH {a:Act} {d:Nat} {u:Value} (hd:d < a.tmps.size) (t:Nat):(a.put (some d) u).tmps.getD t undef=if t=d then u else a.tmps.getD t undef:=by
 show (a.tmps.setIfInBounds d u).getD t undef=_
 simp only [Array.getD_eq_getD_getElem?,Array.getElem?_setIfInBounds]
 by_cases ht:d=t
 ·subst ht;simp [hd]
 ·rw [if_neg ht,if_neg (fun e=>ht e.symm)]
theorem rX.put {vP:Env} {a:Act} {dst:Option Nat} {v u:Value} (h:rX ρ kept n env σ a.tmps) (hv:VR ρ v u) (hd:∀d,dst=some d→d < n) (j8:∀t od,(t,od)∈vP→some t=dst∨∃km,(t,km)∈env) :
  rX ρ kept n vP (σ.set dst v) (a.put dst u).tmps:=by
 cases dst with
 | none=>exact h.less fun t od ht=>(j8 t od ht).elim (fun e=>by cases e) id
 | some d=>
  have YI:d < a.tmps.size:=Nat.lt_of_lt_of_le (hd d rfl) h.size
  have key:∀t,(t≠d→VR ρ (σ t) (a.tmps.getD t undef))→VR ρ (lW.set σ (some d) v t) ((a.put (some d) u).tmps.getD t undef):=by
   intro t ht
   rw [tH YI]
   show VR ρ (if t=d then v else σ t) _
   by_cases e:t=d
   ·rw [if_pos e,if_pos e];exact hv
   ·rw [if_neg e,if_neg e];exact ht e
  refine ⟨by show n≤(a.tmps.setIfInBounds d u).size;simpa using h.size,fun t od ht=>key t fun cy=>?_,fun t ht=>key t fun _=>h.kept t ht⟩
  rcases j8 t od ht with e|⟨km,g⟩
  ·cases e;exact absurd rfl cy
  ·exact h.env t km g
noncomputable def qC:RL:=fun _ L D H nx=>some (.normal,⟨.n .e (wk L) .e,D,H,nx⟩)
theorem Aq {v v':Value} {D' YM:List eQ} {H' YN:Heap} {nx' PM:Nat} (h:bn P none [] qC T L D' v H' nx'=bn P none [] qC T L YM v' YN PM):v=v'∧D'=YM∧H'=YN∧nx'=PM:=by
 rw [g8,g8] at h
 have h':some (Ex.normal,(⟨.n .e (some v) .e,D',H',nx'⟩:St))=some (Ex.normal,⟨.n .e (some v') .e,YM,YN,PM⟩):=h
 simp only [Option.some.injEq,Prod.mk.injEq,St.mk.injEq,Tr.n.injEq,true_and,and_true] at h'
 exact h'
theorem Es {v:Value} {ch:List PanicEntry} {st:St} (h:bn P none [] qC T L D v H nx=some (.panic ch,st)):False:=by
 rw [g8] at h
 have h':some (Ex.normal,(⟨.n .e (some v) .e,D,H,nx⟩:St))=some (Ex.panic ch,st):=h
 simp at h'
theorem Ar {o:Oper} {a:bE Operand} {x:Operand} {c:Act} {w:World} (hm:s5 o.op=true) (hc:aj P ins o=some a) (ha:a=.ae x):(execOp c.eval o).run P w=.ok (.value (c.eval x)) w:=by
 subst ha
 cases ho:o.op<;>simp only [ho,s5] at hm<;>first|cases hm|skip
 all_goals
  simp only [aj,ho,Option.some.injEq,bE.ae.injEq] at hc
  subst hc
  simp only [execOp,ho,Sem.run_pure]
theorem As {α β:Type} {c:α→Option β} {a:bE α} {y:β} (h:a.fy c=some (.ae y)):∃x,a=.ae x∧c x=some y:=by
 cases a with
 | ae x=>
  simp only [bE.fy] at h
  split at h
  ·rename_i z hz
   cases h
   exact ⟨x,rfl,hz⟩
  ·cases h
 | _=>
  exfalso
  simp only [bE.fy] at h
  repeat' split at h
  all_goals cases h
theorem Au {o:Oper} {a:bE Operand} {b:bE Od} {g:Option (Nat×Bool)} {c:Act} {w:World} {v:Value} {D':List eQ} {H':Heap} {nx':Nat} {next:Act→World→Prop} {Q:Exit→Act→World→Prop}
  (hA:A.P=P) (cF:fC P rn) (pf:nz P ins) (hc:aj P ins o=some a) (ht:a.fy (cv kept n env)=some b) (hg:gU ops env o.guard=some g) (he:gZ ρ kept n env T L c) (hD:gv ρ D c.defers) (hH:HR ρ H nx w.heap)
  (hs:Step A rn o b g T L D H nx v D' H' nx')
  (hn:∀(ρ':bB) (u:Value) (w':World) (c':Act),VR ρ' v u→jv ρ H nx w ρ' H' nx' w'→gv ρ' D' c'.defers→c'.tmps=c.tmps→next (c'.put o.dst u) w') :
  (if Region.wanted o (yielded ops.toArray c.tmps) then o.wp P c w next Q∨(o.asks P c w∧LetsOut Q) else next (c.put o.dst undef) w):=by
 rw [tE hg he]
 cases hs with
 | alias od hb hm F1=>
  rw [hb] at ht
  obtain ⟨x,W8,hx⟩:=As ht
  have hw:wanted L g=true:=by rw [F1];rfl
  rw [if_pos hw]
  refine .inl ?_
  unfold Oper.wp
  rw [Ar hm hc W8]
  exact hn ρ _ w c (e7 he hx) (.refl hH) hD rfl
 | gu hw=>
  rw [hw,if_neg (by simp)]
  exact hn ρ _ w c VR.undef (.refl hH) hD rfl
 | Sz hw _ _ _ _ h hd=>
  rw [hw,if_pos rfl]
  refine .inl ?_
  unfold Oper.wp
  obtain ⟨r0,CA⟩:∃r0,bn A.P none [] qC T L D' v H' nx'=some r0:=⟨_,g8.trans rfl⟩
  refine IS (p:=none) (ag:=[]) (k:=qC) hA cF pf hc ht he hD hH ((h none [] qC).trans CA) ?_ ?_
  ·intro v2 H2 nx2 D2 ρ' u w' c' h1 h2 h3 h4 h5
   obtain ⟨rfl,rfl,rfl,rfl⟩:=Aq (h1.trans CA.symm)
   exact hn ρ' u w' c' h2 h3 h4 h5
  ·intro ch vN ρ' H2 nx2 w' h1
   subst h1
   exact (Es CA).elim
theorem dW {α:Type} {c:Bool} {x:Option α} {a:α} (h:(bif c then x else none)=some a):c=true∧x=some a:=by
 cases c
 ·cases h
 ·exact ⟨rfl,h⟩
theorem CB {s6:List Nat} (hA:A.P=P) (cF:fC P rn) (pf:nz P ins):∀(is:List Nat) (s s':Laid),nP P ins kept n false ops [] s6 is s=some s'→∃new,s'.out=new.reverse++s.out∧
  ∀T L D H nx r σ,bt A rn new T L D H nx=some r→eX kept σ s.env T L→∀ρ a w,HR ρ H nx w.heap→rX ρ kept n s.env σ a.tmps→gv ρ D a.defers→
   ∀Q:Exit→Act→World→Prop,(∀e a' w',kB ρ H nx w kept n r e a' w'→Q e a' w')→wpOps P ops.toArray Q is a w:=by
 intro is
 induction is with
 | nil=>
  intro s s' h
  cases h
  refine ⟨[],rfl,fun T L D H nx r σ hr he ρ a w hH hs hD Q hQ=>?_⟩
  have nn:some (Ex.normal,(⟨T,D,H,nx⟩:St))=some r:=hr
  cases nn
  exact hQ _ _ _ ⟨ρ,.refl hH,⟨.of ⟨fun t od h=>by simp at h,he.kept⟩ ⟨hs.size,fun t od h=>by simp at h,hs.kept⟩,hD⟩,trivial⟩
 | cons i is ih=>
  intro s s' h
  unfold nP at h
  cases ho:ops[i]? with
  | none=>rw [ho] at h;cases h
  | some o=>
   rw [ho] at h
   simp only [cond_false] at h
   split at h
   ·cases h
   ·rename_i s1 a7
    split at h
    ·cases h
    ·rename_i k hk
     obtain ⟨vO,h⟩:=dW h
     have cf:∀d,o.dst=some d→d < n:=by
      intro d hd
      rw [hd] at vO
      have IY:Nat.blt d n=true:=vO
      rwa [Nat.blt_eq] at IY
     obtain ⟨yd,env,a,b,g,hc,ht,hg,lP,bV,j8,IZ,eN⟩:=wL (A:=A) (rn:=rn) a7
     obtain ⟨CC,I0,rp⟩:=ih _ _ (dW h).2
     refine ⟨yd++CC,?_,fun T L D H nx r σ hr he ρ c w hH hs hD Q hQ=>?_⟩
     ·rw [I0]
      show CC.reverse++s1.out=_
      rw [lP]
      simp
     ·obtain ⟨L1,hE,oW⟩:=eN CC T L D H nx r σ hA hr he
      have hR:gZ ρ kept n env T L1 c:=.of hE (hs.less j8)
      rw [wpOps_cons]
      unfold wpOp
      have hoi:ops.toArray[i]?=some o:=by simpa using ho
      rw [hoi]
      rcases oW with ⟨v,D',H',nx',T',L',bP,zT,YO,_⟩|⟨hw,ch,H',nx',CD,ij⟩
      ·refine Au hA cF pf hc ht hg hR hD hH bP fun ρ' u w' c' hv I1 hD' htm=>?_
       refine rp T' L' D' H' nx' r _ zT YO ρ' (c'.put o.dst u) w' I1.hr ?_ ?_ Q fun e a' SB ho=>hQ e a' SB (.trans I1 ho)
       ·refine rX.put (env:=s.env) (h:=?_) hv cf IZ
        rw [htm]
        exact hs.mono I1.fF.ext
       ·have:(c'.put o.dst u).defers=c'.defers:=by cases o.dst<;>rfl
        rw [this]
        exact hD'
      ·show (if Region.wanted o (yielded ops.toArray c.tmps) then _ else _)
       rw [tE hg hR,if_pos hw]
       refine .inl ?_
       unfold Oper.wp
       refine IS (p:=none) (ag:=[]) (k:=qC) hA cF pf hc ht hR hD hH (ij none [] qC) ?_ ?_
       ·intro v2 H2 nx2 D2 ρ' u w' c' h1
        subst CD
        exact (Es h1).elim
       ·intro ch2 vN ρ' H2 nx2 w' h1 h2 h3
        rw [CD] at h1
        cases h1
        exact hQ _ _ _ ⟨ρ',by rw [CD];exact h3,by
         rw [CD]
         exact ⟨.of ⟨fun t od h=>by simp at h,he.kept⟩ ⟨hs.size,fun t od h=>by simp at h,fun t h=>(hs.kept t h).mono h3.fF.ext⟩,hD.mono h3.fF.ext⟩,by rw [CD];exact h2⟩
end Go.Eng

namespace Go.Eng
variable {P:Program} {ins kept:List Nat} {n:Nat} {A:aG} {rn:jk} {ops:List Oper} {ek:List Nat}
theorem PN {id:Nat} {ops:Array Oper} {l:List (AO×List bx)} (hA:A.P=P) (cF:fC P rn) (pf:nz P ins) (h:gV P ins kept n false ops.toList=some l) :
  fD P ins kept n (TO A rn l) (.region id ops false):=by
 intro T D H nx o hr ρ a w hH ha
 unfold gV at h
 simp only [cond_false,Option.map_eq_some_iff] at h
 obtain ⟨s',hs,rfl⟩:=h
 obtain ⟨new,lP,ij⟩:=CB hA cF pf _ _ _ hs
 refine wp_region ?_
 have hn:s'.out.reverse=new:=by rw [lP];simp [nD]
 have nn:bt A rn s'.out.reverse T [] D H nx=some o:=hr
 rw [hn] at nn
 have:=ij T [] D H nx o (fun t=>(ak T (bY t)).getD undef) nn ⟨fun t od h=>by simp [nD] at h,fun t _=>rfl⟩ ρ a w hH ⟨ha.env.size,fun t od h=>by simp [nD] at h,ha.env.kept⟩ ha.oC (kB ρ H nx w kept n o) fun e a' w' h=>h
 simpa using this
structure Rec where
 i:Nat
 o:Oper
 a:bE Operand
 σ:lW
 D:List eQ
 H:Heap
 nx:Nat
 v:Value
 D':List eQ
 H':Heap
 nx':Nat
def At (σ0:lW) (D0:List eQ) (H0:Heap) (nx0:Nat):List Rec→lW→List eQ→Heap→Nat→Prop
 | [],σ,D,H,nx=>σ=σ0∧D=D0∧H=H0∧nx=nx0
 | q::_,σ,D,H,nx=>σ=q.σ.set q.o.dst q.v∧D=q.D'∧H=q.H'∧nx=q.nx'
def bit (ek:List Nat) (i j:Nat):Bool:=Nat.testBit (ek.getD i 0) j
structure I2 (P:Program) (A:aG) (rn:jk) (ins kept:List Nat) (n:Nat) (ops:List Oper) (ek:List Nat) (pre:List Rec) (r:Rec):Prop where
 op:ops[r.i]?=some r.o
 comp:aj P ins r.o=some r.a
 step:∃env T L b g,r.a.fy (cv kept n env)=some b∧gU ops env r.o.guard=some g∧eX kept r.σ env T L∧(∀t od,(t,od)∈env→∃q∈pre,q.o.dst=some t)∧Step A rn r.o b g T L r.D r.H r.nx r.v r.D' r.H' r.nx'
 dst:∀d,r.o.dst=some d→d < n
 F2:∀j,bit ek r.i j=true→∃q∈pre,q.i=j
 new:∀q∈pre,q.i≠r.i
 YP:hygienic ops ek r.i r.o=true
 grd:∀g w,r.o.guard=some (g,w)→bit ek r.i g=true
 cB:bX (bR r.a)=true→∀q∈pre,bX (bR q.a)=true∨gT (bR q.a)=true→bit ek r.i q.i=true
 load:iD (bR r.a)=true→∀q∈pre,bX (bR q.a)=true→bit ek r.i q.i=true
 again:bX (bR r.a)=true→∀q∈pre,iD (bR q.a)=true→bit ek r.i q.i=false→∃done,(∀j,Nat.testBit done j=true↔∃q∈pre,q.i=j)∧qA P ops ek done (r.σ.set r.o.dst r.v) r.H' q.i
def Et (P:Program) (A:aG) (rn:jk) (ins kept:List Nat) (n:Nat) (ops:List Oper) (ek:List Nat) (σ0:lW) (D0:List eQ) (H0:Heap) (nx0:Nat):List Rec→Prop
 | []=>True
 | r::pre=>I2 P A rn ins kept n ops ek pre r∧At σ0 D0 H0 nx0 pre r.σ r.D r.H r.nx∧Et P A rn ins kept n ops ek σ0 D0 H0 nx0 pre
structure tI (pre:List Rec) (s:Laid):Prop where
 done:∀j,Nat.testBit s.done j=true↔∃q∈pre,q.i=j
 cB:∀q∈pre,bX (bR q.a)=true→Nat.testBit s.cB q.i=true
 make:∀q∈pre,gT (bR q.a)=true→Nat.testBit s.make q.i=true
 dj:∀q∈pre,iD (bR q.a)=true→q.i∈s.dj
 Us:∀j∈s.dj,∃q∈pre,q.i=j
 env:∀t od,(t,od)∈s.env→∃q∈pre,q.o.dst=some t
theorem I3 {α β:Type} (f:α→β) (a:bE α):bR (a.map f)=bR a:=by cases a<;>rfl
theorem jb {α β:Type} {c:α→Option β} {a:bE α} {b:bE β} (d:β) (h:a.fy c=some b):bR b=bR a:=by
 rw [(gX d h).1,I3]
theorem sx {a b j:Nat} (h:sub a b=true) (hj:Nat.testBit a j=true):Nat.testBit b j=true:=by
 have e:a&&& b=a:=Nat.eq_of_beq_eq_true h
 rw [← e,Nat.testBit_and] at hj
 simp at hj
 exact hj.2
theorem qD {s i j:Nat}:Nat.testBit (s||| 2 ^ i) j=true↔Nat.testBit s j=true∨j=i:=by
 rw [Nat.testBit_or,Bool.or_eq_true,Nat.testBit_two_pow]
 simp only [decide_eq_true_eq]
 constructor
 ·rintro (h|h)
  ·exact .inl h
  ·exact .inr h.symm
 ·rintro (h|h)
  ·exact .inl h
  ·exact .inr h.symm
theorem tI.next {pre:List Rec} {s0 s1:Laid} {r:Rec} (h:tI pre s0) (hs:kY s0 s1) (j8:∀t od,(t,od)∈s1.env→some t=r.o.dst∨∃km,(t,km)∈s0.env) :
  tI (r::pre) { s1 with dj:=(bif iD (bR r.a) then r.i::s1.dj else s1.dj),cB:=(bif bX (bR r.a) then s1.cB||| 2 ^ r.i else s1.cB),make:=(bif gT (bR r.a) then s1.make||| 2 ^ r.i else s1.make),done:=s1.done||| 2 ^ r.i }:=by
 refine ⟨fun j=>?_,fun q hq hk=>?_,fun q hq hk=>?_,fun q hq hk=>?_,fun j hj=>?_,fun t od ht=>?_⟩
 ·show Nat.testBit (s1.done||| 2 ^ r.i) j=true↔_
  rw [qD,hs.done,h.done]
  simp only [List.mem_cons,exists_eq_or_imp]
  constructor
  ·rintro (h|h)
   ·exact .inr h
   ·exact .inl h.symm
  ·rintro (h|h)
   ·exact .inr h.symm
   ·exact .inl h
 ·show Nat.testBit (bif bX (bR r.a) then s1.cB||| 2 ^ r.i else s1.cB) q.i=true
  rcases List.mem_cons.1 hq with rfl|hq
  ·rw [hk];exact qD.2 (.inr rfl)
  ·have:=h.cB q hq hk
   rw [hs.cB]
   cases bX (bR r.a)
   ·exact this
   ·exact qD.2 (.inl this)
 ·show Nat.testBit (bif gT (bR r.a) then s1.make||| 2 ^ r.i else s1.make) q.i=true
  rcases List.mem_cons.1 hq with rfl|hq
  ·rw [hk];exact qD.2 (.inr rfl)
  ·have:=h.make q hq hk
   rw [hs.make]
   cases gT (bR r.a)
   ·exact this
   ·exact qD.2 (.inl this)
 ·show q.i∈(bif iD (bR r.a) then r.i::s1.dj else s1.dj)
  rcases List.mem_cons.1 hq with rfl|hq
  ·rw [hk];exact List.mem_cons_self
  ·have:=h.dj q hq hk
   rw [hs.dj]
   cases iD (bR r.a)
   ·exact this
   ·exact List.mem_cons_of_mem _ this
 ·have Fw:j∈(bif iD (bR r.a) then r.i::s1.dj else s1.dj):=hj
  have:j=r.i∨j∈s0.dj:=by
   rw [hs.dj] at Fw
   cases hb:iD (bR r.a)<;>rw [hb] at Fw
   ·exact .inr Fw
   ·exact List.mem_cons.1 Fw
  rcases this with rfl|hj
  ·exact ⟨r,List.mem_cons_self,rfl⟩
  ·obtain ⟨q,hq,e⟩:=h.Us j hj
   exact ⟨q,List.mem_cons_of_mem _ hq,e⟩
 ·rcases j8 t od ht with e|⟨km,g⟩
  ·exact ⟨r,List.mem_cons_self,e.symm⟩
  ·obtain ⟨q,hq,e⟩:=h.env t km g
   exact ⟨q,List.mem_cons_of_mem _ hq,e⟩
theorem F3 {s6:List Nat} {σ0:lW} {D0:List eQ} {H0:Heap} {nx0:Nat} (hA:A.P=P):∀(is:List Nat) (s s':Laid),nP P ins kept n true ops ek s6 is s=some s'→∃new,s'.out=new.reverse++s.out∧
  ∀pre T L D H nx r σ,bt A rn new T L D H nx=some r→eX kept σ s.env T L→tI pre s→Et P A rn ins kept n ops ek σ0 D0 H0 nx0 pre→At σ0 D0 H0 nx0 pre σ D H nx→(∀ch,r.1≠.panic ch)→
   ∃R T' σ' D' H' nx',tI R s'∧Et P A rn ins kept n ops ek σ0 D0 H0 nx0 R∧At σ0 D0 H0 nx0 R σ' D' H' nx'∧(∀t,dt kept t=true→(ak T' (bY t)).getD undef=σ' t)∧r=(.normal,⟨T',D',H',nx'⟩):=by
 intro is
 induction is with
 | nil=>
  intro s s' h
  cases h
  refine ⟨[],rfl,fun pre T L D H nx r σ hr he hl oD xT _=>?_⟩
  have nn:some (Ex.normal,(⟨T,D,H,nx⟩:St))=some r:=hr
  cases nn
  exact ⟨pre,T,σ,D,H,nx,hl,oD,xT,he.kept,rfl⟩
 | cons i is ih=>
  intro s s' h
  unfold nP at h
  cases ho:ops[i]? with
  | none=>rw [ho] at h;cases h
  | some o=>
   rw [ho] at h
   simp only [cond_true] at h
   split at h
   ·cases h
   ·rename_i s1 a7
    split at h
    ·cases h
    ·rename_i k hk
     obtain ⟨vO,h⟩:=dW h
     have cf:∀d,o.dst=some d→d < n:=by
      intro d hd
      rw [hd] at vO
      have IY:Nat.blt d n=true:=vO
      rwa [Nat.blt_eq] at IY
     obtain ⟨Ut,h⟩:=dW h
     simp only [Bool.not_true,Bool.false_or,Bool.and_eq_true,Bool.not_eq_true'] at Ut
     obtain ⟨⟨⟨⟨c1,c2⟩,c3⟩,c4⟩,c5⟩:=Ut
     obtain ⟨yd,env,a,b,g,hc,ht,hg,lP,bV,j8,IZ,eN⟩:=wL (A:=A) (rn:=rn) a7
     have SC:k=a:=by rw [hk] at hc;exact Option.some.inj hc
     subst SC
     obtain ⟨CC,I0,rp⟩:=ih _ _ h
     refine ⟨yd++CC,?_,fun pre T L D H nx r σ hr he hl oD xT hnp=>?_⟩
     ·rw [I0]
      show CC.reverse++s1.out=_
      rw [lP]
      simp
     ·obtain ⟨L1,hE,oW⟩:=eN CC T L D H nx r σ hA hr he
      rcases oW with ⟨v,D',H',nx',T',L',bP,zT,YO,CE⟩|⟨hw,ch,H',nx',CD,ij⟩
      ·have hkd:bR b=bR k:=jb (.loc 0) ht
       have YQ:I2 P A rn ins kept n ops ek pre ⟨i,o,k,σ,D,H,nx,v,D',H',nx'⟩:=by
        refine ⟨ho,hk,⟨env,T,L1,b,g,ht,hg,hE,fun t od hm=>?_,bP⟩,cf,fun j hj=>(hl.done j).1 (sx c1 hj),fun q hq e=>?_,c3,fun g' w' qE=>?_,fun hh q hq MB=>?_,fun hh q hq MB=>?_,fun hh q hq MB F4=>?_⟩
        ·obtain ⟨km,HB⟩:=j8 t od hm
         exact hl.env t km HB
        ·have:=(hl.done i).2 ⟨q,hq,e⟩
         rw [c2] at this
         cases this
        ·have YR:o.guard=some (g',w'):=qE
         rw [YR] at c4
         exact c4
        ·have PO:bX (bR k)=true:=hh
         cases Uu:bR k<;>rw [Uu] at PO<;>first|cases PO|skip
         rw [Uu] at c5
         have Uv:(sub s.cB (ek.getD i 0)&&sub s.make (ek.getD i 0))=true:=c5
         rw [Bool.and_eq_true] at Uv
         rcases MB with MB|MB
         ·exact sx Uv.1 (hl.cB q hq MB)
         ·exact sx Uv.2 (hl.make q hq MB)
        ·have PO:iD (bR k)=true:=hh
         cases Uu:bR k<;>rw [Uu] at PO<;>first|cases PO|skip
         rw [Uu] at c5
         have Uv:sub s.cB (ek.getD i 0)=true:=c5
         exact sx Uv (hl.cB q hq MB)
        ·exact ⟨s.done,hl.done,CE (by rw [hkd];exact hh) q.i (hl.dj q hq MB) F4⟩
       obtain ⟨R,T2,σ2,D2,H2,nx2,q1,q2,q3,q4,q5⟩:=rp (⟨i,o,k,σ,D,H,nx,v,D',H',nx'⟩::pre) T' L' D' H' nx' r _ zT YO (hl.next (r:=⟨i,o,k,σ,D,H,nx,v,D',H',nx'⟩) bV IZ) ⟨YQ,xT,oD⟩ ⟨rfl,rfl,rfl,rfl⟩ hnp
       exact ⟨R,T2,σ2,D2,H2,nx2,q1,q2,q3,q4,q5⟩
      ·exact absurd (by rw [CD]) (hnp ch)
end Go.Eng

namespace Go.Eng
variable {P:Program} {ins kept:List Nat} {n:Nat} {A:aG} {rn:jk} {T:Tr Value} {L:List Value} {D:List eQ} {H:Heap} {nx:Nat}
def Up (f:RC):Prop:=∀T D H nx o,f T D H nx=some o→nx≤o.2.nx
def cV.count:cV→Nat
 | .ok _ _ nx=>nx
 | .nA _ _ nx=>nx
structure gh (r:jk):Prop where
 code:∀c,Up (r.code c)
 call:∀g vs H nx c,r.call g vs H nx=some c→nx≤c.count
def W9 (k:RL):Prop:=∀T L D H nx r,k T L D H nx=some r→nx≤r.2.nx
theorem Aw {X:R0} {r:Ex×St}:∀{as:List bx},fT P T L H as X=some r→X=some r:=by
 intro as
 induction as with
 | nil=>intro h;exact h
 | cons a as ih=>intro h;exact ih (ru h).1
theorem mo {p:Option (List Bool)} {ag:List bx} {k:RL} {v:Value} {r:Ex×St} (hk:W9 k) (h:bn P p ag k T L D v H nx=some r):nx≤r.2.nx:=by
 unfold bn at h
 rw [gg] at h
 exact hk _ _ _ _ _ _ (Aw h)
theorem Ax {p:Option (List Bool)} {ag:List bx} {k:RL} {c:cV} {r:Ex×St} (hk:W9 k) (hc:nx≤c.count) (h:dq P p ag k T L D c=some r):nx≤r.2.nx:=by
 cases c with
 | ok v H' nx'=>exact Nat.le_trans hc (mo hk h)
 | nA ch H' nx'=>
  have h':some (Ex.panic ch,(⟨T,D,H',nx'⟩:St))=some r:=h
  cases h'
  exact hc
theorem I4 {b:bE Od} {p:Option (List Bool)} {ag:List bx} {k:RL} {r:Ex×St} (hu:gh rn) (hk:W9 k) (h:pV b A rn p ag k b T L D H nx=some r):nx≤r.2.nx:=by
 by_cases hp:b.plain=true
 ·rw [iZ hp] at h
  have h':b7 b A.P T L H nx (uk fun x=>bn A.P p ag k T L D x.1 x.2.1 x.2.2)=some r:=h
  obtain ⟨x,h1,_,h3⟩:=ja b _ r h'
  exact Nat.le_trans h3 (mo hk h1)
 ·cases b with
  | call f args=>
   have h':aS T L f (fun f=>cH T L args fun vs=>fh vs (fun g vs=>bd (rn.call g vs H nx) (dq A.P p ag k T L D)) f)=some r:=h
   rw [b6] at h'
   obtain ⟨fv,pX,h1⟩:=aL h'
   rw [dJ] at h1
   obtain ⟨vs,j6,h2⟩:=aL h1
   unfold fh at h2
   split at h2
   ·obtain ⟨c,g1,g2⟩:=aL h2
    exact Ax hk (hu.call _ _ _ _ _ g1) g2
   ·cases h2
  | inv x name args=>
   have h':aS T L x (fun x=>cH T L args fun vs=>ng A.P name H (fun g v=>bd (rn.call g (v::vs) H nx) (dq A.P p ag k T L D)) x)=some r:=h
   rw [b6] at h'
   obtain ⟨fv,pX,h1⟩:=aL h'
   rw [dJ] at h1
   obtain ⟨vs,j6,h2⟩:=aL h1
   have hd:bH (fun _=>True) fun k':FuncId×Value→R0=>ng A.P name H (fun g v=>k' (g,v)) fv:=by
    unfold ng
    split
    ·refine .bd fun m=>?_
     unfold zC
     cases m.2 with
     | none=>exact .ret _ trivial
     | some agg=>exact .ptr fun _ _=>.cr fun _=>.bd fun _=>.ret _ trivial
    ·exact .no
   obtain ⟨y,g1,_⟩:=hd.Sy (fun y=>bd (rn.call y.1 (y.2::vs) H nx) (dq A.P p ag k T L D)) r h2
   obtain ⟨c,k1,k2⟩:=aL g1
   exact Ax hk (hu.call _ _ _ _ _ k1) k2
  | oC f args=>
   have h':aS T L f (fun f=>cH T L args fun vs=>p9 f (bn A.P p ag k T L ((f,vs)::D) undef H nx))=some r:=h
   rw [b6] at h'
   obtain ⟨fv,pX,h1⟩:=aL h'
   rw [dJ] at h1
   obtain ⟨vs,j6,h2⟩:=aL h1
   unfold p9 at h2
   split at h2
   ·exact mo hk h2
   ·cases h2
  | nA x=>
   have h':aS T L x (zD T D H nx)=some r:=h
   rw [b6] at h'
   obtain ⟨v,hv,h1⟩:=aL h'
   unfold zD at h1
   split at h1
   ·cases h1;exact Nat.le_refl _
   ·cases h1
  | wi=>cases h
  | ins z bytes s i v=>
   have h':b7 (.ins z bytes s i v) A.P T L H nx (uk fun x=>bn A.P p ag k T L D x.1 x.2.1 x.2.2)=some r:=h
   obtain ⟨x,h1,_,h3⟩:=ja _ _ r h'
   exact Nat.le_trans h3 (mo hk h1)
  | _=>exact absurd rfl hp
theorem MC {b:bE Od} {v:Value} {D':List eQ} {H':Heap} {nx':Nat} (hu:gh rn) (h:∀p ag k,pV b A rn p ag k b T L D H nx=bn A.P p ag k T L D' v H' nx'):nx≤nx':=
 I4 (k:=qC) (p:=none) (ag:=[]) (r:=(.normal,⟨.n .e (some v) .e,D',H',nx'⟩)) hu (fun T L D H nx r h=>by cases h;exact Nat.le_refl _) ((h none [] qC).trans (g8.trans rfl))
theorem wM (hu:gh rn):∀l:List (AO×List bx),W9 (bt A rn l):=by
 intro l
 induction l with
 | nil=>intro T L D H nx r h;cases h;exact Nat.le_refl _
 | cons x l ih=>
  obtain ⟨o,ag⟩:=x
  intro T L D H nx r h
  have h':cond (wanted L o.guard) (pV o.op A rn o.keep ag (bt A rn l) o.op T L D H nx) (bn A.P o.keep ag (bt A rn l) T L D undef H nx)=some r:=h
  cases hw:wanted L o.guard with
  | true=>rw [hw] at h';exact I4 hu ih h'
  | false=>rw [hw] at h';exact mo ih h'
theorem Eu {k:RC} {o1 o:Ex×St} (hk:Up k) (h:ma k o1=some o):o1.2.nx≤o.2.nx:=by
 obtain ⟨e,st⟩:=o1
 cases e with
 | normal=>exact hk _ _ _ _ _ h
 | exit i=>cases h;exact Nat.le_refl _
 | ret=>cases h;exact Nat.le_refl _
 | panic c=>cases h;exact Nat.le_refl _
theorem F5 {id:Nat} {o1 o:Ex×St} (h:nO id o1=some o):o1.2.nx≤o.2.nx:=by
 obtain ⟨e,st⟩:=o1
 cases e with
 | normal=>cases h;exact Nat.le_refl _
 | exit i=>
  have h4:(cond (Nat.beq i id) (stay .normal) (stay (.exit i))) st=some o:=h
  cases hb:Nat.beq i id<;>(rw [hb] at h4;cases h4;exact Nat.le_refl _)
 | ret=>cases h;exact Nat.le_refl _
 | panic c=>cases h;exact Nat.le_refl _
theorem Ay {o1 o:Ex×St} (h:s4 o1=some o):o1=o∧o.1=.normal:=by
 obtain ⟨e,st⟩:=o1
 cases e<;>cases h
 exact ⟨rfl,rfl⟩
theorem pj (hu:gh rn):∀c:a8,Up (bU c A rn):=by
 intro c
 induction c with
 | skip=>intro T D H nx o h;cases h;exact Nat.le_refl _
 | aa dr ops=>
  cases dr with
  | false=>intro T D H nx o h;exact wM hu ops T [] D H nx o h
  | true=>
   intro T D H nx o h
   obtain ⟨o1,h1,h2⟩:=aL (show bd (bt A rn ops T [] D H nx) s4=some o from h)
   obtain ⟨rfl,_⟩:=Ay h2
   exact wM hu ops T [] D H nx _ h1
 | seq a b o8 HG=>
  intro T D H nx o h
  obtain ⟨o1,h1,h2⟩:=aL (show bd (bU a A rn T D H nx) (ma (bU b A rn))=some o from h)
  exact Nat.le_trans (o8 _ _ _ _ _ h1) (Eu HG h2)
 | cond c a b o8 HG=>
  intro T D H nx o h
  have h':aS T [] c (fun v=>fx v (bU a A rn T D H nx) (bU b A rn T D H nx))=some o:=h
  rw [b6] at h'
  obtain ⟨v,hv,h1⟩:=aL h'
  rcases mf h1 with ⟨_,h2⟩|⟨_,h2⟩
  ·exact o8 _ _ _ _ _ h2
  ·exact HG _ _ _ _ _ h2
 | block id a o8=>
  intro T D H nx o h
  obtain ⟨o1,h1,h2⟩:=aL (show bd (bU a A rn T D H nx) (nO id)=some o from h)
  exact Nat.le_trans (o8 _ _ _ _ _ h1) (F5 h2)
 | loop a o8=>
  intro T D H nx o h
  obtain ⟨o1,h1,h2⟩:=aL (show bd (bU a A rn T D H nx) (ma (rn.code (.loop a)))=some o from h)
  exact Nat.le_trans (o8 _ _ _ _ _ h1) (Eu (hu.code _) h2)
 | exit id=>intro T D H nx o h;cases h;exact Nat.le_refl _
 | ret=>intro T D H nx o h;cases h;exact Nat.le_refl _
def n3:List Value→Nat→Tr Value→Tr Value
 | [],_,T=>T
 | v::l,i,T=>n3 l (i + 1) (bD (at_ i) T (some v))
theorem dm (l:List Value) (T:Tr Value) (k:Tr Value→R0):kP l T k=k (n3 l 0 T):=by
 have:∀(l:List Value) (i:Nat) (T:Tr Value) (k:Tr Value→R0),(List.rec (motive:=fun _=>Nat→Tr Value→(Tr Value→R0)→R0) (fun _ T k=>k T) (fun v _ ih i T k=>cQ (at_ i) T (some v) fun T=>ih (Nat.succ i) T k) l:Nat→Tr Value→(Tr Value→R0)→R0) i T k=k (n3 l i T):=by
  intro l
  induction l with
  | nil=>intro i T k;rfl
  | cons v l ih=>
   intro i T k
   show cQ (at_ i) T (some v) (fun T=>(List.rec (motive:=fun _=>Nat→Tr Value→(Tr Value→R0)→R0) (fun _ T k=>k T) (fun v _ ih i T k=>cQ (at_ i) T (some v) fun T=>ih (Nat.succ i) T k) l:Nat→Tr Value→(Tr Value→R0)→R0) (Nat.succ i) T k)=_
   rw [bN,ih]
   rfl
 exact this l 0 T k
theorem Ev {o:Ex×St} {u:FrameMode} {y:FrameMode×Heap×Nat} (h:Fs o u=some y):y.2.2=o.2.nx:=by
 unfold Fs at h
 split at h<;>cases h<;>rfl
theorem ye (hu:gh rn) {f:Value} {args:List Value} {u:FrameMode} {y:FrameMode×Heap×Nat} (h:ga A rn f args u H nx=some y):nx≤y.2.2:=by
 unfold ga at h
 split at h
 ·split at h
  ·split at h
   ·obtain ⟨o,h1,h2⟩:=aL h
    rw [dm,bN] at h1
    rw [Ev h2]
    exact pj hu _ _ _ _ _ _ h1
   ·obtain ⟨o,h1,h2⟩:=aL h
    rw [dm] at h1
    rw [Ev h2]
    exact pj hu _ _ _ _ _ _ h1
  ·cases h
 ·cases h
theorem CF (hu:gh rn):∀(D:List eQ) (u:FrameMode) (H:Heap) (nx:Nat) (y:FrameMode×Heap×Nat),fi A rn D u H nx=some y→nx≤y.2.2:=by
 intro D
 induction D with
 | nil=>intro u H nx y h;cases h;exact Nat.le_refl _
 | cons d D ih=>
  obtain ⟨f,args⟩:=d
  intro u H nx y h
  unfold fi at h
  split at h
  ·rename_i u1 H1 aT h1
   exact Nat.le_trans (ye hu h1) (ih _ _ _ _ h)
  ·cases h
theorem Az {l:List (Od×Option (Option Nat))} {k:List Value→Option cV} {c:cV} (h:fJ T H l k=some c):∃vs,k vs=some c:=by
 induction l generalizing k with
 | nil=>exact ⟨[],h⟩
 | cons x l ih=>
  have h':Fq T H x (fun v=>fJ T H l fun vs=>k (v::vs))=some c:=h
  have hk:∀v,fJ T H l (fun vs=>k (v::vs))=some c→∃vs,k vs=some c:=by
   intro v hv
   obtain ⟨vs,g⟩:=ih hv
   exact ⟨v::vs,g⟩
  unfold Fq at h'
  split at h'
  ·obtain ⟨v,_,g⟩:=aL h';exact hk v g
  ·split at h'
   ·split at h'
    ·obtain ⟨v,_,g⟩:=aL h';exact hk v g
    ·cases h'
   ·cases h'
  ·cases h'
theorem qF (hu:gh rn) {af:ao} {u:FrameMode} {st:St} {c:cV} (h:mb A rn af u st=some c):st.nx≤c.count:=by
 obtain ⟨T,D,H,nx⟩:=st
 obtain ⟨y,h1,h2⟩:=aL (show bd (fi A rn D u H nx) (kQ af T)=some c from h)
 have h3:=CF hu _ _ _ _ _ h1
 refine Nat.le_trans h3 ?_
 obtain ⟨m,H',nx'⟩:=y
 unfold kQ at h2
 split at h2
 ·rename_i hx
  cases hx
  obtain ⟨vs,g⟩:=Az h2
  cases g
  exact Nat.le_refl _
 ·rename_i hx
  cases hx
  cases h2
  exact Nat.le_refl _
 ·cases h2
theorem PQ (hk:∀g vs H nx c,A.aF g vs H nx=some c→nx≤c.count) (n:Nat):gh (run A n):=by
 induction n with
 | zero=>exact ⟨(fun c T D H nx o h=>by cases h),(fun g vs H nx c h=>by cases h)⟩
 | succ n ih=>
  refine ⟨fun c=>pj ih c,fun g vs H nx c h=>?_⟩
  have h':(Option.rec (bd (A.funcs g) (jl A (run A n) vs H nx)) some (A.aF g vs H nx):Option cV)=some c:=h
  cases hh:A.aF g vs H nx with
  | some c'=>
   rw [hh] at h'
   cases h'
   exact hk _ _ _ _ _ hh
  | none=>
  rw [hh] at h'
  obtain ⟨af,h1,h2⟩:=aL (show bd (A.funcs g) (jl A (run A n) vs H nx)=some c from h')
  obtain ⟨o,h3,h4⟩:=aL (show bd (kP vs .e fun T=>bU af.body A (run A n) T [] H nx) (vz A (run A n) af)=some c from h2)
  rw [dm] at h3
  have h5:=pj ih _ _ _ _ _ _ h3
  refine Nat.le_trans h5 ?_
  obtain ⟨e,st⟩:=o
  cases e with
  | normal=>exact qF ih h4
  | exit i=>cases h4
  | ret=>exact qF ih h4
  | panic ch=>exact qF ih h4
end Go.Eng

namespace Go.Eng
variable {P:Program} {ins:List Nat}
theorem AA {fs:List Field}:∀{l:List (Nat×Operand)} {r:List (Nat×Nat×Operand)},iM P fs l=some r→∀x∈r,x.2.2∈l.map (·.2):=by
 intro l
 induction l with
 | nil=>intro r h x hx;cases h;simp at hx
 | cons y l ih=>
  obtain ⟨i,y⟩:=y
  intro r h x hx
  unfold iM at h
  split at h
  ·rename_i f rs _ Uw
   split at h
   ·cases h
    rcases List.mem_cons.1 hx with rfl|hx
    ·simp
    ·exact List.mem_cons_of_mem _ (ih Uw x hx)
   ·cases h
  ·cases h
theorem rz {z:Nat}:∀{l:List (Nat×Operand)},∀x∈eB z l,x.2.2∈l.map (·.2):=by
 intro l
 induction l with
 | nil=>intro x hx;simp [eB] at hx
 | cons y l ih=>
  obtain ⟨i,y⟩:=y
  intro x hx
  rcases List.mem_cons.1 hx with rfl|hx
  ·simp
  ·exact List.mem_cons_of_mem _ (ih x hx)
theorem j9 {o:Oper} {a:bE Operand} (h:aj P ins o=some a):a.all fun x=>x∈o.op.operands.toList:=by
 cases ho:o.op with
 | build t parts=>
  simp only [aj,ho] at h
  split at h
  ·obtain ⟨ps,qi,rfl⟩:=Option.map_eq_some_iff.1 (dv h)
   intro x hx
   simpa [Op.operands] using AA qi x hx
  ·split at h
   ·cases h
    intro x hx
    simpa [Op.operands] using rz x hx
   ·cases h
  ·cases h
 | buildSlice t len parts=>
  simp only [aj,ho] at h
  split at h
  ·split at h
   ·replace h:=dv h
    cases h
    intro x hx
    simpa [Op.operands] using rz x hx
   ·cases h
  ·cases h
 | binOp op t x y b=>
  simp only [aj,ho] at h
  unfold gS at h
  repeat' split at h
  all_goals first
   | (replace h:=dv h;cases h;simp [bE.all,Op.operands])
   | (cases h;done)
   | (cases h;simp [bE.all,Op.operands])
 | call d=>
  simp only [aj,ho] at h
  cases hd:d.callee with
  | builtin b=>
   rw [hd] at h
   simp only at h
   have bQ:∀x∈d.args.toList,x∈(Op.call d).operands.toList:=by
    intro x hx
    simp only [Op.operands,Call.operands,hd]
    simpa using hx
   unfold cA at h
   generalize d.args.toList=as at h bQ
   generalize d.argTypes.toList=ts at h
   repeat' split at h
   all_goals first
    | (cases h;done)
    | (replace h:=dv h;cases h;simp only [bE.all];refine ⟨bQ _ ?_,bQ _ ?_⟩<;>simp)
    | (cases h;simp only [bE.all];refine ⟨bQ _ ?_,bQ _ ?_⟩<;>simp)
    | (cases h;simp only [bE.all];exact bQ _ (by simp))
    | (cases h;exact bQ)
    | (cases h;simp [bE.all])
  | value f=>
   rw [hd] at h
   have hf:f∈(Op.call d).operands.toList:=by simp [Op.operands,Call.operands,hd]
   have bQ:∀x∈d.args.toList,x∈(Op.call d).operands.toList:=by
    intro x hx
    simp only [Op.operands,Call.operands,hd]
    simp [Array.mem_def.2 hx]
   cases f with
   | func g=>
    simp only at h
    cases hg:dt ins g with
    | true=>
     rw [hg] at h
     simp only [cond_true] at h
     split at h
     ·rename_i s i v t ts PR _
      rw [PR] at bQ
      split at h
      ·split at h
       ·cases h
        exact ⟨bQ _ (by simp),bQ _ (by simp),bQ _ (by simp)⟩
       ·cases h
      ·cases h
     ·cases h
    | false=>rw [hg] at h;cases h;exact ⟨hf,bQ⟩
   | _=>simp only at h;cases h;exact ⟨hf,bQ⟩
  | invoke x name=>
   rw [hd] at h
   simp only at h
   cases h
   have hf:x∈(Op.call d).operands.toList:=by simp [Op.operands,Call.operands,hd]
   refine ⟨hf,fun y hy=>?_⟩
   simp only [Op.operands,Call.operands,hd]
   simp [Array.mem_def.2 hy]
 | defer d=>
  simp only [aj,ho] at h
  split at h
  ·rename_i f hd
   cases h
   refine ⟨by simp [Op.operands,Call.operands,hd],fun y hy=>?_⟩
   simp only [Op.operands,Call.operands,hd]
   simp [Array.mem_def.2 hy]
  ·cases h
 | makeFunc f a b=>
  cases f with
  | func f=>
   simp only [aj,ho,Option.some.injEq] at h
   subst h
   refine ⟨fun x hx=>?_,fun x hx=>?_⟩<;>simp [Op.operands,Array.mem_def.2 hx]
  | _=>simp only [aj,ho] at h;cases h
 | slice t x lo hi mx=>
  have key:∀y,(y=x∨y∈lo∨y∈hi∨y∈mx)→y∈(Op.slice t x lo hi mx).operands.toList:=by
   intro y
   cases lo<;>cases hi<;>cases mx<;>simp [Op.operands]<;>grind
  simp only [aj,ho] at h
  split at h
  ·replace h:=dv h
   obtain ⟨z,_,rfl⟩:=Option.map_eq_some_iff.1 h
   exact ⟨key _ (.inl rfl),fun y hy=>key _ (.inr (.inl hy)),fun y hy=>key _ (.inr (.inr (.inl hy))),fun y hy=>key _ (.inr (.inr (.inr hy)))⟩
  ·split at h
   ·cases h
    exact ⟨key _ (.inl rfl),fun y hy=>key _ (.inr (.inl hy)),fun y hy=>key _ (.inr (.inr (.inl hy)))⟩
   ·cases h
  ·cases h
 | makeMap t r=>
  simp only [aj,ho] at h
  split at h
  ·cases h
   intro x hx
   simp [Op.operands]
   exact hx
  ·cases h
 | next x q=>
  cases q with
  | false=>simp only [aj,ho] at h;cases h;simp [bE.all,Op.operands]
  | true=>simp only [aj,ho] at h;cases h
 | _=>
  simp only [aj,ho] at h
  repeat' split at h
  all_goals first
   | (cases h;done)
   | (replace h:=dv h;cases h;simp [bE.all,Op.operands];done)
   | (obtain ⟨z,_,rfl⟩:=Option.map_eq_some_iff.1 h;simp [bE.all,Op.operands];done)
   | (cases h;simp [bE.all,Op.operands];done)
end Go.Eng

namespace Go.Eng
variable {P:Program} {ρ ρ':bB} {n m:Nat}
def bB.upto (ρ:bB) (n:Nat):bB:=fun b=>if b < n then ρ b else none
def Below (ρ:bB) (n:Nat):Prop:=∀b,n≤b→ρ b=none
theorem bB.mV {b:Nat} (h:b < n):ρ.upto n b=ρ b:=if_pos h
theorem bB.Ew {b:Nat} (h:n≤b):ρ.upto n b=none:=if_neg (Nat.not_lt.2 h)
theorem jx:Below (ρ.upto n) n:=fun _ h=>bB.Ew h
theorem mq:Ext (ρ.upto n) ρ:=by
 intro b r h
 unfold bB.upto at h
 split at h
 ·exact h
 ·cases h
theorem qG {b:Nat} {r r':Ref} (h:ρ b=some r) (h':ρ' b=some r') (hb:Below ρ' n):ρ.upto n b=some r:=by
 have:b < n:=by
  rcases Nat.lt_or_ge b n with h1|h1
  ·exact h1
  ·rw [hb b h1] at h';cases h'
 rw [bB.mV this];exact h
mutual
theorem VR.upto (hb:Below ρ' n):∀{v u u':Value},VR ρ v u→VR ρ' v u'→VR (ρ.upto n) v u
 | _,_,_,.sc h,_=>.sc h
 | _,_,_,.rP,_=>.rP
 | _,_,_,.zG,_=>.zG
 | _,_,_,.ptr h,h'=>by
  cases h' with
  | sc h=>simp [scalar] at h
  | ptr h'=>exact .ptr (qG h h' hb)
 | _,_,_,.jL,_=>.jL
 | _,_,_,.sl h hl hs he hp,h'=>by
  cases h' with
  | sc h=>simp [scalar] at h
  | sl h' _ _ _ _=>exact .sl (qG h h' hb) hl hs he hp
 | _,_,_,.Ef,_=>.Ef
 | _,_,_,.rQ,_=>.rQ
 | _,_,_,.map h,h'=>by
  cases h' with
  | sc h=>simp [scalar] at h
  | map h'=>exact .map (qG h h' hb)
 | _,_,_,.func h1 h2,h'=>by
  cases h' with
  | sc h=>simp [scalar] at h
  | func h3 h4=>exact .func (cL.upto hb h1 h3) (cL.upto hb h2 h4)
 | _,_,_,.iface h,h'=>by
  cases h' with
  | sc h=>simp [scalar] at h
  | iface h'=>exact .iface (VR.upto hb h h')
 | _,_,_,.agg h,h'=>by
  cases h' with
  | sc h=>simp [scalar] at h
  | agg h'=>exact .agg (cL.upto hb h h')
 | _,_,_,.tuple h,h'=>by
  cases h' with
  | sc h=>simp [scalar] at h
  | tuple h'=>exact .tuple (cL.upto hb h h')
 | _,_,_,.any h,_=>.any h
 | _,_,_,.wj h,_=>.wj h
theorem cL.upto (hb:Below ρ' n):∀{v u u':List Value},cL ρ v u→cL ρ' v u'→cL (ρ.upto n) v u
 | _,_,_,.nil,_=>.nil
 | _,_,_,.cons h hs,h'=>by
  cases h' with
  | cons h1 h2=>exact .cons (VR.upto hb h h1) (cL.upto hb hs h2)
end
theorem kM.upto (hb:Below ρ' n) {v u u':List MapEntry} (h:kM ρ v u) (h':kM ρ' v u'):kM (ρ.upto n) v u:=by
 induction h generalizing u' with
 | nil=>exact .nil
 | cons hk hv nG _ ih=>
  cases h' with
  | cons iE lF _ h'=>exact .cons (hk.upto hb iE) (hv.upto hb lF) nG (ih h')
theorem BR.upto (hb:Below ρ' n) {hp kk:Array Obj} {r r':Ref} {k:gK} (h:BR ρ hp r k) (h':BR ρ' kk r' k):BR (ρ.upto n) hp r k:=by
 cases k with
 | cells cs=>
  obtain ⟨a,e,h1,h2,h3⟩:=h
  obtain ⟨a',e',_,_,HH⟩:=h'
  refine ⟨a,e,h1,h2,fun i v hv=>?_⟩
  obtain ⟨u,g1,g2⟩:=h3 i v hv
  obtain ⟨u',_,SD⟩:=HH i v hv
  exact ⟨u,g1,g2.upto hb SD⟩
 | map es c=>
  obtain ⟨tq,h1,h2⟩:=h
  obtain ⟨abu,_,zk⟩:=h'
  exact ⟨tq,h1,h2.upto hb zk⟩
 | ro cs=>
  obtain ⟨a,e,f,h1,h2,h3⟩:=h
  obtain ⟨a',e',f',_,_,HH⟩:=h'
  refine ⟨a,e,f,h1,h2,fun i v hv=>?_⟩
  obtain ⟨u,g1,g2⟩:=h3 i v hv
  obtain ⟨u',_,SD⟩:=HH i v hv
  exact ⟨u,g1,g2.upto hb SD⟩
 | iter m a s c=>
  obtain ⟨h0,m1,h1,h2⟩:=h
  obtain ⟨_,m1',_,zk⟩:=h'
  exact ⟨h0,m1,h1,h2.upto hb zk⟩
theorem Mr.upto (hb:Below ρ' n) {x:eQ} {d d':Deferred} (h:Mr ρ x d) (h':Mr ρ' x d'):Mr (ρ.upto n) x d:=by
 obtain ⟨f,a,a',c,c',vs,h1,h2,h3,h4,h5⟩:=h
 obtain ⟨f',a2,a2',c2,I5,NZ,nH,zk,HH,h4',h5'⟩:=h'
 rw [h1] at nH
 simp only [Value.func.injEq,Fn.func.injEq,Array.mk.injEq] at nH
 obtain ⟨rfl,rfl,rfl⟩:=nH
 exact ⟨f,a,a',c,c',vs,h1,h2,h3.upto hb HH,h4.upto hb h4',h5.upto hb h5'⟩
theorem gv.upto (hb:Below ρ' n) {l:List eQ} {d d':List Deferred} (h:gv ρ l d) (h':gv ρ' l d'):gv (ρ.upto n) l d:=by
 induction h generalizing d' with
 | nil=>exact .nil
 | cons hx _ ih=>
  cases h' with
  | cons oT h'=>exact .cons (hx.upto hb oT) (ih h')
def iS (n:Nat) (v:Value):Prop:=∃ρ u,VR ρ v u∧Below ρ n
def nr (n b:Nat) (k:gK):Prop:=∃ρ hp r,ρ b=some r∧BR ρ hp r k∧Below ρ n
def vQ (n:Nat) (D:List eQ):Prop:=∃ρ l,gv ρ D l∧Below ρ n
theorem Below.mono (h:Below ρ n) (hn:n≤m):Below ρ m:=fun b hb=>h b (Nat.le_trans hn hb)
theorem iS.mono {v:Value} (h:iS n v) (hn:n≤m):iS m v:=let ⟨ρ,u,h1,h2⟩:=h;⟨ρ,u,h1,h2.mono hn⟩
theorem nr.mono {b:Nat} {k:gK} (h:nr n b k) (hn:n≤m):nr m b k:=let ⟨ρ,hp,r,h1,h2,h3⟩:=h;⟨ρ,hp,r,h1,h2,h3.mono hn⟩
theorem vQ.mono {D:List eQ} (h:vQ n D) (hn:n≤m):vQ m D:=let ⟨ρ,u,h1,h2⟩:=h;⟨ρ,u,h1,h2.mono hn⟩
theorem iS.cut {v u:Value} (h:iS n v) (hv:VR ρ v u):VR (ρ.upto n) v u:=let ⟨_,_,h1,h2⟩:=h;hv.upto h2 h1
theorem nr.cut {b:Nat} {k:gK} {hp:Array Obj} {r:Ref} (h:nr n b k) (hv:BR ρ hp r k):BR (ρ.upto n) hp r k:=let ⟨_,_,_,_,h1,h2⟩:=h;hv.upto h2 h1
theorem nr.lt {b:Nat} {k:gK} (h:nr n b k):b < n:=by
 obtain ⟨ρ,hp,r,h1,_,h2⟩:=h
 rcases Nat.lt_or_ge b n with h3|h3
 ·exact h3
 ·rw [h2 b h3] at h1;cases h1
theorem vQ.cut {D:List eQ} {l:List Deferred} (h:vQ n D) (hv:gv ρ D l):gv (ρ.upto n) D l:=let ⟨_,_,h1,h2⟩:=h;hv.upto h2 h1
theorem VR.low {v u:Value} (h:VR ρ v u) (hb:Below ρ n):iS n v:=⟨ρ,u,h,hb⟩
theorem HR.PT {H:Heap} {nx:Nat} {hp:Array Obj} (h:HR ρ H nx hp) {b:Nat} {k:gK} (hb:ak H (at_ b)=some k):nr nx b k:=let ⟨r,h1,h2⟩:=h.blk b k hb;⟨ρ,hp,r,h1,h2,h.new⟩
theorem iS.none:iS n Go.undef:=⟨fun _=>Option.none,Go.undef,VR.undef,fun _ _=>rfl⟩
end Go.Eng

namespace Go.Eng
variable {P:Program} {T:Tr Value} {L:List Value} {H:Heap} {nx:Nat}
def MD:KA:=fun v H nx=>some (.normal,⟨.n .e (some v) .e,[],H,nx⟩)
theorem pk {v v':Value} {H H':Heap} {nx nx':Nat} (h:MD v H nx=MD v' H' nx'):v=v'∧H=H'∧nx=nx':=by
 unfold MD at h
 simp only [Option.some.injEq,Prod.mk.injEq,St.mk.injEq,Tr.n.injEq,true_and,and_true] at h
 exact h
theorem AB {a:bE Od} {v:Value} {H':Heap} {nx':Nat} (hk:bR a=.pure) (h:∀k,b7 a P T L H nx k=k v H' nx'):H'=H∧nx'=nx∧∀H2 nx2 k,b7 a P T L H2 nx2 k=k v H2 nx2:=by
 have key:∀H2 nx2 k,b7 a P T L H2 nx2 k=dp a P T L .e fun v=>k v H2 nx2:=by
  cases a<;>first|(cases hk;done)|(intro _ _ _;rfl)
 have h1:=h MD
 rw [key] at h1
 obtain ⟨x,g1,g2⟩:=aX (P:=P) (T:=T) (L:=L) (H:=.e) a _ _ (h1.trans rfl)
 obtain ⟨rfl,rfl,rfl⟩:=pk (g1.trans rfl)
 exact ⟨rfl,rfl,fun H2 nx2 k=>(key H2 nx2 k).trans (g2 _)⟩
theorem AD {a:bE Od} {v:Value} {H':Heap} {nx':Nat} (hk:bR a=.load) (h:∀k,b7 a P T L H nx k=k v H' nx'):H'=H∧nx'=nx∧(∀k,dp a P T L H k=k v)∧∀H2 nx2 k,b7 a P T L H2 nx2 k=dp a P T L H2 fun v=>k v H2 nx2:=by
 have key:∀H2 nx2 k,b7 a P T L H2 nx2 k=dp a P T L H2 fun v=>k v H2 nx2:=by
  cases a<;>first|(cases hk;done)|(intro _ _ _;rfl)
 have h1:=h MD
 rw [key] at h1
 obtain ⟨x,g1,g2⟩:=aX (P:=P) (T:=T) (L:=L) (H:=H) a _ _ (h1.trans rfl)
 obtain ⟨rfl,rfl,rfl⟩:=pk (g1.trans rfl)
 exact ⟨rfl,rfl,g2,key⟩
theorem CG {a:bE Od} (hk:bR a=.make):∃F:(Value→gK→R0)→R0,bH (fun _=>True) (fun k:Value×gK→R0=>F fun v b=>k (v,b))∧∀H k,b7 a P T L H nx k=F fun v b=>k v (bD (at_ nx) H (some b)) (nx + 1):=by
 cases a with
 | box x=>
  exact ⟨fun k=>aS T L x fun v=>k (ptrTo nx) (.cells (cellsOf v)),.ev fun _=>.ret _ trivial,fun H k=>by
   show aS T L x (fun v=>cQ _ _ _ _)=_
   simp only [bN]⟩
 | ef zero=>exact ⟨fun k=>k (ptrTo nx) (.cells zero),.ret _ trivial,fun H k=>bN _ _ _ _⟩
 | iF z bytes zero l c=>
  refine ⟨fun k=>aS T L l fun l=>cx l fun l=>aS T L c fun c=>cx c fun c=>cond (and (Nat.ble l c) (and (Nat.ble (Nat.mul c bytes) small) (and (Nat.ble c small) (Nat.blt 0 z)))) (k (rO nx z l (Nat.succ (Nat.mul 2 c))) (.cells (aU zero c))) none,
   .ev fun _=>.nat fun _=>.ev fun _=>.nat fun _=>.cond (.ret _ trivial) .no,fun H k=>?_⟩
  show aS T L l (fun l=>cx l fun l=>aS T L c fun c=>cx c fun c=>cond _ (cQ _ _ _ _) none)=_
  simp only [bN]
 | fu z len zero parts=>
  refine ⟨fun k=>cW T L parts fun ps=>bd (ew (aU zero len) ps) fun cs=>cond (Nat.blt 0 z) (k (rO nx z len (Nat.succ (Nat.mul 2 len))) (.cells cs)) none,
   .parts fun _=>.bd fun _=>.cond (.ret _ trivial) .no,fun H k=>?_⟩
  show cW T L parts (fun ps=>bd _ fun cs=>cond _ (cQ _ _ _ _) none)=_
  simp only [bN]
 | zz r=>
  refine ⟨fun k=>fI T L r 0 fun _=>k (.map (some nx)) (.map [] 0),.opt (d:=0) (F:=fun _ k=>k (Value.map (some nx),gK.map [] 0)) fun _=>.ret _ trivial,fun H k=>?_⟩
  show fI T L r 0 (fun _=>cQ _ _ _ _)=_
  simp only [bN]
 | _=>cases hk
theorem tJ {a:bE Od} {v:Value} {H':Heap} {nx':Nat} (hk:bR a=.make) (h:∀k,b7 a P T L H nx k=k v H' nx') :
  ∃blk,H'=bD (at_ nx) H (some blk)∧nx'=nx + 1∧∀H2 k,b7 a P T L H2 nx k=k v (bD (at_ nx) H2 (some blk)) (nx + 1):=by
 obtain ⟨F,hF,key⟩:=CG (P:=P) (T:=T) (L:=L) (nx:=nx) hk
 have h1:=h MD
 rw [key] at h1
 obtain ⟨x,g1,g2⟩:=hF.Sy (fun x=>MD x.1 (bD (at_ nx) H (some x.2)) (nx + 1)) _ (h1.trans rfl)
 obtain ⟨e1,e2,e3⟩:=pk (g1.trans rfl)
 refine ⟨x.2,e2.symm,e3.symm,fun H2 k=>?_⟩
 rw [key]
 exact (g2 fun x=>k x.1 (bD (at_ nx) H2 (some x.2)) (nx + 1)).trans (by rw [e1])
def mr:Value→Option Nat
 | .pointer (some a)=>some a.block
 | .map (some r)=>some r
 | _=>none
def jZ {α:Type}:bE α→Option α
 | .ah x _=>some x
 | .zg x=>some x
 | .lN x _ _ _ _=>some x
 | _=>none
theorem wN {a:bE Operand} {f:Operand→Value} {H2:Heap} (hk:bR a=.load) (hs:∀x b,jZ a=some x→mr (f x)=some b→ak H2 (at_ b)=ak H (at_ b)) (k:KV) :
  dp (a.map (Av f)) P T L H2 k=dp (a.map (Av f)) P T L H k:=by
 cases a with
 | ah x agg=>
  have:=hs x
  show dd (f x) (fun b o=>cr H2 b _)=dd (f x) (fun b o=>cr H b _)
  unfold dd
  split
  ·rename_i b o e
   have:=hs x b rfl (by rw [e];rfl)
   show onRead (ak H2 (at_ b)) _=onRead (ak H (at_ b)) _
   rw [this]
  ·rfl
 | zg x=>
  show xI H2 (f x) k=xI H (f x) k
  unfold xI
  split
  ·rfl
  ·rename_i r e
   rw [hs x r rfl (by rw [e];rfl)]
  ·rfl
 | lN x key kt zero ok=>
  show vt P kt zero ok H2 (f key) k (f x)=vt P kt zero ok H (f key) k (f x)
  unfold vt
  split
  ·rfl
  ·rename_i r e
   rw [hs x r rfl (by rw [e];rfl)]
  ·rfl
 | _=>cases hk
theorem I6 {a:bE Operand} {f:Operand→Value} {v:Value} {p:Operand→Prop} (hk:bR a=.load) (h:∀k,dp (a.map (Av f)) P T L H k=k v) (hx:∀x,jZ a=some x→p x) (hf:∀x,flat (f x)=true→p x):a.all p:=by
 cases a with
 | ah x agg=>exact hx x rfl
 | zg x=>exact hx x rfl
 | lN x key kt zero ok=>
  refine ⟨hx x rfl,hf key ?_⟩
  have h1:vt P kt zero ok H (f key) pY (f x)=pY v:=h pY
  unfold vt at h1
  split at h1
  ·cases hb:flat (f key) with
   | true=>rfl
   | false=>rw [hb] at h1;cases h1
  ·unfold eZ at h1
   rename_i r e
   cases hg:ak H (at_ r) with
   | none=>rw [hg] at h1;cases h1
   | some b=>
    rw [hg] at h1
    cases b with
    | cells cs=>cases h1
    | ro cs=>cases h1
    | iter _ _ _ _=>cases h1
    | map es c=>
     have h2:bd (findAt P es.isEmpty kt (f key) es) (TH es zero ok pY)=pY v:=h1
     obtain ⟨i,hi,_⟩:=aL (h2.trans rfl)
     unfold findAt at hi
     have:=(dW hi).1
     simp only [Bool.and_eq_true] at this
     exact this.1
  ·cases h1
 | _=>cases hk
theorem n4 {u v:Value} (h:ey u v=true):u=v:=by
 unfold ey at h
 split at h
 ·rename_i a b;cases a<;>cases b<;>first|rfl|cases h
 ·simp at h;rw [h.1,h.2]
 ·rfl
 ·simp at h;rw [h]
 ·simp at h;rw [h.1,h.2]
 ·simp at h;obtain ⟨⟨h1,h2⟩,h3⟩:=h;rw [h1,h2,h3]
 ·rfl
 ·rw [Nat.eq_of_beq_eq_true h]
 ·cases h
theorem CH:∀{u v:List Value},L7 u v=true→u=v:=by
 intro u
 induction u with
 | nil=>intro v h;cases v<;>first|rfl|cases h
 | cons a u ih=>
  intro v h
  cases v with
  | nil=>cases h
  | cons b v=>
   have h':(ey a b&&L7 u v)=true:=h
   rw [Bool.and_eq_true] at h'
   rw [n4 h'.1,ih h'.2]
theorem F6 {u v:Value} (h:jK u v=true):u=v:=by
 unfold jK at h
 split at h
 ·have:=CH h
  rename_i a b
  cases a;cases b
  simp at this
  rw [this]
 ·exact n4 h
end Go.Eng
