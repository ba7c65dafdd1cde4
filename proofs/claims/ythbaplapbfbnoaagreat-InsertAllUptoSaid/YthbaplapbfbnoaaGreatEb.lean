import Derived.Test.YthbaplapbfbnoaaGreatEa
import Derived.Laws.CopyRow
import Derived.Laws.AppendOwn
import Derived.LoopN
import Derived.Orders
/- An interpreter of the model's code that follows one order and is proved right for all: part 2. -/

set_option maxRecDepth 100000
namespace Go.Eng
section
variable {P:Program}{w:World}{ρ:bY}{H:Heap}{nx:Nat}{r:Ex×St}{T:Tr Value}{L:List Value}{ρa ρc:Operand->Value}{o:Oper}{k:KA}{ins:List Nat}
theorem VR.one{v u:Value}(h:VR ρ v u)(h1:ux v=true):u.oneCell'=true:=by
 cases h with
 | sc h=>cases v<;>first|rfl|(simp[ux]at h1)
 | agg h=>simp[ux]at h1
 | tuple h=>simp[ux]at h1
 | any h=>cases u<;>first|rfl|(simp[xL]at h)
 | _=>rfl
theorem dJ.one{a a':List Value}(h:dJ ρ a a'):cq a=true->∀u∈a',u.oneCell'=true:=by
 induction a generalizing a' with
 | nil=>cases h;intro _ u hu;simp at hu
 | cons v a ih=>
  cases h with
  | cons h hr=>
   intro h1 u hu;have h2:cond (ux v) (cq a) false=true:=h1;cases hv:ux v with
   | false=>rw[hv]at h2;cases h2
   | true=>
    rw[hv]at h2;rcases dT.1 hu with rfl|hu
    ·exact h.one hv
    ·exact ih hr h2 u hu
theorem qn{b:Nat}{v:Value}{cs:List Value}:oR H nx b v k cs=k v (cA (at_ b) H (some (.cells cs))) nx:=by
 unfold oR;rw[cL]
theorem Ew{K:List Value->R0}:∀(old:List Value) (o:Nat) (c:Value) (K:List Value->R0),xD old o c K=some r->∃l,jc old o [c]=some l/\K l=some r:=by
 intro old
 induction old with
 | nil=>intro o c K h;cases h
 | cons x old ih=>
  intro o c K h;cases o with
  | zero=>
   refine⟨c::old,?_,h⟩;show fi (x::old) [c]=some (c::old);simp[fi]
  | succ o=>
   obtain⟨l,h1,h2⟩:=ih o c (λl=>K (x::l)) h;refine⟨x::l,?_,h2⟩;show (Option.rec none (λr=>some (x::r)) (jc old o [c]):Option (List Value))=some (x::l);rw[h1]
theorem mw{b off:Nat}{s:Ref}{old new yc l:List Value}(hH:HR ρ H nx w.heap)(hb:ah H (at_ b)=some (.cells old))(hs:ρ b=some s)(zU:jc old off new=some l)(hn:dJ ρ new yc)(h1:cq new=true) :
  ∃w',(storeCells ⟨s.blk,s.sh+off,none⟩ yc).run P w=.ok () w'/\HR ρ (cA (at_ b) H (some (.cells l))) nx w'.heap/\Hm ρ H w ρ (cA (at_ b) H (some (.cells l))) w':=by
 obtain⟨s',fD,a,e,ha,m7,bH⟩:=hH.blk b _ hb;rw[hs]at fD;cases fD
 obtain⟨g1,g2,g3⟩:=xS off old new l zU;have gg:=hn.length;have mT:∀j,mf ρ (cA (at_ b) H (some (.cells l))) j->mf ρ H j:=λj hj=>mf.pw hb hj
 by_cases h0:new=[]
 ·subst h0;cases hn;have vF:l=old:=by
   apply mb;intro i;rw[g3 i,aw (by simp)]
  subst vF;refine⟨w,rfl,?_,.refl ρ,λj hj=>.inl (mT j hj),.put _ _ _,λ_ _ _=>rfl,au _,rfl,rfl,rfl⟩;exact hH.write hb hs (λ_ _=>rfl) ⟨a,e,ha,m7,bH⟩
 ·have iu:0<new.length:=List.length_pos_iff.2 h0;have Ov:s.sh+off+yc.length<=a.size:=by
   have:off+new.length-1<old.length:=V;obtain⟨y,hy,_⟩:=bH (off+new.length-1) old[off+new.length-1] (by simp[this]);have:=(Array.getElem?_eq_some_iff.1 hy).1;omega
  have bO:=run_storeCells_at P s.blk (s.sh+off) e yc 0 a w ha (by simpa using Ov) (hn.one h1);refine⟨_,bO,?_,.refl ρ,λj hj=>.inl (mT j hj),.put _ _ _,λj hj gu=>?_,by simp,rfl,rfl,rfl⟩
  ·refine hH.write hb hs (λj hj=>setRow_other w s.blk j _ hj) ⟨_,e,setRow_heap w s.blk a _ e _ ha,?_,λi v hv=>?_⟩
   ·simp;omega
   ·rw[g3 i]at hv;simp only[Hf,List.getElem?_toArray];by_cases c1:off<=i/\i<off+new.length
    ·rw[aJ c1]at hv;obtain⟨y,hy,oT⟩:=hn.get hv;refine⟨y,?_,oT⟩;rw[eC (by simp;omega),aiQ (by simp;omega)];simp only[iZ,Array.length_toList];rw[<-hy];congr 1;omega
    ·rw[aw c1]at hv;obtain⟨y,hy,oT⟩:=bH i v hv;refine⟨y,?_,oT⟩;have cg:=(Array.getElem?_eq_some_iff.1 hy).1;by_cases c2:i<off
     ·rw[eC (by simp;omega),eC (by simp;omega),wA,aJ V]
      simpa using hy
     ·rw[aiQ (by simp;omega)];simp only[cm,iZ,Array.length_toList,List.getElem?_drop];rw[<-hy,Array.getElem?_toList];congr 1;omega
  ·refine setRow_other w s.blk j _ λhe=>gu ⟨b,_,s,hb,rfl,hs,he.symm⟩
theorem Cr{b off:Nat}{s:Ref}{old new yc:List Value}(hH:HR ρ H nx w.heap)(hb:ah H (at_ b)=some (.cells old))(hs:ρ b=some s)(kT:off=old.length)(gX:s.sh+off+new.length<=s.size)(hn:dJ ρ new yc)(h1:cq new=true) :
  ∃w',(storeCells ⟨s.blk,s.sh+off,none⟩ yc).run P w=.ok () w'/\HR ρ (cA (at_ b) H (some (.cells (old++new)))) nx w'.heap/\Hm ρ H w ρ (cA (at_ b) H (some (.cells (old++new)))) w':=by
 obtain⟨s',fD,a,e,ha,m7,bH⟩:=hH.blk b _ hb;rw[hs]at fD;cases fD
 have gg:=hn.length;have mT:∀j,mf ρ (cA (at_ b) H (some (.cells (old++new)))) j->mf ρ H j:=λj hj=>mf.pw hb hj
 have bO:=run_storeCells_at P s.blk (s.sh+off) e yc 0 a w ha (by simp;omega) (hn.one h1);refine⟨_,bO,?_,.refl ρ,λj hj=>.inl (mT j hj),.put _ _ _,λj hj gu=>?_,by simp,rfl,rfl,rfl⟩
 ·refine hH.write hb hs (λj hj=>setRow_other w s.blk j _ hj) ⟨_,e,setRow_heap w s.blk a _ e _ ha,?_,λi v hv=>?_⟩
  ·simp;omega
  ·simp only[Hf,List.getElem?_toArray];by_cases c1:i<old.length
   ·rw[eC c1]at hv;obtain⟨y,hy,oT⟩:=bH i v hv;refine⟨y,?_,oT⟩;have cg:=(Array.getElem?_eq_some_iff.1 hy).1;rw[eC (by simp;omega),eC (by simp;omega),wA,aJ V]
    simpa using hy
   ·rw[aiQ V]at hv;obtain⟨y,hy,oT⟩:=hn.get hv;have cg:=(cS.1 hy).1;refine⟨y,?_,oT⟩;rw[eC (by simp;omega),aiQ (by simp;omega)];simp only[iZ,Array.length_toList];rw[<-hy];congr 1;omega
 ·refine setRow_other w s.blk j _ λhe=>gu ⟨b,_,s,hb,rfl,hs,he.symm⟩
theorem Aq{t:TypeId}{x v:Operand}{a:cr Operand}(ho:o.op=.store t x v)(hc:ar P ins o=some a)(ha:a.all λx=>VR ρ (ρa x) (ρc x))(hH:HR ρ H nx w.heap)(h:cY (a.map (Av ρa)) P T L H nx k=some r):Good P w ρ H nx r k (execOp ρc o):=by
 have he:execOp ρc o=(do Instr.storeAt t (ρc x) (ρc v);pure .skip):=by simp only[execOp,ho]
 simp only[ar,ho,Option.map_eq_some_iff]at hc;obtain⟨n,hn,rfl⟩:=hc;obtain⟨hx,hv⟩:=ha;have h':dU (ρa x) (Lb H nx n (cellsOf (ρa v)) k)=some r:=h;obtain⟨b,off,e1,h1⟩:=lF h';obtain⟨zS,h2⟩:=ct h1;simp only[gd]at zS;have hlen:=dB zS.1;obtain⟨old,hb,h3⟩:=fG h2;rw[e1]at hx;obtain⟨s,hs,e2⟩:=hx.sT;have Ow:=hv.cells;have hk:∃l,jc old off (cellsOf (ρa v))=some l/\k undef (cA (at_ b) H (some (.cells l))) nx=some r:=by
  revert h3
  generalize cellsOf (ρa v)=cs;intro h3
  match cs,h3 with
  | [],h3=>cases h3
  | [c],h3=>
   obtain⟨l,g1,g2⟩:=Ew (K:=oR H nx b undef k) old off c (oR H nx b undef k) h3;rw[qn]at g2;exact⟨l,g1,g2⟩
  | c::c'::cs,h3=>
   have h4:bd (jc old off (c::c'::cs)) (oR H nx b undef k)=some r:=h3;obtain⟨l,g1,g2⟩:=bn h4;rw[qn]at g2;exact⟨l,g1,g2⟩
 obtain⟨l,zU,hk⟩:=hk;obtain⟨w',g1,g2,g3⟩:=mw (P:=P) hH hb hs zU Ow zS.2;have m7:(ρc v).cells.size=n:=by rw[<-hlen,<-Ow.length];simp
 rw[he];refine⟨undef,_,nx,undef,w',ρ,hk,.inr ⟨?_,rfl⟩,.tuple .nil,g2,g3,au _,λ_ _=>rfl⟩;simp only[Instr.storeAt,e2,Instr.sureAddr,storeVar,Sem.run_bind,Sem.run_pure,Result.andThen_ok,eU hn];rw[aw (by rw[m7];exact λh=>h rfl)];simp only[Sem.run_bind,Sem.run_pure,Result.andThen_ok,g1]
theorem Be{z m:Nat}{w':World}{b p len c:Nat}{l:List Value}(hl:l.length=m*z)(h:∀i v,l[i]?=some v->w'.cell? ⟨b,p+i,none⟩=some v) :
  (Builtin.firstCells z m (.slice (some ⟨b,p,none⟩) len c)).run P w'=.ok ⟨l⟩ w':=by
 unfold Builtin.firstCells;exact run_loadCells hl h
theorem uK{z:Nat}{x u:Value}{K:Nat->List Value->R0}(hH:HR ρ H nx w.heap)(hv:VR ρ x u)(h:kO H z K x=some r) :
  ∃n cs,K n cs=some r/\cs.length=n*z/\(∃base len c,u=.slice base len c/\len=n)/\∀m,m<=n->∃cs',dJ ρ (cs.take (m*z)) cs'/\∀w':World,w'.heap=w.heap->(Builtin.firstCells z m u).run P w'=.ok ⟨cs'⟩ w':=by
 unfold kO at h;split at h
 ·cases hv with
  | sc h=>simp[scalar]at h
  | mP=>
   refine⟨0,[],h,by simp,⟨_,_,_,rfl,rfl⟩,λm hm=>⟨[],by simp;exact .nil,λw' _=>?_⟩⟩;simp[Builtin.firstCells,Sem.run_pure]
 ·cases hv with
  | sc h=>simp[scalar]at h
  | Jz=>
   refine⟨0,[],h,by simp,⟨_,_,_,rfl,rfl⟩,λm hm=>⟨[],by simp;exact .nil,λw' _=>?_⟩⟩;have:m=0:=V;subst this;simp[Builtin.firstCells,Sem.run_pure,loadCells,loadCellsFrom]
 ·rename_i b off z' n c;obtain⟨hz,h1⟩:=ct h;have Ll:=dB hz;subst Ll;clear h;cases hv with
  | sc h=>simp[scalar]at h
  | @sl _ _ _ _ _ p c' s hs hl qj he hp=>
   cases hn:Nat.beq n 0 with
   | true=>
    rw[hn]at h1;have GW:=dB hn;subst GW;refine⟨0,[],h1,by simp,⟨_,_,_,rfl,rfl⟩,λm hm=>⟨[],by simp;exact .nil,λw' _=>Be ?_ ?_⟩⟩
    ·have:m=0:=V;simp[this]
    ·intro i v hi;simp at hi
   | false=>
    rw[hn]at h1;have GW:=Ab hn;obtain⟨cs0,xb,hb,SA,h2⟩:=pz h1;obtain⟨cs,ht,h3⟩:=bn h2;obtain⟨t1,t2⟩:=take?_get ht;have t1:cs.length=n*z:=t1;have t2:∀i,i<n*z->cs[i]?=(fq cs0 off)[i]?:=t2;obtain⟨s',fD,zO⟩:=hH.blk _ _ hb;obtain⟨a,e,fz,ha,m7,bH⟩:=SA _ _ _ zO;rw[hs]at fD;cases fD
    have m6:p=s.sh+off:=by rcases hp with h0|h0<;>omega
    refine⟨n,cs,h3,t1,⟨_,_,_,rfl,rfl⟩,λm hm=>?_⟩;have key:∀q,q<=n*z->∃cs':List Value,cs'.length=q/\∀i,i<q->∃x y,cs[i]?=some x/\cs'[i]?=some y/\a[s.sh+off+i]?=some y/\VR ρ x y:=by
     intro q
     induction q with
     | zero=>intro _;exact⟨[],rfl,λi hi=>by omega⟩
     | succ q ih=>
      intro hq;obtain⟨l',mR,hg⟩:=ih V;have hx:cs[q]?=some cs[q]:=aM (by rw[t1];exact hq);have sV:=t2 q hq;rw[hx,fw,List.getElem?_drop]at sV;obtain⟨y,hy,oT⟩:=bH (off+q) _ sV.symm;refine⟨l'++[y],by simp[mR],λi hi=>?_⟩;by_cases e:i=q
      ·subst e;exact⟨_,y,hx,by simp[mR],by rw[<-hy];congr 1;omega,oT⟩
      ·obtain⟨x,z,q1,q2,q3,q4⟩:=hg i V;exact⟨x,z,q1,by rw[eC V];exact q2,q3,q4⟩
    have hmz:m*z<=n*z:=SN _ hm;obtain⟨cs',mR,hg⟩:=key (m*z) hmz;refine⟨cs',.xM (by simp;omega) λi x hx=>?_,λw' LD=>?_⟩
    ·have cg:i<m*z:=by
      have:=(cS.1 hx).1;simp at this;omega
     rw[wA,aJ cg]at hx;obtain⟨x',y,q1,q2,q3,q4⟩:=hg i cg;rw[hx]at q1;cases q1
     exact⟨y,q2,q4⟩
    ·refine Be mR λi v hi=>?_
     have cg:i<m*z:=by rw[<-mR];exact(cS.1 hi).1
     obtain⟨x',y,q1,q2,q3,q4⟩:=hg i cg;rw[hi]at q2;cases q2
     subst m6;exact cell_of w' LD ha q3
 ·cases h
theorem HB{t ts:TypeId}{ty:TypeId}{e:TypeId}{z:Nat}{ats:Array TypeId}{x y u v:Value}(zV:ats[0]?=some t)(hu:P.underlying t=some (.slice e))(hz:cQ P e=some z)(hH:HR ρ H nx w.heap)(hx:VR ρ x u)(hy:VR ρ y v)(h:kO H z (S0 z H nx k x) y=some r):Good P w ρ H nx r k (do pure (.value (<-Builtin.copy_ ats ty #[u,v]))):=by
 obtain⟨n,cs,h1,hl,⟨base,len,c,rfl,hlen⟩,Cs⟩:=uK (P:=P) hH hy h;subst hlen;have zero:∀(b:Option Addr) (dl dc:Nat),Nat.min len dl=0->u=.slice b dl dc->k (.int .i64 (.ofNat 0)) H nx=some r->Good P w ρ H nx r k (do pure (.value (<-Builtin.copy_ ats ty #[u,.slice base len c]))):=by
  intro b dl dc hm hu' hk;obtain⟨cs',hr,fT⟩:=Cs 0 (bS _);have:cs'=[]:=by
   have:=hr.length;simp at this;exact this
  subst this;refine .same hH (.sc rfl) hk ?_;have Ck:Nat.min len dl=0:=hm;subst hu';simp only[Builtin.copy_,zV,List.getElem?_toArray,WI,DV,Sem.run_bind,run_underlying hu,Result.andThen_ok,Builtin.lenOf,Sem.run_pure,eU hz,Ck,fT w rfl];cases b with
  | none=>rfl
  | some a=>rfl
 unfold S0 at h1;split at h1
 ·cases hx with
  | sc h=>simp[scalar]at h
  | mP=>exact zero _ _ _ (Nat.min_zero _) rfl h1
 ·obtain⟨b,off,z',dl,dc,rfl,h2⟩:=nq h1;obtain⟨WW,h3⟩:=ct h2;have Ll:=dB WW;subst Ll;cases hx with
  | sc h=>simp[scalar]at h
  | @sl _ _ _ _ _ p c' s hs mR qj he hp=>
   cases hm:Nat.beq (Nat.min len dl) 0 with
   | true=>
    rw[hm]at h3;exact zero _ _ _ (dB hm) rfl h3
   | false=>
    rw[hm]at h3;have Ck:=Ab hm;obtain⟨JH,ht,h4⟩:=bn h3;obtain⟨Vz,h5⟩:=ct h4;obtain⟨old,hb,h6⟩:=fG h5;obtain⟨l,zU,h7⟩:=bn h6;rw[qn]at h7;obtain⟨t1,t2⟩:=take?_eq _ _ _ ht;obtain⟨cs',hr,fT⟩:=Cs (Nat.min len dl) (Nat.min_le_left _ _);have t1':JH=cs.take (Nat.min len dl*z):=t1;rw[<-t1']at hr;have hdl:dl≠0:=by
     intro h0;subst h0
     exact Ck (Nat.min_zero _)
    have m6:p=s.sh+off:=by rcases hp with h0|h0<;>omega
    subst m6;obtain⟨w',g1,g2,g3⟩:=mw (P:=P) hH hb hs zU hr Vz;refine⟨_,_,nx,.int .i64 (.ofNat (Nat.min len dl)),w',ρ,h7,.inl ?_,.sc rfl,g2,g3,au _,λ_ _=>rfl⟩;simp only[Builtin.copy_,zV,List.getElem?_toArray,WI,DV,Sem.run_bind,run_underlying hu,Result.andThen_ok,Builtin.lenOf,Sem.run_pure,eU hz,fT w rfl,g1];rfl
end
section
variable {P:Program}{w:World}{ρ:bY}{H:Heap}{nx:Nat}{r:Ex×St}{T:Tr Value}{L:List Value}{ρa ρc:Operand->Value}{o:Oper}{k:KA}{ins:List Nat}
theorem uL{v:Value}{K:Nat->List MapEntry->Nat->R0}(h:Ag H v K=some r):∃b es c,v=.map (some b)/\ah H (at_ b)=some (.map es c)/\K b es c=some r:=by
 unfold Ag at h;split at h
 ·obtain⟨es,c,h1,h2⟩:=iP h;exact⟨_,es,c,rfl,h1,h2⟩
 ·cases h
theorem oS.append{a a' b b':List MapEntry}(h:oS ρ a a')(h':oS ρ b b'):oS ρ (a++b) (a'++b'):=by
 induction h with
 | nil=>exact h'
 | cons hk hv hb _ ih=>exact .cons hk hv hb ih
theorem oS.set{f:MapEntry->MapEntry}{v u:Value}(hv:VR ρ v u):∀{es es':List MapEntry},oS ρ es es'->∀i:Nat,(∀e',es'[i]?=some e'->(f e').key=e'.key/\(f e').val=u/\(f e').born=e'.born)->oS ρ (ph es i v) (es'.modify i f):=by
 intro es es' h
 induction h with
 | nil=>intro i _;cases i<;>exact .nil
 | @cons e e' es es' hk lY hb hr ih=>
  intro i hf;cases i with
  | zero=>
   obtain⟨f1,f2,f3⟩:=hf e' rfl;show oS ρ ({ e with val:=v }::es) (f e'::es');exact .cons (by rw[f1];exact hk) (by rw[f2];exact hv) (by rw[f3];exact hb) hr
  | succ i=>
   show oS ρ (e::ph es i v) (e'::es'.modify i f);exact .cons hk lY hb (ih i λe'' he=>hf e'' (by simpa using he))
theorem lH{b:Nat}{es:Array MapEntry}{c:Nat}(ob:Obj)(h:w.heap[b]?=some (.map es c)):(setObj b ob).run P w=.ok () { w with heap:=w.heap.setIfInBounds b ob }:=by
 simp[setObj,Sem.run,h]
theorem Good.mapped{s:Sem Next}{b:Nat}{rf:Ref}{es sW:List MapEntry}{c c2:Nat}{xT es':Array MapEntry}{v u:Value}(hH:HR ρ H nx w.heap)(hb:ah H (at_ b)=some (.map es c))(hs:ρ b=some rf)(he:w.heap[rf.blk]?=some (.map xT c))(hr:oS ρ sW es'.toList)(hv:VR ρ v u)(hk:k v (cA (at_ b) H (some (.map sW c2))) nx=some r)(fT:s.run P w=.ok (.value u) { w with heap:=w.heap.setIfInBounds rf.blk (.map es' c2) }\/(s.run P w=.ok .skip { w with heap:=w.heap.setIfInBounds rf.blk (.map es' c2) }/\u=undef)):Good P w ρ H nx r k s:=by
 have cg:=(Array.getElem?_eq_some_iff.1 he).1;refine⟨v,_,nx,u,_,ρ,hk,fT,hv,?_,⟨.refl ρ,λj hj=>.inl (mf.pw hb hj),.put _ _ _,λj hj hn=>?_,by simp,rfl,rfl,rfl⟩,au _,λ_ _=>rfl⟩
 ·refine hH.write hb hs (λi hi=>?_) ⟨es',?_,hr⟩
  ·simp only;rw[Array.getElem?_setIfInBounds,aw (λe=>hi e.symm)]
  ·simp only;rw[Array.getElem?_setIfInBounds,aJ rfl,aJ cg]
 ·have:rf.blk≠j:=λe=>hn ⟨b,_,rf,hb,rfl,hs,e⟩
  simp only;rw[Array.getElem?_setIfInBounds,aw this]
theorem Bg{a b:Value}(h:Instr.sameBits 10000 a b=true):(Instr.keyThatStays a b).run P w=.ok b w:=by
 simp only[Instr.keyThatStays,h,if_true,Sem.run_pure]
theorem oH{t:TypeId}{m q x:Operand}{a:cr Operand}(ho:o.op=.mapUpdate t m q x\/o.op=.insert t m q x)(hc:ar P ins o=some a)(ha:a.all λx=>VR ρ (ρa x) (ρc x))(hH:HR ρ H nx w.heap)(h:cY (a.map (Av ρa)) P T L H nx k=some r):Good P w ρ H nx r k (execOp ρc o):=by
 have he:execOp ρc o=(do Instr.mapUpdate t (ρc m) (ρc q) (ρc x);pure .skip):=by rcases ho with ho|ho<;>simp only[execOp,ho]
 have hc':∃kt e,P.underlying t=some (.map kt e)/\a=.N1 m q x kt:=by
  rcases ho with ho|ho
  all_goals
   simp only[ar,ho]at hc;split at hc
   ·rename_i kt e hu;cases hc;exact⟨kt,e,hu,rfl⟩
   ·cases hc
 obtain⟨kt,e,hu,rfl⟩:=hc';obtain⟨hm,hq,hx⟩:=ha;have h':Ag H (ρa m) (λb es c=>bd (findAt P false kt (ρa q) es) λi=>Option.rec (eQ (at_ b) H (some (ni es c (ρa q) (ρa x))) λH=>k undef H nx) (λi=>eQ (at_ b) H (some (.map (ph es i (ρa x)) c)) λH=>k undef H nx) i)=some r:=h;obtain⟨b,es,c,e1,hb,h1⟩:=uL h';obtain⟨i,hi,h2⟩:=bn h1;rw[e1]at hm;generalize WX:ρc m=mu at hm;cases hm with
 | sc h=>simp[scalar]at h
 | @map _ s hs=>
  obtain⟨s',fD,es',dx,hr⟩:=hH.blk _ _ hb;rw[hs]at fD;cases fD
  obtain⟨hf,JE,sY⟩:=nX (w:=w) hi hr;have iE:=hq.jo hf;rw[he];rcases sY with⟨rfl,Hv⟩|⟨j,e1,e2,rfl,g1,g2,g3,g4,g5,g6,g7,Hv⟩
  ·have h3:eQ (at_ b) H (some (ni es c (ρa q) (ρa x))) (λH=>k undef H nx)=some r:=h2;rw[cL]at h3;refine .mapped (es':=es'.push { key:=ρa q,val:=ρc x,born:=c }) (c2:=c+1) hH hb hs dx ?_ (.tuple .nil) h3 (.inr ⟨?_,rfl⟩)
   ·rw[Array.toList_push];exact hr.append (.cons (by rw[<-iE]at hq ⊢;rw[iE];exact .of_flat hf) hx rfl .nil)
   ·simp only[Instr.mapUpdate,Sem.run_bind,run_underlying hu,Result.andThen_ok,WX,dP w rfl dx,iE,JE,Hv,lH _ dx,Sem.run_pure]
  ·have h3:eQ (at_ b) H (some (.map (ph es j (ρa x)) c)) (λH=>k undef H nx)=some r:=h2;rw[cL]at h3;have rL:es'[j]?=some e2:=by rw[<-Array.getElem?_toList];exact g2
   refine .mapped (es':=es'.modify j λe=>{ e with key:=ρa q,val:=ρc x }) (c2:=c) hH hb hs dx ?_ (.tuple .nil) h3 (.inr ⟨?_,rfl⟩)
   ·rw[Array.toList_modify];refine hr.set hx j λe' zP=>⟨?_,rfl,rfl⟩
    rw[g2]at zP;cases zP
    exact g5.symm
   ·simp only[Instr.mapUpdate,Sem.run_bind,run_underlying hu,Result.andThen_ok,WX,dP w rfl dx,iE,JE,Hv,rL,Option.map_some,wB,Bg g7,lH _ dx,Sem.run_pure]
theorem yd{t:TypeId}{m q:Operand}{a:cr Operand}(ho:o.op=.mapEntry t m q)(hc:ar P ins o=some a)(ha:a.all λx=>VR ρ (ρa x) (ρc x))(hH:HR ρ H nx w.heap)(h:cY (a.map (Av ρa)) P T L H nx k=some r):Good P w ρ H nx r k (execOp ρc o):=by
 have he:execOp ρc o=(do pure (.value (<-Instr.mapEntry t (ρc m) (ρc q)))):=by simp only[execOp,ho]
 simp only[ar,ho]at hc;split at hc
 ·rename_i kt e hu;simp only[Option.map_eq_some_iff]at hc;obtain⟨z,hz,rfl⟩:=hc;obtain⟨sU,uE⟩:=jq (w:=w) hz;obtain⟨hm,hq⟩:=ha;have h':Ag H (ρa m) (λb es c=>bd (findAt P false kt (ρa q) es) λi=>Option.rec (eQ (at_ b) H (some (ni es c (ρa q) z)) λH=>k (.tuple #[z,.int .i64 (.ofNat c)]) H nx)
   (λi=>bd (mj es i) λe=>k (.tuple #[e.val,.int .i64 (.ofNat e.born)]) H nx) i)=some r:=h
  obtain⟨b,es,c,e1,hb,h1⟩:=uL h';obtain⟨i,hi,h2⟩:=bn h1;rw[e1]at hm;generalize WX:ρc m=mu at hm;cases hm with
  | sc h=>simp[scalar]at h
  | @map _ s hs=>
   obtain⟨s',fD,es',dx,hr⟩:=hH.blk _ _ hb;rw[hs]at fD;cases fD
   obtain⟨hf,JE,sY⟩:=nX (w:=w) hi hr;have iE:=hq.jo hf;rw[he];rcases sY with⟨rfl,Hv⟩|⟨j,e1,e2,rfl,g1,g2,g3,g4,g5,g6,g7,Hv⟩
   ·have h3:eQ (at_ b) H (some (ni es c (ρa q) z)) (λH=>k (.tuple #[z,.int .i64 (.ofNat c)]) H nx)=some r:=h2;rw[cL]at h3;refine .mapped (es':=es'.push { key:=ρa q,val:=z,born:=c }) (c2:=c+1) hH hb hs dx ?_ (.tuple (.cons (.jt uE) (.cons (.sc rfl) .nil))) h3 (.inl ?_)
    ·rw[Array.toList_push];exact hr.append (.cons (.of_flat hf) (.jt uE) rfl .nil)
    ·simp only[Instr.mapEntry,Sem.run_bind,run_underlying hu,Result.andThen_ok,WX,dP w rfl dx,iE,JE,Hv,sU,lH _ dx,Sem.run_pure];rfl
   ·have h3:bd (mj es j) (λe=>k (.tuple #[e.val,.int .i64 (.ofNat e.born)]) H nx)=some r:=h2;rw[xU,g1]at h3;have rL:es'[j]?=some e2:=by rw[<-Array.getElem?_toList];exact g2
    have cg:=(Array.getElem?_eq_some_iff.1 dx).1;have cM:es'.modify j (λe=>{ e with key:=ρa q })=es':=by
     apply Array.ext';rw[Array.toList_modify];apply mb;intro i;rw[List.getElem?_modify];by_cases Bh:j=i
     ·subst Bh;rw[g2];simp[<-g5]
     ·simp[Bh]
    have hw : { w with heap:=w.heap.setIfInBounds s.blk (.map es' c) } = w:=by
     have:w.heap.setIfInBounds s.blk (.map es' c)=w.heap:=by
      apply Array.ext_getElem?;intro i;rw[Array.getElem?_setIfInBounds];by_cases Bh:s.blk=i
      ·subst Bh;rw[aJ rfl,aJ cg,dx]
      ·rw[aw Bh]
     rw[this]
    refine .same hH (.tuple (.cons g3 (.cons (.sc rfl) .nil))) h3 ?_;simp only[Instr.mapEntry,Sem.run_bind,run_underlying hu,Result.andThen_ok,WX,dP w rfl dx,iE,JE,Hv,rL,Option.map_some,wB,Bg g7,lH _ dx,Sem.run_pure,cM,hw,g4];rfl
 ·cases hc
theorem Ey:∀{es:List MapEntry} {b j i:Nat},xA es b j=some i->∃q,i=j+q/\q<es.length/\(∀e,es[q]?=some e->e.born=b)/\∀p,p<q->∀e,es[p]?=some e->e.born≠b:=by
 intro es
 induction es with
 | nil=>intro b j i h;cases h
 | cons e es ih=>
  intro b j i h;unfold xA at h;cases hb:Nat.beq e.born b with
  | true=>
   rw[hb]at h;cases h
   exact⟨0,rfl,by simp,λe' he=>by simp at he;subst he;exact dB hb,λp hp=>by omega⟩
  | false=>
   rw[hb]at h;obtain⟨q,h1,h2,h3,h4⟩:=ih h;refine⟨q+1,V,by simp;omega,λe' he=>h3 e' (by simpa using he),λp hp e' he=>?_⟩;cases p with
   | zero=>simp at he;subst he;exact Ab hb
   | succ p=>exact h4 p V e' (by simpa using he)
theorem Ct{es:Array MapEntry}{b q:Nat}(hq:q<es.size)(h1:∀e,es[q]?=some e->e.born=b)(h2:∀p,p<q->∀e,es[p]?=some e->e.born≠b) :
  es.findIdx? (λe=>(e.born:Int) == (b:Int))=some q:=by
 rw[Array.findIdx?_eq_some_iff_getElem];refine⟨hq,?_,λj hj=>?_⟩
 ·have:=h1 es[q] (by simp[hq]);simp[this]
 ·have:=h2 j hj es[j] (by simp)
  simpa using by omega
theorem uM{t:TypeId}{m q x:Operand}{a:cr Operand}(ho:o.op=.entryStore t m q x)(hc:ar P ins o=some a)(ha:a.all λx=>VR ρ (ρa x) (ρc x))(hH:HR ρ H nx w.heap)(h:cY (a.map (Av ρa)) P T L H nx k=some r):Good P w ρ H nx r k (execOp ρc o):=by
 have he:execOp ρc o=(do Instr.entryStore t (ρc m) (ρc q) (ρc x);pure .skip):=by simp only[execOp,ho]
 simp only[ar,ho]at hc;cases hc;obtain⟨hm,hq,hx⟩:=ha;have h':dp (ρa q) (λb=>Ag H (ρa m) λr es c=>bd (xA es b 0) λi=>eQ (at_ r) H (some (.map (ph es i (ρa x)) c)) λH=>k undef H nx)=some r:=h;obtain⟨kq,n,e0,h0⟩:=fL h';obtain⟨b,es,c,e1,hb,h1⟩:=uL h0;obtain⟨i,hi,h2⟩:=bn h1;rw[cL]at h2;rw[e1]at hm;rw[e0]at hq;have iE:=hq.jr;generalize WX:ρc m=mu at hm;cases hm with
 | sc h=>simp[scalar]at h
 | @map _ s hs=>
  obtain⟨s',fD,es',dx,hr⟩:=hH.blk _ _ hb;rw[hs]at fD;cases fD
  obtain⟨j,g1,g2,g3,g4⟩:=Ey hi;have Bh:i=j:=V;subst Bh;have hl:=hr.length;have Cp:es'.findIdx? (λe=>(e.born:Int) == (Int.ofNat n))=some i:=by
   refine Ct (by simp at hl;omega) (λe he=>?_) λp hp e he=>?_
   ·obtain⟨e0,WY,_,_,o9⟩:=hr.get (i:=i) (e':=e) (by rw[Array.getElem?_toList];exact he);rw[o9];exact g3 e0 WY
   ·obtain⟨e0,WY,_,_,o9⟩:=hr.get (i:=p) (e':=e) (by rw[Array.getElem?_toList];exact he);rw[o9];exact g4 p hp e0 WY
  rw[he];refine .mapped (es':=es'.modify i λe=>{ e with val:=ρc x }) (c2:=c) hH hb hs dx ?_ (.tuple .nil) h2 (.inr ⟨?_,rfl⟩)
  ·rw[Array.toList_modify];exact hr.set hx i λe' zP=>⟨rfl,rfl,rfl⟩
  ·simp only[Instr.entryStore,Sem.run_bind,Result.andThen_ok,WX,dP w rfl dx,iE,ld,Cp,lH _ dx,Sem.run_pure]
end
section
variable {P:Program}{w:World}{ρ:bY}{H:Heap}{nx:Nat}{r:Ex×St}{T:Tr Value}{L:List Value}{ρa ρc:Operand->Value}{o:Oper}{k:KA}{ins:List Nat}
inductive Src (P:Program) (w:World) (e:TypeId) (z:Nat) (t2:TypeId):Value->Nat->List Value->Prop where
 | cells {e2:TypeId} {b:Option Addr} {n c:Nat} {news:List Value} (ht:P.underlying t2=some (.slice e2)) (hf:∀w':World,w'.heap=w.heap->(Builtin.firstCells z n (.slice b n c)).run P w'=.ok ⟨news⟩ w'):Src P w e z t2 (.slice b n c) n news
 | fS {ki kq:IntKind} {n:Nat} {i:TypeInfo} {zv:Value} (ht:P.underlying t2=some (.int ki)) (hi:P.info? e=some i) (hz:i.zero=some zv) (hs:zv.cells.size=z) (h1:n<=small) (h2:n*i.bytes<=small) :
   Src P w e z t2 (.int kq (.ofNat n)) n (bj zv.cells.toList n)
theorem nZ(zv:Value)(n:Nat):Builtin.zeroCells zv.cells n=(bj zv.cells.toList n).toArray:=by
 apply Array.ext';have h:=Ou zv.cells.toList n;simp only[Builtin.zeroCells,Array.toList_map,Array.toList_range];rw[<-h];simp
variable {t t2 ty e:TypeId}{z:Nat}{i:TypeInfo}
theorem Ez{x:Value}{n:Nat}{news:List Value}{w':World}{g p lI km:Nat}(ht:P.underlying t=some (.slice e))(hi:P.info? e=some i)(hz:i.size=z)(hx:Src P w e z t2 x n news)(gX:lI+n<=km)(bO:(storeCells ⟨g,p+lI*z,none⟩ news).run P w=.ok () w') :
  (Builtin.append_ #[t,t2] ty #[.slice (some ⟨g,p,none⟩) lI km,x]).run P w=.ok (.slice (some ⟨g,p,none⟩) (lI+n) km) w':=by
 cases hx with
 | cells DO hf=>
  simp[Builtin.append_,run_underlying ht,run_underlying DO,sizeOf,typeInfo,hi,hz,Builtin.lenOf,gX,hf w rfl,Addr.add_lit,bO]
 | @fS ki kq _ i' zv DO zR Ll hs h1 h2=>
  rw[hi]at zR;cases zR
  have hw:IntKind.i64.wrap (n:Int)=(n:Int):=s4 h1;have pB:small=1099511627776:=rfl;have hb:¬((281474976710656:Int)<(n:Int)*(i.bytes:Int)):=by
   have:((n*i.bytes:Nat):Int)<=1099511627776:=by rw[pB]at h2;omega
   have h3:(n:Int)*(i.bytes:Int)<=1099511627776:=by simpa using this
   omega
  have Ox:¬((n:Int)<0):=V;by_cases h0:n*z=0
  ·have:bj zv.cells.toList n=[]:=by
    apply mM;rw[dE];simp[hs,h0]
   rw[this]at bO;simp[Builtin.append_,run_underlying ht,run_underlying DO,sizeOf,typeInfo,hi,hz,ld,hw,hb,Ox,gX,h0,Addr.add_lit,bO]
  ·simp[Builtin.append_,run_underlying ht,run_underlying DO,sizeOf,typeInfo,zeroValue,hi,hz,Ll,ld,hw,hb,Ox,gX,h0,Addr.add_lit,nZ,bO]
theorem Oy{x:Value}{news:List Value}{b:Option Addr}{lI km:Nat}(ht:P.underlying t=some (.slice e))(hi:P.info? e=some i)(hz:i.size=z)(hx:Src P w e z t2 x 0 news)(hn:news=[])(gX:lI<=km) :
  (Builtin.append_ #[t,t2] ty #[.slice b lI km,x]).run P w=.ok (.slice b lI km) w:=by
 subst hn;cases hx with
 | cells DO hf=>
  cases b<;>simp[Builtin.append_,run_underlying ht,run_underlying DO,sizeOf,typeInfo,hi,hz,Builtin.lenOf,gX,hf w rfl,storeCells,Sem.run_pure]
 | @fS ki kq _ i' zv DO zR Ll hs h1 h2=>
  have hw:IntKind.i64.wrap (0:Int)=(0:Int):=rfl;cases b<;>simp[Builtin.append_,run_underlying ht,run_underlying DO,sizeOf,typeInfo,hi,hz,ld,hw,gX,storeCells,Sem.run_pure]
theorem Oz{x:Value}{n:Nat}{news olds:List Value}{b:Option Addr}{lI km:Nat}{zv:Value}(ht:P.underlying t=some (.slice e))(hi:P.info? e=some i)(hz:i.size=z)(LF:i.zero=some zv)(hx:Src P w e z t2 x n news)(ho:∀w':World,w'.heap=w.heap->(Builtin.firstCells z lI (.slice b lI km)).run P w'=.ok ⟨olds⟩ w')(hg:km<lI+n)(h63:lI+n<=small)(WZ:(lI+n)*i.bytes<=small) :
  (Builtin.append_ #[t,t2] ty #[.slice b lI km,x]).run P w=.ok (.slice (some ⟨w.heap.size,0,none⟩) (lI+n) (grownCap w (lI+n) km e))
   (w.drew.alloc (.cells (olds.toArray++news.toArray++Builtin.zeroCells zv.cells (grownCap w (lI+n) km e-(lI+n))) e)):=by
 have pB:small=1099511627776:=rfl;rw[pB]at h63 WZ;have hn:¬(lI+n<=km):=V;have W1:¬(9223372036854775807<((lI:Int)+(n:Int))):=V;have Eh:=growslice_fits (old:=km) (need:=lI+n) (bytes:=i.bytes) hg V;have W5:¬(281474976710656<Builtin.nextslicecap (lI+n) km*i.bytes):=V;cases hx with
 | cells DO hf=>
  simp[Builtin.append_,run_underlying ht,run_underlying DO,sizeOf,typeInfo,zeroValue,hi,hz,LF,Builtin.lenOf,hn,W1,W5,Question.forced,hf w.drew rfl,ho w.drew rfl,newRow,grownCap]
  congr 2
  apply Array.ext';simp[jj]
 | @fS ki kq _ i' zv' DO zR Ll hs h1 h2=>
  rw[hi]at zR;cases zR
  rw[LF]at Ll;cases Ll
  have hw:IntKind.i64.wrap (n:Int)=(n:Int):=s4 h1;have hb:¬((281474976710656:Int)<(n:Int)*(i.bytes:Int)):=by
   have:((n*i.bytes:Nat):Int)<=1099511627776:=by rw[pB]at h2;omega
   have h3:(n:Int)*(i.bytes:Int)<=1099511627776:=by simpa using this
   omega
  have Ox:¬((n:Int)<0):=V;by_cases h0:n*z=0
  ·have:bj zv.cells.toList n=[]:=by
    apply mM;rw[dE];simp[hs,h0]
   rw[this];simp[Builtin.append_,run_underlying ht,run_underlying DO,sizeOf,typeInfo,zeroValue,hi,hz,LF,ld,hw,hb,Ox,hn,W1,W5,h0,Question.forced,ho w.drew rfl,newRow,grownCap]
  ·simp[Builtin.append_,run_underlying ht,run_underlying DO,sizeOf,typeInfo,zeroValue,hi,hz,LF,ld,hw,hb,Ox,hn,W1,W5,h0,Question.forced,ho w.drew rfl,nZ,newRow,grownCap]
theorem my{bytes:Nat}{len n:Nat}{old new:List Value}(h:eG z bytes H nx k len n old new=some r) :
  (len+n)*bytes<=small/\len+n<=small/\k (wE nx z (len+n) (2*(len+n))) (cA (at_ nx) H (some (.cells (old++new)))) (nx+1)=some r:=by
 unfold eG at h;obtain⟨hc,h1⟩:=ct h;simp only[gd]at hc;rw[pA]at h1;exact⟨lu hc.1,lu hc.2,h1⟩
theorem s5{rf:Ref}{z len p c':Nat}(h:len<=c'/\c'<=ft)(hp:p=rf.sh/\p+c'*z<=rf.size):VR (ρ.with nx rf) (wE nx z len (2*len)) (.slice (some ⟨rf.blk,p,none⟩) len c'):=by
 have h1:=h.1;refine .sl (bY.fu _ _ _) h ?_ (λhx=>?_) (.inr ⟨V,hp.2⟩)
 ·show 2*len / 2<=c';omega
 ·rw[uG]at hx;omega
theorem rM{bytes:Nat}{x:Value}{n len km:Nat}{b:Option Addr}{old new olds news:List Value}{zv:Value}(hH:HR ρ H nx w.heap)(ht:P.underlying t=some (.slice e))(hi:P.info? e=some i)(hz:i.size=z)(hb:i.bytes=bytes)(LF:i.zero=some zv)(hzs:zv.cells.size=z)(hx:Src P w e z t2 x n news)(ho:∀w':World,w'.heap=w.heap->(Builtin.firstCells z len (.slice b len km)).run P w'=.ok ⟨olds⟩ w')(o8:dJ ρ old olds)(vJ:dJ ρ new news)(qo:old.length=len*z)(gg:new.length=n*z)(hg:km<len+n)(h:eG z bytes H nx k len n old new=some r):Good P w ρ H nx r k (do pure (.value (<-Builtin.append_ #[t,t2] ty #[.slice b len km,x]))):=by
 obtain⟨h1,h2,hk⟩:=my h;have fT:=Oz (ty:=ty) ht hi hz LF hx ho hg h2 (by rw[hb];exact h1);have SB:=grownCap_ge w (len+n) km e;have Nt:grownCap w (len+n) km e<=ft:=grownCap_le_maxLen w (len+n) km e (by unfold maxLen;unfold small at h2;omega);have m7:(olds.toArray++news.toArray++Builtin.zeroCells zv.cells (grownCap w (len+n) km e-(len+n))).size=grownCap w (len+n) km e*z:=by
  simp only[Array.size_append,List.size_toArray,size_zeroCells,o8.length,vJ.length,qo,gg,hzs];rw[<-Nat.add_mul,<-Nat.add_mul]
  congr 1
  omega
 refine .made (e:=e) (w':=w.drew.alloc (.cells (olds.toArray++news.toArray++Builtin.zeroCells zv.cells (grownCap w (len+n) km e-(len+n))) e)) hH rfl rfl rfl rfl ?_ (s5 (rf:=⟨w.heap.size,0,_⟩) ⟨SB,Nt⟩ ⟨rfl,?_⟩) hk ?_
 ·intro j y hj;obtain⟨y',Nq,hv⟩:=(o8.append vJ).get hj;have cg:=(cS.1 Nq).1;refine⟨y',?_,hv⟩;rw[Array.getElem?_append_left (by simpa using cg)]
  simpa using Nq
 ·rw[m7];simp
 ·simp only[Sem.run_bind,fT,Result.andThen_ok,Sem.run_pure]
theorem Ar{x:Value}{n off len c' bl:Nat}{s:Ref}{cs old new news:List Value}(hH:HR ρ H nx w.heap)(ht:P.underlying t=some (.slice e))(hi:P.info? e=some i)(hz:i.size=z)(hb:ah H (at_ bl)=some (.cells cs))(hs:ρ bl=some s)(hold:take? (len*z) (fq cs off)=some old)(hx:Src P w e z t2 x n news)(vJ:dJ ρ new news)(gg:new.length=n*z)(h1:cq new=true)(gX:len+n<=c')(hcm:c'<=ft)(hp:s.sh+off+c'*z<=s.size)(hk:k (wE nx z (len+n) (2*(len+n))) (cA (at_ nx) (cA (at_ bl) H none) (some (.cells (old++new)))) (nx+1)=some r) :
  Good P w ρ H nx r k (do pure (.value (<-Builtin.append_ #[t,t2] ty #[.slice (some ⟨s.blk,s.sh+off,none⟩) len c',x]))):=by
 obtain⟨s',fD,a,et,ha,m7,bH⟩:=hH.blk bl _ hb;rw[hs]at fD;cases fD
 obtain⟨t1,t2'⟩:=take?_get hold;have oI:=vJ.length;have hmul:len*z+n*z<=c'*z:=by rw[<-Nat.add_mul];exact SN _ gX
 have bO:=run_storeCells_at P s.blk (s.sh+off+len*z) et news 0 a w ha (by simp;omega) (vJ.one h1);have fT:=Ez (ty:=ty) ht hi hz hx gX bO;have mT:mf ρ H s.blk:=⟨bl,_,s,hb,rfl,hs,rfl⟩;refine⟨_,_,nx+1,.slice (some ⟨s.blk,s.sh+off,none⟩) (len+n) c',w.setRow s.blk (a.toList.take (s.sh+off+len*z+0)++news++a.toList.drop (s.sh+off+len*z+0+news.length)).toArray,ρ.with nx ⟨s.blk,s.sh+off,s.size⟩,hk,.inl (by simp only[Sem.run_bind,fT,Result.andThen_ok,Sem.run_pure]),s5 ⟨gX,hcm⟩ ⟨rfl,hp⟩,?_,⟨hH.gz _,λj hj=>?_,(Hl.put _ _ _).trans (.forget _ _),λj hj hn=>?_,by simp,rfl,rfl,rfl⟩,cE _,λb hb=>bY.iD _ _ V⟩
 ·refine(hH.forget bl).make (r:=⟨s.blk,s.sh+off,s.size⟩) (λb1 y s1 dS bt=>?_) ⟨_,et,setRow_heap w s.blk a _ et _ ha,?_,λj y hj=>?_⟩
  ·have cG:b1≠bl:=by
    intro e';subst e'
    rw[cB]at dS;cases dS
   rw[bz _ _ _ _ (λe'=>cG (gy e'))]at dS;have As:s1.blk≠s.blk:=λe'=>cG (hH.inj bl b1 _ y s s1 hb dS rfl hs bt e'.symm).symm
   exact⟨setRow_other w s.blk s1.blk _ As,As⟩
  ·simp;omega
  ·have ext:=hH.gz ⟨s.blk,s.sh+off,s.size⟩;simp only[Hf,List.getElem?_toArray];by_cases c1:j<len*z
   ·rw[eC (by rw[t1];exact c1),t2' j c1,fw,List.getElem?_drop]at hj;obtain⟨y',Nq,hv⟩:=bH _ _ hj;refine⟨y',?_,hv.mono ext⟩;have cg:=(Array.getElem?_eq_some_iff.1 Nq).1;rw[eC (by simp;omega),eC (by simp;omega),wA,aJ V];rw[Array.getElem?_toList,<-Nq];congr 1;omega
   ·have t1':old.length=len*z:=t1;rw[aiQ V]at hj;obtain⟨y',Nq,hv⟩:=vJ.get hj;have cg:=(cS.1 Nq).1;refine⟨y',?_,hv.mono ext⟩;rw[eC (by simp;omega),aiQ (by simp;omega)];simp only[iZ,Array.length_toList];rw[<-Nq];congr 1;omega
 ·rcases mf.wY hj with h|h
  ·have h':j=s.blk:=h;subst h';exact .inl mT
  ·exact .inl (mf.qh h)
 ·exact setRow_other w s.blk j _ λe'=>hn (by rw[e'];exact mT)
end
section
variable {P:Program}{w:World}{ρ:bY}{H:Heap}{nx:Nat}{r:Ex×St}{T:Tr Value}{L:List Value}{ρa ρc:Operand->Value}{o:Oper}{k:KA}{ins:List Nat}
variable {t t2 ty e:TypeId}{z:Nat}{i:TypeInfo}
theorem Cu{bytes:Nat}{zero:List Value}{zv:Value}{fS:Bool}{x u:Value}{K:Nat->List Value->R0}(hi:P.info? e=some i)(hz:i.size=z)(hb:i.bytes=bytes)(LF:i.zero=some zv)(hzero:zero=zv.cells.toList)(SC:zero.length=z)(GV:dJ ρ zero zero)(hty:(fS=true/\∃ki,P.underlying t2=some (.int ki))\/(fS=false/\∃e2,P.underlying t2=some (.slice e2)))(hH:HR ρ H nx w.heap)(hv:VR ρ x u)(h:Cg z bytes zero fS H x K=some r) :
  ∃n new news,K n new=some r/\new.length=n*z/\dJ ρ new news/\Src P w e z t2 u n news:=by
 rcases hty with⟨rfl,ki,ht⟩|⟨rfl,e2,ht⟩
 ·have h':dp x (aaT bytes zero K)=some r:=h;obtain⟨kq,n,rfl,h1⟩:=fL h';obtain⟨hc,h2⟩:=ct h1;simp only[gd]at hc;rw[hv.jr];refine⟨n,bj zero n,bj zero n,h2,by rw[dE,SC],GV.rep n,?_⟩;rw[hzero];refine .fS ht hi LF ?_ (lu hc.1) (by rw[hb];exact lu hc.2);rw[<-SC,hzero];simp
 ·have h':kO H z K x=some r:=h;obtain⟨n,cs,h1,hl,⟨base,len,c,rfl,hlen⟩,Cs⟩:=uK (P:=P) hH hv h';subst hlen;obtain⟨cs',hr,fT⟩:=Cs len (au _);rw[NX V]at hr;exact⟨len,cs,cs',h1,hl,hr,.cells ht fT⟩
theorem Cv{bytes:Nat}{zero:List Value}{zv:Value}{fS:Bool}{s x u v:Value}(ht:P.underlying t=some (.slice e))(hi:P.info? e=some i)(hz:i.size=z)(hb:i.bytes=bytes)(LF:i.zero=some zv)(hzero:zero=zv.cells.toList)(SC:zero.length=z)(GV:dJ ρ zero zero)(hty:(fS=true/\∃ki,P.underlying t2=some (.int ki))\/(fS=false/\∃e2,P.underlying t2=some (.slice e2)))(hH:HR ρ H nx w.heap)(hs:VR ρ s u)(hx:VR ρ x v)(h:Cg z bytes zero fS H x (uy z bytes H nx k s)=some r):Good P w ρ H nx r k (do pure (.value (<-Builtin.append_ #[t,t2] ty #[u,v]))):=by
 obtain⟨n,new,news,h1,gg,vJ,eJ⟩:=Cu (w:=w) hi hz hb LF hzero SC GV hty hH hx h;have hzs:zv.cells.size=z:=by rw[<-SC,hzero];simp
 have same:∀{b:Option Addr} {len cap:Nat},n=0->u=.slice b len cap->len<=cap->k s H nx=some r->Good P w ρ H nx r k (do pure (.value (<-Builtin.append_ #[t,t2] ty #[u,v]))):=by
  intro b len cap hn hu hle hk;subst hn;subst hu
  have oI:news=[]:=by
   have:=vJ.length;apply mM;rw[this,gg];simp
  exact .same hH hs hk (by simp only[Sem.run_bind,Oy (ty:=ty) ht hi hz eJ oI hle,Result.andThen_ok,Sem.run_pure])
 unfold uy at h1;split at h1
 ·cases hs with
  | sc h=>simp[scalar]at h
  | mP=>
   cases hn:Nat.beq n 0 with
   | true=>
    rw[hn]at h1;exact same (dB hn) rfl (au _) h1
   | false=>
    rw[hn]at h1;obtain⟨_,h2⟩:=ct h1;have GW:=Ab hn;exact rM hH ht hi hz hb LF hzs eJ (olds:=[]) (old:=[]) (λw' _=>by simp[Builtin.firstCells,Sem.run_pure]) .nil vJ (by simp) gg V h2
 ·rename_i b off z' len c;obtain⟨hc,h2⟩:=ct h1;simp only[gd]at hc;have Ll:=dB hc.1;subst Ll;clear h1;have Vz:=hc.2.2;cases hs with
  | sc h=>simp[scalar]at h
  | @sl _ _ _ _ _ p c' rf hrf hl qj he hp=>
   have hs:VR ρ (.slice (some ⟨b,off,some z⟩) len c) (.slice (some ⟨rf.blk,p,none⟩) len c'):=.sl hrf hl qj he hp;cases hn:Nat.beq n 0 with
   | true=>
    rw[hn]at h2;exact same (dB hn) rfl hl.1 h2
   | false=>
    rw[hn]at h2;have GW:=Ab hn;cases gX:Nat.ble (Nat.add len n) (aF c)with
    | true=>
     rw[gX]at h2;have OA:len+n<=aF c:=lu gX;have m6:p=rf.sh+off/\p+c'*z<=rf.size:=by
      rcases hp with h0|h0
      ·omega
      ·exact h0
     have h3:pk z H nx k b off len c n new=some r:=h2;unfold pk at h3;obtain⟨cs,ia,h4⟩:=fG h3;obtain⟨l,zU,h5⟩:=bn h4;rw[qn]at h5;have EA:mm cs (off+len*z) new=some l:=zU;have hmul:len*z+n*z<=c'*z:=by rw[<-Nat.add_mul];exact SN _ (hX OA qj)
     have aa9:∃w',(storeCells ⟨rf.blk,rf.sh+(off+len*z),none⟩ news).run P w=.ok () w'/\HR ρ (cA (at_ b) H (some (.cells l))) nx w'.heap/\Hm ρ H w ρ (cA (at_ b) H (some (.cells l))) w':=by
      unfold mm at EA;cases hq:jc cs (off+len*z) new with
      | some l'=>
       rw[hq]at EA;cases EA;exact mw (P:=P) hH ia hrf hq vJ Vz
      | none=>
       rw[hq]at EA;have LG:cond (Nat.beq cs.length (off+len*z)) (some (cs++new)) none=some l:=EA;obtain⟨kI,h6⟩:Nat.beq cs.length (off+len*z)=true/\some (cs++new)=some l:=by
        cases hb9:Nat.beq cs.length (off+len*z)with
        | true=>rw[hb9]at LG;exact⟨rfl,LG⟩
        | false=>rw[hb9]at LG;cases LG
       cases h6;exact Cr (P:=P) hH ia hrf (dB kI).symm (by rw[gg];omega) vJ Vz
     obtain⟨w',g1,g2,g3⟩:=aa9;have g1':(storeCells ⟨rf.blk,p+len*z,none⟩ news).run P w=.ok () w':=by
      rw[m6.1,Nat.add_assoc];exact g1
     have fT:=Ez (ty:=ty) ht hi hz eJ (hX OA qj) g1';refine⟨_,_,nx,.slice (some ⟨rf.blk,p,none⟩) (len+n) c',w',ρ,h5,.inl (by simp only[Sem.run_bind,fT,Result.andThen_ok,Sem.run_pure]),?_,g2,g3,au _,λ_ _=>rfl⟩;exact .sl hrf ⟨(show len+n<=c' by omega),hl.2⟩ qj he (.inr m6)
    | false=>
     rw[gX]at h2;have hnr:¬(len+n<=aF c):=λhle=>by
      have:Nat.ble (Nat.add len n) (aF c)=true:=Nat.ble_eq_true_of_le hle;rw[gX]at this;cases this
     have h3:nQ z bytes H nx k b off len c n new=some r:=h2;unfold nQ at h3;obtain⟨cs,ia,h4⟩:=fG h3;obtain⟨old,hold,h5⟩:=bn h4;have JI:take? (len*z) (fq cs off)=some old:=hold;obtain⟨t1,t2'⟩:=take?_get JI;have aba:∃olds,dJ ρ old olds/\∀w':World,w'.heap=w.heap->(Builtin.firstCells z len (.slice (some ⟨rf.blk,p,none⟩) len c')).run P w'=.ok ⟨olds⟩ w':=by
      have hsk:kO H z (λn1 JH=>open Classical in if n1=len/\JH=old then some r else none) (.slice (some ⟨b,off,some z⟩) len c)=some r:=by
       unfold kO;have WW:Nat.beq z z=true:=by simp
       simp only[WW,cond_true];cases h0:Nat.beq len 0 with
       | true=>
        have:=dB h0;subst this;have:old=[]:=mM (by rw[t1];simp);subst this;simp
       | false=>
        unfold db onRead;rw[ia];show bd (take? (Nat.mul len z) (fq cs off)) (λJH=>open Classical in if len=len/\JH=old then some r else none)=some r;have:take? (Nat.mul len z) (fq cs off)=some old:=hold;rw[this];show (open Classical in if len=len/\old=old then some r else none)=some r;simp
      obtain⟨n1,JH,q1,q2,_,q5⟩:=uK (P:=P) hH hs hsk;have q1':n1=len/\JH=old:=by
       by_cases hq:n1=len/\JH=old
       ·exact hq
       ·simp[hq]at q1
      obtain⟨rfl,rfl⟩:=q1';obtain⟨olds,g1,g2⟩:=q5 n1 (au _);rw[NX V]at g1;exact⟨olds,g1,g2⟩
     obtain⟨olds,o8,ho⟩:=aba;cases hex:exact c with
     | true=>
      rw[hex]at h5;have:=he hex;exact rM hH ht hi hz hb LF hzs eJ ho o8 vJ t1 gg V h5
     | false=>
      rw[hex]at h5;have h6:eG z bytes (cA (at_ b) H none) nx k len n old new=some r:=by
       have h7:eQ (at_ b) H none (λH=>eG z bytes H nx k len n old new)=some r:=h5
       rwa [cL]at h7
      by_cases ie:len+n<=c'
      ·obtain⟨_,_,hk⟩:=my h6;have m6:p=rf.sh+off/\p+c'*z<=rf.size:=by
        rcases hp with h0|h0
        ·omega
        ·exact h0
       rw[m6.1];exact Ar hH ht hi hz ia hrf JI eJ vJ gg Vz ie hl.2 (by rw[<-m6.1];exact m6.2) hk
      ·exact(rM (hH.forget b) ht hi hz hb LF hzs eJ ho o8 vJ t1 gg V h6).pre (λj hj=>mf.qh hj) (.forget _ _)
 ·cases h1
theorem OB{ts:Array TypeId}{u:Value}(h:ts[0]?=some t):Builtin.len_ ts ty #[u]=Builtin.len_ #[t] ty #[u]:=by
 simp[Builtin.len_,h]
theorem W6{ts:Array TypeId}{u:Value}(h:ts[0]?=some t):Builtin.cap_ ts ty #[u]=Builtin.cap_ #[t] ty #[u]:=by
 simp[Builtin.cap_,h]
theorem rN{b:Builtin}{d:Call}(ho:o.op=.call d)(hb:d.callee=.builtin b):(execOp ρc o)=builtin b d.argTypes o.type (d.args.map fun | .const _=>true|_=>false) (d.args.map ρc):=by
 simp only[execOp,ho,resolve,hb];rfl
theorem mz{d:Call}{l:List Operand}(h:d.args.toList=l):d.args.map ρc=(l.map ρc).toArray:=by
 apply Array.ext';simp[h]
theorem s6{ts:Array TypeId}{l:List TypeId}(h:ts.toList=t::l):ts[0]?=some t:=by
 rw[<-Array.getElem?_toList,h];rfl
theorem W7{ts:Array TypeId}(h:ts.toList=[t,t2]):ts=#[t,t2]:=by
 apply Array.ext';rw[h]
theorem OC{e:TypeId}{z n:Nat}{zero:List Value}(hz:cQ P e=some z)(hb:mo P e=some n)(Bd:zeroCells P e=some zero):∃i zv,P.info? e=some i/\i.size=z/\i.bytes=n/\i.zero=some zv/\zero=zv.cells.toList:=by
 unfold cQ at hz;unfold mo at hb;obtain⟨zv,h1,h2⟩:=dD Bd;unfold iC at h1;cases hi:P.info? e with
 | none=>rw[hi]at hz;cases hz
 | some i=>
  rw[hi]at hz hb h1;simp at hz hb;simp only at h1;cases WW:i.zero with
  | none=>rw[WW]at h1;cases h1
  | some zv'=>
   rw[WW]at h1;simp only at h1;cases hc:kP zv' with
   | false=>rw[hc]at h1;cases h1
   | true=>
    rw[hc]at h1;cases h1;exact⟨i,zv,rfl,hz,hb,WW,h2⟩
theorem Au:∀{a b:List Value},cq a=true->cq b=true->cq (a++b)=true:=by
 intro a
 induction a with
 | nil=>intro b _ hb;exact hb
 | cons x a s7=>
  intro b ha hb;have Nr:cond (ux x) (cq a) false=true:=ha;show cond (ux x) (cq (a++b)) false=true;cases hx:ux x with
  | false=>rw[hx]at Nr;cases Nr
  | true=>rw[hx]at Nr;exact s7 Nr hb
theorem HC{z:List Value}(h:cq z=true):∀n,cq (bj z n)=true:=by
 intro n
 induction n with
 | zero=>rfl
 | succ n ih=>exact Au h ih
theorem EB{ts:Array TypeId}{e:TypeId}{zero:List Value}{x:Operand}{cs:Array Bool}(zV:ts[0]?=some t)(hu:P.underlying t=some (.slice e))(Bd:zeroCells P e=some zero)(hH:HR ρ H nx w.heap)(hv:VR ρ (ρa x) (ρc x))(h:cY ((cr.Sx x zero).map (Av ρa)) P T L H nx k=some r):Good P w ρ H nx r k (builtin .clear ts ty cs ([x].map ρc).toArray):=by
 have h':Ta zero H nx k (ρa x)=some r:=h;generalize ρa x=v at hv h';show Good P w ρ H nx r k (do pure (.value (<-Builtin.clear_ ts ty #[ρc x])));generalize ρc x=u at hv;have fin:∀w':World,(Builtin.clear_ ts ty #[u]).run P w=.ok undef w'->(do pure (.value (<-Builtin.clear_ ts ty #[u])):Sem Next).run P w=.ok (.value undef) w':=by
  intro w' hw;simp only[Sem.run_bind,hw,Result.andThen_ok,Sem.run_pure]
 unfold Ta at h';split at h'
 ·cases hv with
  | sc h=>simp[scalar]at h
  | mP=>exact .same hH (.tuple .nil) h' (fin w (by simp[Builtin.clear_,zV,run_underlying hu];rfl))
 ·rename_i b o z n cp;cases hv with
  | sc h=>simp[scalar]at h
  | @sl _ _ _ _ _ p c' s hs hl qj he hp=>
   cases hn:Nat.beq n 0 with
   | true=>
    rw[hn]at h';have:=dB hn;subst this;exact .same hH (.tuple .nil) h' (fin w (by simp[Builtin.clear_,zV,run_underlying hu];rfl))
   | false=>
    rw[hn]at h';have GW:=Ab hn;obtain⟨hc,h1⟩:=ct h';rw[gd]at hc;obtain⟨old,hb,h2⟩:=fG h1;obtain⟨l,zU,h3⟩:=bn h2;rw[qn]at h3;obtain⟨zv,q1,q2⟩:=dD Bd;obtain⟨sU,uE⟩:=jq (w:=w) q1;have GV:=(fM (ρ:=ρ) Bd q1).2;have m6:p=s.sh+o:=by rcases hp with h0|h0<;>omega
    have h1r:cq (bj zero n)=true:=HC hc.2 n;obtain⟨w',g1,g2,g3⟩:=mw (P:=P) hH hb hs zU (GV.rep n) h1r;refine⟨_,_,nx,undef,w',ρ,h3,.inl (fin w' ?_),(.tuple .nil),g2,g3,au _,λ_ _=>rfl⟩;have zT:(Builtin.zeroCells zv.cells n).toList=bj zero n:=by rw[nZ,q2]
    subst m6;cases n with
    | zero=>exact absurd rfl GW
    | succ n=>
     simp only[Builtin.clear_,zV,List.getElem?_toArray,WI,Sem.run_bind,run_underlying hu,Result.andThen_ok,sU,zT,g1,Sem.run_pure];rfl
 ·cases h'
theorem Bi{mn:Bool}{vs us:List Value}{k:KV}(mS:dJ ρ vs us)(h:bd (Cc P mn vs) k=some r):∃x y,k x=some r/\(cond mn (Builtin.min_ #[] 0 us.toArray) (Builtin.max_ #[] 0 us.toArray)).run P w=.ok y w/\VR ρ x y:=by
 unfold Cc at h;cases hi:uu mn vs with
 | some q=>
  rw[hi]at h;obtain⟨rfl,y,h1,h2⟩:=Tj (P:=P) (w:=w) mS hi;exact⟨q,y,h,h1,h2⟩
 | none=>
  rw[hi]at h;obtain⟨e1,x,g1,g2,g3⟩:=js (w:=w) mS h;rw[e1];exact⟨x,x,g1,g2,g3⟩
theorem Aw{b:Builtin}{d:Call}{a:cr Operand}(ho:o.op=.call d)(hb:d.callee=.builtin b)(hr:b≠.recover)(hc:ar P ins o=some a)(ha:a.all λx=>VR ρ (ρa x) (ρc x))(hH:HR ρ H nx w.heap)(h:cY (a.map (Av ρa)) P T L H nx k=some r):Good P w ρ H nx r k (execOp ρc o):=by
 rw[rN ho hb];simp only[ar,ho,hb]at hc;unfold dh at hc;split at hc
 ·
  rename_i t t2 s x Bj cF;rw[mz cF,W7 Bj];split at hc
  ·rename_i e hu;have key:∀fS z n zero,cQ P e=some z->mo P e=some n->zeroCells P e=some zero->Nat.beq zero.length z=true->((fS=true/\∃ki,P.underlying t2=some (.int ki))\/(fS=false/\∃e2,P.underlying t2=some (.slice e2)))->
     a=.app z n zero s x fS->Good P w ρ H nx r k (builtin .append #[t,t2] o.type (d.args.map fun | .const _=>true|_=>false) ([s,x].map ρc).toArray):=by
    intro fS z n zero hz hn Bd hl hty e;subst e;obtain⟨i,zv,g1,g2,g3,g4,g5⟩:=OC hz hn Bd;obtain⟨zv',q1,q2⟩:=dD Bd;have GV:=(fM (ρ:=ρ) Bd q1).2;exact Cv hu g1 g2 g3 g4 g5 (dB hl) GV hty hH ha.1 ha.2 h
   split at hc
   ·rename_i z n zero ki hz hn Bd DO;cases hl:Nat.beq zero.length z with
    | false=>rw[hl]at hc;cases hc
    | true=>rw[hl]at hc;cases hc;exact key true z n zero hz hn Bd hl (.inl ⟨rfl,ki,DO⟩) rfl
   ·rename_i z n zero e2 hz hn Bd DO;cases hl:Nat.beq zero.length z with
    | false=>rw[hl]at hc;cases hc
    | true=>rw[hl]at hc;cases hc;exact key false z n zero hz hn Bd hl (.inr ⟨rfl,e2,DO⟩) rfl
   ·cases hc
  ·cases hc
 ·
  rename_i t l x Bj cF;rw[mz cF];have hl:∀u:Value,Builtin.len_ d.argTypes o.type #[u]=Builtin.len_ #[t] o.type #[u]:=λu=>OB (s6 Bj)
  split at hc
  ·rename_i e hu;cases hc;exact .look (s:=Builtin.len_ #[t] o.type #[ρc x]) (by rw[<-hl];rfl) hH (Ls hu ha (show N6 (ρa x) (λv=>k v H nx)=some r from h))
  ·rename_i hu;cases hc;exact .look (s:=Builtin.len_ #[t] o.type #[ρc x]) (by rw[<-hl];rfl) hH (Lt hu ha (show N7 (ρa x) (λv=>k v H nx)=some r from h))
  ·rename_i kt e hu;cases hc;exact .look (s:=Builtin.len_ #[t] o.type #[ρc x]) (by rw[<-hl];rfl) hH (Ba hu hH ha (show Ce H (ρa x) (λv=>k v H nx)=some r from h))
  ·cases hc
 ·
  rename_i t l x Bj cF;rw[mz cF];split at hc
  ·rename_i e hu;cases hc;exact .look (s:=Builtin.cap_ #[t] o.type #[ρc x]) (by rw[<-W6 (s6 Bj)];rfl) hH (Lr hu ha (show D3 (ρa x) (λv=>k v H nx)=some r from h))
  ·cases hc
 ·
  rename_i t l x y Bj cF;rw[mz cF];split at hc
  ·rename_i e hu;split at hc
   ·rename_i z hz;cases hc;exact HB (ts:=t) (s6 Bj) hu hz hH ha.1 ha.2 h
   ·cases hc
  ·cases hc
 ·
  cases hc;have h':dN T L ((d.args.toList.map ρa).map Od.aO) (λvs=>bd (Cc P true vs) λv=>k v H nx)=some r:=by
   rw[List.map_map];exact h
  rw[sZ]at h';obtain⟨x,y,g1,g2,g3⟩:=Bi (w:=w) (.map λx hx=>ha x hx) h';exact .look (s:=Builtin.min_ #[] 0 (d.args.toList.map ρc).toArray) (by rw[<-mz rfl];rfl) hH ⟨x,y,g1,g2,g3⟩
 ·
  cases hc;have h':dN T L ((d.args.toList.map ρa).map Od.aO) (λvs=>bd (Cc P false vs) λv=>k v H nx)=some r:=by
   rw[List.map_map];exact h
  rw[sZ]at h';obtain⟨x,y,g1,g2,g3⟩:=Bi (w:=w) (.map λx hx=>ha x hx) h';exact .look (s:=Builtin.max_ #[] 0 (d.args.toList.map ρc).toArray) (by rw[<-mz rfl];rfl) hH ⟨x,y,g1,g2,g3⟩
 ·exact absurd rfl hr
 ·
  rename_i t l x Bj cF;rw[mz cF];split at hc
  ·rename_i e hu;split at hc
   ·rename_i zero Bd;cases hc;exact EB (s6 Bj) hu Bd hH ha h
   ·cases hc
  ·cases hc
 ·cases hc
end
section
variable {P:Program}{w:World}{ρ:bY}{H:Heap}{nx:Nat}{r:Ex×St}{T:Tr Value}{L:List Value}{ρa ρc:Operand->Value}{o:Oper}{k:KA}{ins:List Nat}
theorem vK{b:Nat}{K:Option Nat->Nat->List Nat->Nat->R0}(h:po (ah H (at_ b)) K=some r):∃m a s c,ah H (at_ b)=some (.iter m a s c)/\K m a s c=some r:=by
 unfold po at h;split at h
 ·rename_i m a s c hh;exact⟨m,a,s,c,hh,h⟩
 ·cases h
theorem VR.w7{m:Option Nat}{u:Value}(h:VR ρ (.map m) u):(m=none/\u=.map none)\/∃b rf,m=some b/\ρ b=some rf/\u=.map (some rf.blk):=by
 cases h with
 | sc h=>simp[scalar]at h
 | wG=>exact .inl ⟨rfl,rfl⟩
 | map h=>exact .inr ⟨_,_,rfl,h,rfl⟩
theorem EC{t:TypeId}{x:Operand}{a:cr Operand}(ho:o.op=.range t x)(hc:ar P ins o=some a)(ha:a.all λx=>VR ρ (ρa x) (ρc x))(hH:HR ρ H nx w.heap)(h:cY (a.map (Av ρa)) P T L H nx k=some r):Good P w ρ H nx r k (execOp ρc o):=by
 have he:execOp ρc o=(do pure (.value (<-Instr.range t (ρc x)))):=by simp only[execOp,ho]
 simp only[ar,ho]at hc;split at hc
 ·rename_i kt e hu;cases hc;have hx:VR ρ (ρa x) (ρc x):=ha;have h':Tc H nx k (ρa x)=some r:=h;unfold Tc at h';rw[he];split at h'
  ·rename_i e1;rw[e1]at hx;rcases hx.w7 with⟨_,e2⟩|⟨b,rf,e2,_,_⟩
   ·rw[cL]at h';refine .JF (b:=.iter none 0 [] 0) (rf:=⟨w.heap.size,0,0⟩) (w':={ w with heap:=w.heap.push (.mapIter none 0 #[] 0) }) hH rfl rfl rfl rfl rfl rfl ⟨rfl,none,by simp,.wG⟩ VR.fresh h' ?_;simp only[Instr.range,Sem.run_bind,run_underlying hu,Result.andThen_ok,e2,Sem.run_pure];rfl
   ·cases e2
  ·rename_i b e1;rw[e1]at hx;obtain⟨es,c,hb,h2⟩:=iP h';rw[cL]at h2;rcases hx.w7 with⟨e2,_⟩|⟨b',rf,e2,hs,e3⟩
   ·cases e2
   ·cases e2;obtain⟨s',fD,es',dx,hr⟩:=hH.blk _ _ hb;rw[hs]at fD;cases fD
    refine .JF (b:=.iter (some b) c [] c) (rf:=⟨w.heap.size,0,0⟩) (w':={ w with heap:=w.heap.push (.mapIter (some rf.blk) c #[] c) }) hH rfl rfl rfl rfl rfl rfl ⟨rfl,some rf.blk,by simp,.map (hH.gz _ _ _ hs)⟩ VR.fresh h2 ?_;simp only[Instr.range,Sem.run_bind,run_underlying hu,Result.andThen_ok,e3,dP w rfl dx,Sem.run_pure];rfl
  ·cases h'
 ·cases hc
theorem oS.flt{seen:List Nat}{es es':List MapEntry}(h:oS ρ es es'):oS ρ (xE es seen) (es'.filter λe=>!seen.toArray.contains e.born):=by
 induction h with
 | nil=>exact .nil
 | @cons e e' es es' hk hv hb _ ih=>
  unfold xE at ih ⊢;rw[List.filter_cons,List.filter_cons];have:(!seen.toArray.contains e'.born)=!seen.contains e.born:=by rw[hb];simp
  rw[this];cases (!seen.contains e.born)with
  | true=>exact .cons hk hv hb ih
  | false=>exact ih
theorem oS.all{p:Nat->Bool}{es es':List MapEntry}(h:oS ρ es es'):(es'.all λe=>p e.born)=es.all λe=>p e.born:=by
 induction h with
 | nil=>rfl
 | @cons e e' es es' hk hv hb _ ih=>
  rw[List.all_cons,List.all_cons,ih,hb]
theorem oS.emp{es es':List MapEntry}(h:oS ρ es es'):es'.isEmpty=es.isEmpty:=by cases h<;>rfl
theorem JJ{x:Value}{u:Value}{q off:Nat}{m:Option Nat}{since last:Nat}{seen:List Nat}(hH:HR ρ H nx w.heap)(hx:VR ρ x u)(e1:x=.pointer (some ⟨q,off,none⟩))(ho:off=0)(hq:ah H (at_ q)=some (.iter m since seen last)) :
  ∃rf m',ρ q=some rf/\u=.pointer (some ⟨rf.blk,0,none⟩)/\w.heap[rf.blk]?=some (.mapIter m' since seen.toArray last)/\VR ρ (.map m) (.map m')/\rf.sh=0:=by
 subst e1;cases hx with
 | sc h=>simp[scalar]at h
 | @ptr _ _ s hs=>
  obtain⟨s',fD,h0,m',h1,h2⟩:=hH.blk _ _ hq;rw[hs]at fD;cases fD
  exact⟨s,m',hs,by rw[h0,ho],h1,h2,h0⟩
theorem mA{b:Nat}{m:Option Nat}{a c:Nat}{s:Array Nat}(h:w.heap[b]?=some (.mapIter m a s c)):(getObj b).run P w=.ok (.mapIter m a s c) w:=by
 simp[getObj,Sem.run,h]
theorem ED{b:Nat}{m:Option Nat}{a c:Nat}{s:Array Nat}(ob:Obj)(h:w.heap[b]?=some (.mapIter m a s c)):(setObj b ob).run P w=.ok () { w with heap:=w.heap.setIfInBounds b ob }:=by
 simp[setObj,Sem.run,h]
theorem vL{v:Value}{K:Nat->Nat->R0}(h:dU v K=some r):∃b o,v=.pointer (some ⟨b,o,none⟩)/\K b o=some r:=by
 unfold dU at h;split at h
 ·exact⟨_,_,rfl,h⟩
 ·cases h
theorem HD{x:Operand}{a:cr Operand}(ho:o.op=.next x false)(hc:ar P ins o=some a)(ha:a.all λx=>VR ρ (ρa x) (ρc x))(hH:HR ρ H nx w.heap)(h:cY (a.map (Av ρa)) P T L H nx k=some r):Good P w ρ H nx r k (execOp ρc o):=by
 have he:execOp ρc o=(do pure (.value (<-Instr.next (ρc x) false o.type))):=by simp only[execOp,ho]
 simp only[ar,ho]at hc;cases hc;have hx:VR ρ (ρa x) (ρc x):=ha;have h':dU (ρa x) (λr' o'=>cond (Nat.beq o' 0) (po (ah H (at_ r')) (aaU H nx k r')) none)=some r:=h;obtain⟨q,off,e1,h1⟩:=vL h';cases kT:Nat.beq off 0 with
 | false=>rw[kT]at h1;cases h1
 | true=>
  rw[kT]at h1;have kT:=dB kT;obtain⟨m,since,seen,last,hq,h2⟩:=vK h1;obtain⟨rf,m',hs,e2,W9,hm,cD⟩:=JJ hH hx e1 kT hq;rw[he];rcases hm.w7 with⟨rfl,e3⟩|⟨b,rb,rfl,hb,e3⟩
  ·cases e3;have h3:k (.tuple #[.bool false]) H nx=some r:=h2;refine .same hH (.tuple (.cons (.sc rfl) .nil)) h3 ?_;simp only[Instr.next,e2,Sem.run_bind,mA W9,Result.andThen_ok,Sem.run_pure]
  ·cases e3;have h3:jI (ah H (at_ b)) (λes c=>cond (!seen.isEmpty&&!es.isEmpty&&es.all λe=>decide (e.born>=last)) none (Td H nx k q b since seen c (xE es seen)))=some r:=h2;obtain⟨es,c,hmb,h4⟩:=iP h3;obtain⟨s',fD,es',dx,hr⟩:=hH.blk _ _ hmb;rw[hb]at fD;cases fD
   cases bO:(!seen.isEmpty&&!es.isEmpty&&es.all λe=>decide (e.born>=last))with
   | true=>rw[bO]at h4;cases h4
   | false=>
    rw[bO]at h4;have h5:Td H nx k q b since seen c (xE es seen)=some r:=h4;have hl:=hr.flt (seen:=seen);have OD:(!seen.toArray.isEmpty&&!es'.isEmpty&&es'.all λe=>decide (e.born>=last))=false:=by
     rw[<-bO];have g1:es'.all (λe=>decide (e.born>=last))=es.all (λe=>decide (e.born>=last)):=by
      rw[<-Array.all_toList];exact hr.all (p:=λn=>decide (n>=last))
     have g2:es'.isEmpty=es.isEmpty:=by rw[<-hr.emp];simp
     rw[g1,g2];simp
    have oJ:(es'.filter λe=>!seen.toArray.contains e.born).toList=es'.toList.filter λe=>!seen.toArray.contains e.born:=by simp
    generalize hL:es'.filter (λe=>!seen.toArray.contains e.born)=L' at oJ;rw[<-oJ]at hl;generalize hl0:xE es seen=l0 at hl h5;unfold Td at h5;split at h5
    ·have hL0:L'=#[]:=by
      cases iE:L'.toList with
      | nil=>exact Array.toList_eq_nil_iff.1 iE
      | cons y l=>rw[iE]at hl;cases hl
     refine .same hH (.tuple (.cons (.sc rfl) .nil)) h5 ?_;simp only[Instr.next,e2,Sem.run_bind,mA W9,dP w rfl dx,Result.andThen_ok,Sem.run_pure,OD,Bool.false_eq_true,if_false,hL,hL0];simp[choose,Sem.run,Question.forced]
    ·rename_i e;cases Ns:Nat.blt e.born since with
     | false=>rw[Ns]at h5;cases h5
     | true=>
      rw[Ns]at h5;have cg:e.born<since:=lu Ns;have h6:eQ (at_ q) H (some (.iter (some b) since (seen++[e.born]) c)) (λH=>k (.tuple #[.bool true,e.key,e.val]) H nx)=some r:=h5;rw[cL]at h6;obtain⟨e',vM,hk,hv,o9⟩:∃e',L'=#[e']/\VR ρ e.key e'.key/\VR ρ e.val e'.val/\e'.born=e.born:=by
       cases iE:L'.toList with
       | nil=>rw[iE]at hl;cases hl
       | cons y l=>
        rw[iE]at hl;cases hl with
        | cons hk hv o9 s8=>
         cases s8;exact⟨y,by rw[<-Array.toList_inj,iE],hk,hv,o9⟩
      have jP:(#[e']:Array MapEntry).filter (λx=>decide (x.born<since))=#[e']:=by
       simp[o9,cg]
      have kH:(#[e']:Array MapEntry).filter (λx=>decide (x.born>=since))=#[]:=by
       simp[o9];omega
      have aeE:=(Array.getElem?_eq_some_iff.1 W9).1;refine⟨.tuple #[.bool true,e.key,e.val],_,nx,.tuple #[.bool true,e'.key,e'.val],{ w with heap:=w.heap.setIfInBounds rf.blk (.mapIter (some rb.blk) since (seen.toArray.push e'.born) c) },ρ,h6,.inl ?_,.tuple (.cons (.sc rfl) (.cons hk (.cons hv .nil))),?_,⟨.refl ρ,λj hj=>.inl (mf.pw hq hj),.put _ _ _,λj hj hn=>?_,by simp,rfl,rfl,rfl⟩,au _,λ_ _=>rfl⟩
      ·simp only[Instr.next,e2,Sem.run_bind,mA W9,dP w rfl dx,Result.andThen_ok,Sem.run_pure,OD,Bool.false_eq_true,if_false,hL,vM,jP,kH];simp[choose,Sem.run,Question.forced,ED _ W9]
      ·refine hH.write hq hs (λi hi=>?_) ⟨cD,some rb.blk,?_,.map hb⟩
       ·simp only;rw[Array.getElem?_setIfInBounds,aw (λe=>hi e.symm)]
       ·simp only;rw[Array.getElem?_setIfInBounds,aJ rfl,aJ aeE,o9];simp
      ·have:rf.blk≠j:=λe=>hn ⟨q,_,rf,hq,rfl,hs,e⟩
       simp only;rw[Array.getElem?_setIfInBounds,aw this]
    ·cases h5
theorem oS.find{st:Nat}{es es':List MapEntry}(h:oS ρ es es'){e:MapEntry}(hf:es.find? (λe=>e.born == st)=some e):∃e',es'.find? (λe=>e.born == st)=some e'/\VR ρ e.key e'.key/\VR ρ e.val e'.val:=by
 induction h with
 | nil=>cases hf
 | @cons x x' es es' hk hv hb _ ih=>
  rw[List.find?_cons]at hf ⊢;rw[hb];cases hx:x.born == st with
  | true=>rw[hx]at hf;cases hf;exact⟨x',rfl,hk,hv⟩
  | false=>rw[hx]at hf;exact ih hf
theorem EE{x:Operand}{a:cr Operand}(ho:o.op=.entry x)(hc:ar P ins o=some a)(ha:a.all λx=>VR ρ (ρa x) (ρc x))(hH:HR ρ H nx w.heap)(h:cY (a.map (Av ρa)) P T L H nx k=some r):Good P w ρ H nx r k (execOp ρc o):=by
 have he:execOp ρc o=(do pure (.value (<-Instr.entry (ρc x)))):=by simp only[execOp,ho]
 simp only[ar,ho]at hc;cases hc;have hx:VR ρ (ρa x) (ρc x):=ha;have h':dU (ρa x) (λr' o'=>cond (Nat.beq o' 0) (po (ah H (at_ r')) (aaV H nx k)) none)=some r:=h;obtain⟨q,off,e1,h1⟩:=vL h';cases kT:Nat.beq off 0 with
 | false=>rw[kT]at h1;cases h1
 | true=>
  rw[kT]at h1;have kT:=dB kT;obtain⟨m,since,seen,last,hq,h2⟩:=vK h1;obtain⟨rf,m',hs,e2,W9,hm,cD⟩:=JJ hH hx e1 kT hq;rw[he];rcases hm.w7 with⟨rfl,e3⟩|⟨b,rb,rfl,hb,e3⟩
  ·have h3:(none:R0)=some r:=h2;cases h3
  ·cases e3;have h3:bd seen.getLast? (λst=>jI (ah H (at_ b)) λes c=>cond (Nat.beq c last) (bd (es.find? λe=>e.born == st) λe=>k (.tuple #[e.key,e.val]) H nx) none)=some r:=h2;obtain⟨st,bO,h4⟩:=bn h3;obtain⟨es,c,hmb,h5⟩:=iP h4;obtain⟨s',fD,es',dx,hr⟩:=hH.blk _ _ hmb;rw[hb]at fD;cases fD
   cases kI:Nat.beq c last with
   | false=>rw[kI]at h5;cases h5
   | true=>
    rw[kI]at h5;have kI:=dB kI;have h6:bd (es.find? λe=>e.born == st) (λe=>k (.tuple #[e.key,e.val]) H nx)=some r:=h5;obtain⟨e,hfe,h7⟩:=bn h6;obtain⟨e',hf',hk,hv⟩:=hr.find hfe;have abb:seen.toArray.back?=some st:=by simpa using bO
    have lg:es'.find? (λe=>e.born == st)=some e':=by rw[<-Array.find?_toList];exact hf'
    subst kI;refine .same hH (.tuple (.cons hk (.cons hv .nil))) h7 ?_;simp only[Instr.entry,e2,Sem.run_bind,mA W9,dP w rfl dx,Result.andThen_ok,Sem.run_pure,abb,bne_self_eq_false,Bool.false_eq_true,if_false,lg]
end
section
variable {P:Program}{w:World}{ρ:bY}{H:Heap}{nx:Nat}{r:Ex×St}{T:Tr Value}{L:List Value}{ρa ρc:Operand->Value}{o:Oper}{k:KA}{ins:List Nat}
def cr.plain{α:Type}:cr α->Bool
 | .call _ _ | .inv _ _ _ | .sx _ _ | .rE _ | .AX | .ins _ _ _ _ _=>false
 | _=>true
theorem uN{a:cr Operand}(hc:ar P ins o=some a)(hp:a.plain=true)(ha:a.all λx=>VR ρ (ρa x) (ρc x))(hH:HR ρ H nx w.heap)(h:cY (a.map (Av ρa)) P T L H nx k=some r):Good P w ρ H nx r k (execOp ρc o):=by
 cases ho:o.op with
 | move x=>exact xW (.inl ho) hc ha hH h
 | assign x=>exact xW (.inr ho) hc ha hH h
 | pick c x y=>exact Hw ho hc ha hH h
 | alloc t=>exact Eu ho hc hH h
 | box t x=>exact LB ho hc ha hH h
 | build t xs=>exact Em ho hc ha hH h
 | buildSlice t n xs=>exact uJ ho hc ha hH h
 | load t x=>exact En ho hc ha hH h
 | store t x v=>exact Aq ho hc ha hH h
 | nilCheck x=>exact xX ho hc ha hH h
 | binOp op t x y q=>exact Eo (b:=true) ⟨q,ho⟩ hc ha hH h
 | unOp op t x=>exact Hy ho hc ha hH h
 | convert s d x=>exact An ho hc ha hH h
 | makeInterface t x=>exact qT ho hc ha hH h
 | makeFunc fn xs ys=>exact xY ho hc ha hH h
 | makeMap t x=>exact Ap ho hc ha hH h
 | makeSlice t x y=>exact wK ho hc ha hH h
 | slice t x lo hi mx=>exact Er ho hc ha hH h
 | fieldAddr s x f=>exact wI ho hc ha hH h
 | field s x f=>exact Es ho hc ha hH h
 | indexAddr t x i=>exact wJ ho hc ha hH h
 | index t x i=>exact Et ho hc ha hH h
 | lookup t x i ok=>exact Cq ho hc ha hH h
 | mapUpdate t m q x=>exact oH (.inl ho) hc ha hH h
 | insert t m q x=>exact oH (.inr ho) hc ha hH h
 | mapEntry t m q=>exact yd ho hc ha hH h
 | entryStore t m q x=>exact uM ho hc ha hH h
 | typeAssert x xt t ok=>exact uI ho hc ha hH h
 | extract x i=>exact Ao ho hc ha hH h
 | call d=>
  cases hb:d.callee with
  | builtin b=>
   by_cases hr:b=.recover
   ·subst hr;simp only[ar,ho,hb]at hc;cases hl:d.args.toList with
    | nil=>
     have:a=.AX:=by
      unfold dh at hc;rw[hl]at hc;cases Bj:d.argTypes.toList with
      | nil=>rw[Bj]at hc;cases hc;rfl
      | cons t l=>rw[Bj]at hc;cases l<;>(cases hc;rfl)
     subst this;simp[cr.plain]at hp
    | cons x l=>
     exfalso;unfold dh at hc;rw[hl]at hc;cases Bj:d.argTypes.toList with
     | nil=>rw[Bj]at hc;cases hc
     | cons t l'=>rw[Bj]at hc;cases l'<;>cases hc
   ·exact Aw ho hb hr hc ha hH h
  | value f=>
   exfalso;cases f with
   | func g=>
    simp only[ar,ho,hb]at hc;cases hg:eI ins g with
    | true=>
     rw[hg]at hc;simp only[cond_true]at hc;split at hc
     ·split at hc
      ·split at hc
       ·cases hc;simp[cr.plain]at hp
       ·cases hc
      ·cases hc
     ·cases hc
    | false=>rw[hg]at hc;cases hc;simp[cr.plain]at hp
   | _=>simp only[ar,ho,hb]at hc;cases hc;simp[cr.plain]at hp
  | invoke x name=>
   simp only[ar,ho,hb]at hc;cases hc;simp[cr.plain]at hp
 | defer d=>
  simp only[ar,ho]at hc;split at hc
  ·cases hc;simp[cr.plain]at hp
  ·cases hc
 | panic x=>simp only[ar,ho]at hc;cases hc;simp[cr.plain]at hp
 | range t x=>exact EC ho hc ha hH h
 | next x q=>
  cases q with
  | false=>exact HD ho hc ha hH h
  | true=>simp only[ar,ho]at hc;cases hc
 | entry x=>exact EE ho hc ha hH h
 | _=>simp only[ar,ho]at hc;cases hc
end
section
variable {P:Program}{ρ:bY}{T:Tr Value}{L:List Value}{kept:List Nat}{n:Nat}{env:Env}{a:Act}
structure jQ(ρ:bY)(kept:List Nat)(n:Nat)(env:Env)(T:Tr Value)(L:List Value)(a:Act):Prop where
 size:n<=a.tmps.size
 env:∀t od,find env t=some od->VR ρ ((kh T L od).getD undef) (a.tmps.getD t undef)
 kept:∀t,eI kept t=true->VR ρ ((ah T (cP t)).getD undef) (a.tmps.getD t undef)
theorem VR.undef:VR ρ undef undef:=.tuple .nil
theorem jQ.mono{ρ':bY}(e:Ext ρ ρ')(h:jQ ρ kept n env T L a):jQ ρ' kept n env T L a:=
 ⟨h.size,λt od ht=>(h.env t od ht).mono e,λt ht=>(h.kept t ht).mono e⟩
theorem gA(h:jQ ρ kept n env T L a){x:Operand}{od:Od}(hc:cv kept n env x=some od):VR ρ ((kh T L od).getD undef) (a.eval x):=by
 cases x with
 | tmp t=>
  simp only[cv]at hc;cases hb:Nat.blt t n with
  | false=>rw[hb]at hc;cases hc
  | true=>
   rw[hb]at hc;simp only[cond_true]at hc;cases hf:find env t with
   | some y=>rw[hf]at hc;cases hc;exact h.env t _ hf
   | none=>
    rw[hf]at hc;cases hk:eI kept t with
    | false=>rw[hk]at hc;cases hc
    | true=>rw[hk]at hc;cases hc;exact h.kept t hk
 | const v=>
  simp only[cv]at hc;cases hk:kP v with
  | false=>rw[hk]at hc;cases hc
  | true=>rw[hk]at hc;cases hc;exact .jt hk
 | func f=>cases hc;exact .func .nil .nil
 | global g=>cases hc
theorem uO{p:List Bool}{od:Od}:isVar p od=true↔od=.var p:=by
 have same:∀p q:List Bool,lC p q=true↔p=q:=by
  intro p
  induction p with
  | nil=>intro q;cases q<;>simp[lC]
  | cons b p ih=>intro q;cases q with
   | nil=>cases b<;>simp[lC]
   | cons c q=>cases b<;>cases c<;>simp[lC,ih]
 cases od with
 | var q=>
  unfold isVar;rw[same];constructor
  ·intro h;rw[h]
  ·intro h;cases h;rfl
 | _=>simp[isVar]
theorem ye(v:Value)(od:Od):kh T (v::L) (shift od)=kh T L od:=by
 cases od<;>rfl
theorem HE:∀(env:Env) (t:Nat),find (dj env) t=(find env t).map shift:=by
 intro env
 induction env with
 | nil=>intro t;rfl
 | cons p env ih=>
  intro t;obtain⟨u,x⟩:=p;show (bif Nat.beq u t then some (shift x)else find (dj env) t)=Option.map shift (bif Nat.beq u t then some x else find env t);cases Nat.beq u t with
  | true=>rfl
  | false=>exact ih t
theorem Cw:∀(env:Env) (d t:Nat),find (gk env d) t=if t=d then none else find env t:=by
 intro env
 induction env with
 | nil=>intro d t;simp[gk,find]
 | cons p env ih=>
  intro d t;obtain⟨u,x⟩:=p;have ih':=ih d t;unfold gk at ih' ⊢;rw[List.filter_cons];by_cases hu:u=d
  ·subst hu;simp only[Nat.beq_refl,Bool.not_true,Bool.false_eq_true,if_false];rw[ih'];by_cases ht:t=u
   ·simp[ht]
   ·rw[aw ht,aw ht];show find env t=(bif Nat.beq u t then some x else find env t);have:Nat.beq u t=false:=by
     cases hb:Nat.beq u t with
     | false=>rfl
     | true=>exact absurd (dB hb).symm ht
    rw[this];rfl
  ·have hb:(!(Nat.beq u d))=true:=by
    cases hb:Nat.beq u d with
    | false=>rfl
    | true=>exact absurd (dB hb) hu
   simp only[hb,if_true];show (bif Nat.beq u t then some x else find (env.filter λp=>!(Nat.beq p.1 d)) t)=if t=d then none else(bif Nat.beq u t then some x else find env t)
   cases hut:Nat.beq u t with
   | true=>
    have:=dB hut;subst this;rw[aw hu];rfl
   | false=>exact ih'
theorem jQ.put{v u:Value}{d:Nat}{keep:Option (List Bool)}{T':Tr Value}(h:jQ ρ kept n env T L a)(hv:VR ρ v u)(hd:d<n)(hT:(keep=none/\T'=T/\eI kept d=false)\/(∃p,keep=some p/\p=cP d/\T'=cA p T (some v)/\(dj env).any (λe=>isVar p e.2)=false)) :
  jQ ρ kept n ((d,.loc 0)::gk (dj env) d) T' (v::L) (a.put (some d) u):=by
 have rL:∀t,(a.put (some d) u).tmps.getD t undef=if t=d then u else a.tmps.getD t undef:=by
  intro t;have Xa:d<a.tmps.size:=kN hd h.size;show (a.tmps.setIfInBounds d u).getD t undef=_;simp only[Array.getD_eq_getD_getElem?,Array.getElem?_setIfInBounds];by_cases ht:d=t
  ·subst ht;simp[Xa]
  ·rw[aw ht,aw (λe=>ht e.symm)]
 refine⟨by show n<=(a.tmps.setIfInBounds d u).size;simpa using h.size,λt od ht=>?_,λt ht=>?_⟩
 ·rw[rL];by_cases HF:t=d
  ·subst HF;have:od=.loc 0:=by
    unfold find at ht;simp at ht;exact ht.symm
   subst this;rw[aJ rfl];exact hv
  ·rw[aw HF];have hf:find (gk (dj env) d) t=some od:=by
    have hb:Nat.beq d t=false:=by
     cases hb:Nat.beq d t with
     | false=>rfl
     | true=>exact absurd (dB hb).symm HF
    simp only[find]at ht;rw[hb]at ht;exact ht
   rw[Cw,aw HF,HE]at hf;cases he:find env t with
   | none=>rw[he]at hf;cases hf
   | some x=>
    rw[he]at hf;cases hf;have h0:=h.env t x he;have yf:kh T' (v::L) (shift x)=kh T (v::L) (shift x):=by
     rcases hT with⟨_,rfl,_⟩|⟨p,_,_,rfl,Ax⟩
     ·rfl
     ·cases x with
      | var q=>
       have cG:q≠p:=by
        intro e;subst e
        have rO:∀(env:Env) (t:Nat) (x:Od),find env t=some x->(t,x)∈env:=by
         intro env
         induction env with
         | nil=>intro t x hx;cases hx
         | cons y env ih=>
          intro t x hx;obtain⟨a,b⟩:=y;unfold find at hx;cases hb:Nat.beq a t with
          | true=>
           rw[hb]at hx;cases hx
           have:=dB hb;subst this;exact hJ
          | false=>rw[hb]at hx;exact fY _ (ih t x hx)
        have h1:=rO _ _ _ he;have h2:(t,shift (.var q))∈dj env:=pg.2 ⟨_,h1,rfl⟩;have h3:=List.any_eq_false.1 Ax _ h2;exact h3 (uO.2 rfl)
       show ah (cA p T (some v)) q=ah T q;exact bz _ _ _ _ cG
      | _=>rfl
    rw[yf,ye];exact h0
 ·rw[rL];rcases hT with⟨_,rfl,hk⟩|⟨p,_,rfl,rfl,_⟩
  ·have:t≠d:=by intro e;subst e;rw[hk]at ht;cases ht
   rw[aw this];exact h.kept t ht
  ·by_cases HF:t=d
   ·subst HF;rw[aJ rfl,cB];exact hv
   ·rw[aw HF,bz _ _ _ _ (by rw[kg,kg];exact λe=>HF (gy e))];exact h.kept t ht
end
section
inductive oV (ρ:bY):List PanicEntry->List PanicEntry->Prop
 | nil:oV ρ [] []
 | cons {e e':PanicEntry} {l l':List PanicEntry} (hv:VR ρ e.v e'.v) (hr:e'.recovered=e.recovered) (hg:e'.goexit=e.goexit) (h:oV ρ l l'):oV ρ (e::l) (e'::l')
theorem oV.mono{ρ ρ':bY}(e:Ext ρ ρ'){l l':List PanicEntry}(h:oV ρ l l'):oV ρ' l l':=by
 induction h with
 | nil=>exact .nil
 | cons hv hr hg _ ih=>exact .cons (hv.mono e) hr hg ih
def Tn(ρ:bY)(x:gf)(d:Deferred):Prop:=
 ∃f a a' c c' vs,x.1=.func (.func f) ⟨a⟩ ⟨c⟩/\d = { target:=.fn (.func f) ⟨c'⟩,args:=⟨a'++vs⟩ }/\dJ ρ a a'/\dJ ρ c c'/\dJ ρ x.2 vs
inductive je (ρ:bY):List gf->List Deferred->Prop
 | nil:je ρ [] []
 | cons {x:gf} {d:Deferred} {l:List gf} {l':List Deferred} (hx:Tn ρ x d) (h:je ρ l l'):je ρ (x::l) (d::l')
theorem Tn.mono{ρ ρ':bY}(e:Ext ρ ρ'){x:gf}{d:Deferred}(h:Tn ρ x d):Tn ρ' x d:=by
 obtain⟨f,a,a',c,c',vs,h1,h2,h3,h4,h5⟩:=h;exact⟨f,a,a',c,c',vs,h1,h2,h3.mono e,h4.mono e,h5.mono e⟩
theorem je.mono{ρ ρ':bY}(e:Ext ρ ρ'){l:List gf}{l':List Deferred}(h:je ρ l l'):je ρ' l l':=by
 induction h with
 | nil=>exact .nil
 | cons hx _ ih=>exact .cons (hx.mono e) ih
structure lJ(ρ:bY)(H:Heap)(nx:Nat)(w:World)(ρ':bY)(H':Heap)(nx':Nat)(w':World):Prop where
 hr:HR ρ' H' nx' w'.heap
 iw:Hm ρ H w ρ' H' w'
 le:nx<=nx'
 low:∀b,b<nx->ρ' b=ρ b
theorem lJ.refl{ρ:bY}{H:Heap}{nx:Nat}{w:World}(h:HR ρ H nx w.heap):lJ ρ H nx w ρ H nx w:=⟨h,.refl ρ H w,au _,λ_ _=>rfl⟩
theorem lJ.trans{ρ ρ1 ρ2:bY}{H H1 H2:Heap}{nx aQ nx2:Nat}{w w1 w2:World}(h:lJ ρ H nx w ρ1 H1 aQ w1)(h':lJ ρ1 H1 aQ w1 ρ2 H2 nx2 w2):lJ ρ H nx w ρ2 H2 nx2 w2:=
 ⟨h'.hr,h.iw.trans h'.iw,hX h.le h'.le,λb hb=>(h'.low b (kN hb h.le)).trans (h.low b hb)⟩
def EF(ρ:bY)(H:Heap)(nx:Nat)(w:World)(c:eF)(e:Ending)(w':World):Prop:=match c with
 | .ok v H' nx'=>∃u ρ',e=.returned u/\VR ρ' v u/\lJ ρ H nx w ρ' H' nx' w'
 | .rE ch H' nx'=>∃Ay ρ',e=.panicked Ay/\oV ρ' ch Ay/\lJ ρ H nx w ρ' H' nx' w'
def fI(P:Program)(g:FuncId):Prop:=∃fn,P.funcs[g]?=some fn/\fn.body.isNone=false/\(fn.name == "runtime.NumGoroutine")=false
theorem fI.run{P:Program}{g:FuncId}{w:World}{args:Array Value}(h:fI P g):(callFunc g args).run P w=.ok (.enter g args) w:=by
 obtain⟨fn,h1,h2,h3⟩:=h;have hp:(program).run P w=.ok P w:=rfl;simp only[callFunc,Sem.run_bind,hp,Result.andThen_ok,h1,h2,h3,Bool.false_eq_true,if_false,Sem.run_pure]
def ig(P:Program)(r:ly):Prop:=∀g vs H nx c,r.call g vs H nx=some c->fI P g/\∀ρ us w,dJ ρ vs us->HR ρ H nx w.heap->Calls P g ⟨us⟩ w (EF ρ H nx w c)
def ExR(ρ:bY):Ex->Exit->Prop
 | .normal,.normal=>True
 | .exit i,.exit j=>i=j
 | .ret,.ret=>True
 | .panic ch,.panic Ay=>oV ρ ch Ay
 | _,_=>False
structure LH(ρ:bY)(kept:List Nat)(n:Nat)(T:Tr Value)(D:List gf)(a:Act):Prop where
 env:jQ ρ kept n [] T [] a
 sx:je ρ D a.defers
def nt(ρ:bY)(H:Heap)(nx:Nat)(w:World)(kept:List Nat)(n:Nat)(o:Ex×St)(e:Exit)(a':Act)(w':World):Prop:=
 ∃ρ',lJ ρ H nx w ρ' o.2.H o.2.nx w'/\LH ρ' kept n o.2.T o.2.D a'/\ExR ρ' o.1 e
def ij(P:Program)(ins kept:List Nat)(n:Nat)(f:RC)(c:Code):Prop:=
 ∀T D H nx o,f T D H nx=some o->∀ρ a w,HR ρ H nx w.heap->LH ρ kept n T D a->c.wp P (nt ρ H nx w kept n o) a w
end
section
variable {P:Program}{ins kept:List Nat}{n:Nat}
theorem nt.trans{ρ ρ1:bY}{H H1:Heap}{nx aQ:Nat}{w w1:World}{o:Ex×St}{e:Exit}{a':Act}{w':World}(h:lJ ρ H nx w ρ1 H1 aQ w1)(h':nt ρ1 H1 aQ w1 kept n o e a' w'):nt ρ H nx w kept n o e a' w':=by
 obtain⟨ρ',h1,h2,h3⟩:=h';exact⟨ρ',h.trans h1,h2,h3⟩
theorem To:ij P ins kept n Oa .skip:=by
 intro T D H nx o h ρ a w hH ha;cases h;exact wp_skip ⟨ρ,.refl hH,ha,trivial⟩
theorem Tp{id:Nat}:ij P ins kept n (Vs id) (.exit id):=by
 intro T D H nx o h ρ a w hH ha;cases h;exact wp_exit ⟨ρ,.refl hH,ha,rfl⟩
theorem Xb:ij P ins kept n aa0 .ret:=by
 intro T D H nx o h ρ a w hH ha;cases h;exact wp_ret ⟨ρ,.refl hH,ha,trivial⟩
theorem uP{k:RC}{Q:Exit->Act->World->Prop}{o1 o:Ex×St}{ρ:bY}{H:Heap}{nx:Nat}{w:World}{N:Act->World->Prop}(h:pr k o1=some o)(hk:∀st:St,k st.T st.D st.H st.nx=some o->∀ρ1 a1 w1,lJ ρ H nx w ρ1 st.H st.nx w1->LH ρ1 kept n st.T st.D a1->N a1 w1){e:Exit}{a1:Act}{w1:World}(hq:nt ρ H nx w kept n o1 e a1 w1) :
  Exit.then N (nt ρ H nx w kept n o) e a1 w1:=by
 obtain⟨ex,st⟩:=o1;obtain⟨ρ1,g1,g2,g3⟩:=hq;cases ex with
 | normal=>
  cases e with
  | normal=>exact hk st h ρ1 a1 w1 g1 g2
  | _=>exact g3.elim
 | exit i=>
  cases e with
  | exit j=>cases h;exact⟨ρ1,g1,g2,g3⟩
  | _=>exact g3.elim
 | ret=>
  cases e with
  | ret=>cases h;exact⟨ρ1,g1,g2,g3⟩
  | _=>exact g3.elim
 | panic ch=>
  cases e with
  | panic Ay=>cases h;exact⟨ρ1,g1,g2,g3⟩
  | _=>exact g3.elim
theorem Xc{f g:RC}{x y:Code}(hf:ij P ins kept n f x)(hg:ij P ins kept n g y):ij P ins kept n (aaZ f g) (.seq x y):=by
 intro T D H nx o h ρ a w hH ha;obtain⟨o1,h1,h2⟩:=bn h;refine wp_seq (wp_mono (hf T D H nx o1 h1 ρ a w hH ha) λe a1 w1 hq=>?_);exact uP (N:=y.wp P (nt ρ H nx w kept n o)) (Q:=nt ρ H nx w kept n o) h2 (λst bO ρ1 a1 w1 g1 g2=>wp_mono (hg _ _ _ _ o bO ρ1 a1 w1 g1.hr g2) λe a2 w2 hq=>.trans g1 hq) hq
theorem Tq{f g:RC}{x y:Code}{c:Operand}{od:Od}(hc:cv kept n ([]:Env) c=some od)(hf:ij P ins kept n f x)(hg:ij P ins kept n g y):ij P ins kept n (Vq od f g) (.cond c x y):=by
 intro T D H nx o h ρ a w hH ha;have h':bI T [] od (λv=>hY v (f T D H nx) (g T D H nx))=some o:=h;rw[dd]at h';obtain⟨v,hv,h1⟩:=bn h';have hr:=gA ha.env hc;rw[hv]at hr;rcases py h1 with⟨e,h2⟩|⟨e,h2⟩
 ·subst e;exact wp_cond_true hr.sS (hf T D H nx o h2 ρ a w hH ha)
 ·subst e;exact wp_cond_false hr.sS (hg T D H nx o h2 ρ a w hH ha)
theorem OE{f:RC}{x:Code}{id:Nat}(hf:ij P ins kept n f x):ij P ins kept n (Ob id f) (.block id x):=by
 intro T D H nx o h ρ a w hH ha;obtain⟨o1,h1,h2⟩:=bn h;refine wp_block (wp_mono (hf T D H nx o1 h1 ρ a w hH ha) λe a1 w1 hq=>?_);obtain⟨ex,st⟩:=o1;obtain⟨ρ1,g1,g2,g3⟩:=hq;cases ex with
 | normal=>
  cases e with
  | normal=>cases h2;exact⟨ρ1,g1,g2,trivial⟩
  | _=>exact g3.elim
 | exit i=>
  cases e with
  | exit j=>
   have Bh:i=j:=g3;subst Bh;have h3:cond (Nat.beq i id) (stay .normal st) (stay (.exit i) st)=some o:=by
    have h4:(cond (Nat.beq i id) (stay .normal) (stay (.exit i))) st=some o:=h2;cases hb:Nat.beq i id<;>(rw[hb]at h4;exact h4)
   show (if i=id then nt ρ H nx w kept n o .normal a1 w1 else nt ρ H nx w kept n o (.exit i) a1 w1);cases hb:Nat.beq i id with
   | true=>
    rw[hb]at h3;rw[aJ (dB hb)];cases h3;exact⟨ρ1,g1,g2,trivial⟩
   | false=>
    rw[hb]at h3;rw[aw (Ab hb)];cases h3;exact⟨ρ1,g1,g2,rfl⟩
  | _=>exact g3.elim
 | ret=>
  cases e with
  | ret=>cases h2;exact⟨ρ1,g1,g2,trivial⟩
  | _=>exact g3.elim
 | panic ch=>
  cases e with
  | panic Ay=>cases h2;exact⟨ρ1,g1,g2,g3⟩
  | _=>exact g3.elim
def s9(P:Program)(kept:List Nat)(n:Nat)(f:RC)(m:Nat)(c:Code):Prop:=
 ∀T D H nx o,f T D H nx=some o->∀ρ a w,HR ρ H nx w.heap->LH ρ kept n T D a->Code.rounds P c (nt ρ H nx w kept n o) m a w
theorem EG{c:Code}{Q Q':Exit->Act->World->Prop}(hq:∀e a w,Q e a w->Q' e a w):∀m a w,Code.rounds P c Q m a w->Code.rounds P c Q' m a w:=by
 intro m
 induction m with
 | zero=>intro a w h;exact h
 | succ m ih=>
  intro a w h;refine wp_mono (show c.wp P (Exit.then (Code.rounds P c Q m) Q) a w from h) λe a1 w1 h1=>?_
  cases e<;>first|exact ih _ _ h1|exact hq _ _ _ h1
theorem vN{r:ly}{ac:bA}{f:RC}{x:Code}{m:Nat}(hf:ij P ins kept n f x)(hr:s9 P kept n (r.code (.loop ac)) m x):s9 P kept n (Vr r ac f) (m+1) x:=by
 intro T D H nx o h ρ a w hH ha;obtain⟨o1,h1,h2⟩:=bn h;refine wp_mono (hf T D H nx o1 h1 ρ a w hH ha) λe a1 w1 hq=>?_
 exact uP (Q:=nt ρ H nx w kept n o) h2 (λst bO ρ1 a1 w1 g1 g2=>EG (λe a2 w2 hq=>.trans g1 hq) _ _ _ (hr _ _ _ _ o bO ρ1 a1 w1 g1.hr g2)) hq
theorem Ts{f:RC}{x:Code}{m:Nat}(h:s9 P kept n f m x):ij P ins kept n f (.loop x):=by
 intro T D H nx o hf ρ a w hH ha;exact wp_loop_rounds m (h T D H nx o hf ρ a w hH ha)
end
section
variable {P:Program}{ins kept:List Nat}{n:Nat}{A:aN}{rn:ly}
theorem EH{T:Tr Value}{p:Option (List Bool)}{v:Value}{k:Tr Value->R0}:N9 T p v k=k (match p with|none=>T|some p=>cA p T (some v)):=by
 cases p with
 | none=>rfl
 | some p=>exact cL p T (some v) k
theorem jR{p:Option (List Bool)}{k:RL}{T:Tr Value}{L:List Value}{D:List gf}{v:Value}{H:Heap}{nx:Nat} :
  bX P p [] k T L D v H nx=k (match p with|none=>T|some p=>cA p T (some v)) (v::L) D H nx:=by
 unfold bX;rw[EH];rfl
theorem map_map{α β γ:Type}(f:α->β)(g:β->γ)(a:cr α):(a.map f).map g=a.map (λx=>g (f x)):=by
 cases a<;>simp only[cr.map,List.map_map,Option.map_map]<;>rfl
theorem EI{env:Env}{T:Tr Value}{L:List Value}{a:cr Operand}{b:cr Od}(h:a.hZ (cv kept n env)=some b) :
  b.map (qS T L)=a.map (Av λx=>(kh T L ((cv kept n env x).getD (.loc 0))).getD undef):=by
 obtain⟨h1,_⟩:=jO (.loc 0) h;rw[h1,map_map];rfl
theorem Tt{ρ:bY}{env:Env}{T:Tr Value}{L:List Value}{a:cr Operand}{b:cr Od}{c:Act}(h:a.hZ (cv kept n env)=some b)(he:jQ ρ kept n env T L c) :
  a.all λx=>VR ρ ((kh T L ((cv kept n env x).getD (.loc 0))).getD undef) (c.eval x):=by
 obtain⟨_,h2⟩:=jO (.loc 0) h;refine ns (λx hx=>?_) h2;obtain⟨y,hy⟩:=hx;rw[hy];exact gA he hy
theorem LI{ρ:bY}{env:Env}{T:Tr Value}{L:List Value}{H:Heap}{nx:Nat}{w:World}{o:Oper}{a:cr Operand}{b:cr Od}{c:Act}{r:Ex×St}{k:KA}(hc:ar P ins o=some a)(hp:a.plain=true)(h:a.hZ (cv kept n env)=some b)(he:jQ ρ kept n env T L c)(hH:HR ρ H nx w.heap)(hr:cY b P T L H nx k=some r):Good P w ρ H nx r k (execOp c.eval o):=by
 have h1:=Jy (T':=T) (L':=L) hr;rw[EI h]at h1;exact uN hc hp (Tt h he) hH h1
theorem yg{ρ:bY}{env:Env}{T:Tr Value}{L:List Value}{c:Act}{ops:List Oper}{o:Oper}{g:Option (Nat×Bool)}(h:jM ops env o.guard=some g)(he:jQ ρ kept n env T L c) :
  Region.wanted o (yielded ops.toArray c.tmps)=wanted L g:=by
 unfold Region.wanted;cases hg:o.guard with
 | none=>rw[hg]at h;cases h;rfl
 | some p=>
  obtain⟨j,want⟩:=p;rw[hg]at h;simp only[jM]at h;cases hj:ops[j]? with
  | none=>rw[hj]at h;cases h
  | some q=>
   rw[hj]at h;simp only at h;cases hd:q.dst with
   | none=>rw[hd]at h;cases h
   | some t=>
    rw[hd]at h;simp only at h;cases hf:find env t with
    | none=>rw[hf]at h;cases h
    | some x=>
     rw[hf]at h;simp only[Option.map_eq_some_iff]at h;obtain⟨d,hx,rfl⟩:=h;have sV:x=.loc d:=by cases x<;>simp[D7]at hx;rw[hx]
     subst sV;have hv:=he.env t _ hf;show (yielded ops.toArray c.tmps j == some want)=D4 want (Lc L d);rw[wW];have yf:kh T L (.loc d)=L[d]?:=rfl;rw[yf]at hv;have hy:yielded ops.toArray c.tmps j=match c.tmps.getD t undef with | .bool b=>some b|_=>none:=by
      unfold yielded;simp only[List.getElem?_toArray,hj,Option.bind_some,hd,Array.getD_eq_getD_getElem?];cases c.tmps[t]? with
      | none=>rfl
      | some v=>cases v<;>rfl
     rw[hy];generalize c.tmps.getD t undef=u at hv;cases hL:L[d]? with
     | none=>
      rw[hL]at hv;have:u=undef:=by
       cases hv with
       | sc h=>rfl
       | tuple h=>cases h;rfl
      subst this;rfl
     | some v=>
      rw[hL]at hv;have lY:VR ρ v u:=hv;show _=rk want v;cases lY with
      | sc h=>cases u<;>first|rfl|(rename_i b;cases b<;>cases want<;>rfl)|(simp[scalar]at h)
      | any h=>cases u<;>first|rfl|(simp[xL]at h)
      | _=>rfl
end
section
variable {P:Program}{ins kept:List Nat}{n:Nat}{A:aN}{rn:ly}
def uQ(A:aN)(p:Option (List Bool))(ag:List cz)(k:RL)(r:Ex×St)(ρ:bY)(T:Tr Value)(L:List Value)(H:Heap)(nx:Nat)(w:World)(o:Oper)(c:Act)(next:Act->World->Prop):Prop:=
 ∀(v:Value) (H':Heap) (nx':Nat) (D':List gf) (ρ':bY) (u:Value) (w':World) (c':Act),bX A.P p ag k T L D' v H' nx'=some r->VR ρ' v u->lJ ρ H nx w ρ' H' nx' w'->je ρ' D' c'.defers->c'.tmps=c.tmps->next (c'.put o.dst u) w'
def td(r:Ex×St)(ρ:bY)(T:Tr Value)(D:List gf)(H:Heap)(nx:Nat)(w:World)(c:Act)(Q:Exit->Act->World->Prop):Prop:=
 ∀ch Ay ρ' H' nx' w',r=(.panic ch,⟨T,D,H',nx'⟩)->oV ρ' ch Ay->lJ ρ H nx w ρ' H' nx' w'->Q (.panic Ay) c w'
theorem lh{b:cr Od}(h:b.plain=true):uf b=eH:=by
 cases b<;>first|rfl|(simp[cr.plain]at h)|skip
theorem LJ{α β:Type}(f:α->β)(a:cr α):(a.map f).plain=a.plain:=by cases a<;>rfl
theorem OF{ρ:bY}{env:Env}{T:Tr Value}{L:List Value}{D:List gf}{H:Heap}{nx:Nat}{w:World}{o:Oper}{a:cr Operand}{b:cr Od}{c:Act}{r:Ex×St}{p:Option (List Bool)}{ag:List cz}{k:RL}{next:Act->World->Prop}{Q:Exit->Act->World->Prop}(hA:A.P=P)(hc:ar P ins o=some a)(hp:a.plain=true)(h:a.hZ (cv kept n env)=some b)(he:jQ ρ kept n env T L c)(hD:je ρ D c.defers)(hH:HR ρ H nx w.heap)(hr:uf b A rn p ag k b T L D H nx=some r)(hn:uQ A p ag k r ρ T L H nx w o c next):o.upon P c next Q ((execOp c.eval o).run P w):=by
 have hb:b.plain=true:=by
  rw[(jO (.loc 0) h).1,LJ];exact hp
 rw[lh hb]at hr;have qp:cY b P T L H nx (bX A.P p ag k T L D)=some r:=by rw[<-hA];exact hr
 obtain⟨v,H',nx',u,w',ρ',h1,h2,h3,h4,h5,h6,h7⟩:=LI hc hp h he hH qp;have oK:=hn v H' nx' D ρ' u w' c h1 h3 ⟨h4,h5,h6,h7⟩ (hD.mono h5.ext) rfl;rcases h2 with h2|⟨h2,rfl⟩
 ·rw[h2];exact oK
 ·rw[h2];exact oK
theorem rP{ρ:bY}{env:Env}{T:Tr Value}{L:List Value}{c:Act}(he:jQ ρ kept n env T L c):∀{xs:List Operand} {ys:List Od} {vs:List Value},jm (cv kept n env) xs=some ys->rq T L ys=some vs->dJ ρ vs (xs.map c.eval):=by
 intro xs
 induction xs with
 | nil=>intro ys vs h1 h2;cases h1;cases h2;exact .nil
 | cons x xs ih=>
  intro ys vs h1 h2;unfold jm at h1;cases hx:cv kept n env x with
  | none=>simp[hx]at h1
  | some y=>
   cases hxs:jm (cv kept n env) xs with
   | none=>simp[hx,hxs]at h1
   | some ys'=>
    simp[hx,hxs]at h1;subst h1;unfold rq at h2;cases hv:kh T L y with
    | none=>simp[hv]at h2
    | some v=>
     cases mS:rq T L ys' with
     | none=>simp[hv,mS]at h2
     | some Vv=>
      simp[hv,mS]at h2;subst h2;have:=gA he hx;rw[hv]at this;exact .cons this (ih hxs mS)
theorem EJ{ρ:bY}{T:Tr Value}{L:List Value}{D:List gf}{H:Heap}{nx:Nat}{w:World}{o:Oper}{c:Act}{r:Ex×St}{p:Option (List Bool)}{ag:List cz}{k:RL}{g:FuncId}{vs us:List Value}{next:Act->World->Prop}{Q:Exit->Act->World->Prop}(dt:ig P rn)(hD:je ρ D c.defers)(hH:HR ρ H nx w.heap)(mS:dJ ρ vs us)(hr:bd (rn.call g vs H nx) (ew A.P p ag k T L D)=some r)(he:(execOp c.eval o).run P w=(callFunc g ⟨us⟩).run P w)(hn:uQ A p ag k r ρ T L H nx w o c next)(hq:td r ρ T D H nx w c Q):o.upon P c next Q ((execOp c.eval o).run P w):=by
 obtain⟨ret,h1,h2⟩:=bn hr;obtain⟨qU,kI⟩:=dt g vs H nx ret h1;rw[he,qU.run,Oper.upon_enter];refine(kI ρ us w mS hH).mono λe w' jf=>?_
 cases ret with
 | ok v H' nx'=>
  obtain⟨u,ρ',rfl,hv,hw⟩:=jf;exact hn v H' nx' D ρ' u w' c h2 hv hw (hD.mono hw.iw.ext) rfl
 | rE ch H' nx'=>
  obtain⟨Ay,ρ',rfl,sy,hw⟩:=jf;have h3:some (Ex.panic ch,(⟨T,D,H',nx'⟩:St))=some r:=h2;cases h3;exact hq ch Ay ρ' H' nx' w' rfl sy hw
theorem Tu{ρ:bY}{env:Env}{T:Tr Value}{L:List Value}{D:List gf}{H:Heap}{nx:Nat}{w:World}{o:Oper}{d:Call}{f:Operand}{f':Od}{kn:List Od}{c:Act}{r:Ex×St}{p:Option (List Bool)}{ag:List cz}{k:RL}{next:Act->World->Prop}{Q:Exit->Act->World->Prop}(dt:ig P rn)(ho:o.op=.call d)(HG:d.callee=.value f)(hf:cv kept n env f=some f')(cF:jm (cv kept n env) d.args.toList=some kn)(he:jQ ρ kept n env T L c)(hD:je ρ D c.defers)(hH:HR ρ H nx w.heap)(hr:uf (.call f' kn) A rn p ag k (.call f' kn) T L D H nx=some r)(hn:uQ A p ag k r ρ T L H nx w o c next)(hq:td r ρ T D H nx w c Q):o.upon P c next Q ((execOp c.eval o).run P w):=by
 have qp:bI T L f' (λf=>dN T L kn λvs=>gO vs (λg vs=>bd (rn.call g vs H nx) (ew A.P p ag k T L D)) f)=some r:=hr;rw[dd]at qp;obtain⟨fv,yh,h1⟩:=bn qp;rw[eT]at h1;obtain⟨vs,mS,h2⟩:=bn h1;have hvf:=gA he hf;rw[yh]at hvf;have hva:=rP he cF mS;unfold gO at h2;split at h2
 ·rename_i g first captured
  have OG:VR ρ (.func (.func g) first captured) (c.eval f):=hvf;generalize hu:c.eval f=u at OG;cases OG with
  | sc h=>simp[scalar]at h
  | @func _ a a' q q' h3 h4=>
   refine EJ dt hD hH (vs:=a++vs++q) (us:=a'++d.args.toList.map c.eval++q') ((h3.append hva).append h4) h2 ?_ hn hq;simp only[execOp,ho,resolve,HG,hu,Deferred.ofValue,Sem.run_bind,Sem.run_pure,Result.andThen_ok,invoke]
   congr 2
   apply Array.ext';simp
 ·cases h2
theorem Xd{ρ:bY}{env:Env}{T:Tr Value}{L:List Value}{D:List gf}{H:Heap}{nx:Nat}{w:World}{o:Oper}{x:Operand}{x':Od}{c:Act}{r:Ex×St}{p:Option (List Bool)}{ag:List cz}{k:RL}{next:Act->World->Prop}{Q:Exit->Act->World->Prop}(ho:o.op=.panic x)(hx:cv kept n env x=some x')(he:jQ ρ kept n env T L c)(hH:HR ρ H nx w.heap)(hr:uf (.rE x') A rn p ag k (.rE x') T L D H nx=some r)(hq:td r ρ T D H nx w c Q):o.upon P c next Q ((execOp c.eval o).run P w):=by
 have qp:bI T L x' (D6 T D H nx)=some r:=hr;rw[dd]at qp;obtain⟨v,hv,h1⟩:=bn qp;have HH:=gA he hx;rw[hv]at HH;unfold D6 at h1;split at h1
 ·rename_i t v;have OH:VR ρ (.iface t v) (c.eval x):=HH;generalize hu:c.eval x=u at OH;cases OH with
  | sc h=>simp[scalar]at h
  | @iface _ _ u' lY=>
   cases h1;have fT:(execOp c.eval o).run P w=.halt (.panic (.iface t u')) w:=by
    simp only[execOp,ho,hu];rfl
   rw[fT,Oper.upon_panic];exact hq _ _ ρ H nx w rfl (.cons (.iface lY) rfl rfl .nil) (.refl hH)
 ·cases h1
theorem Xe{ρ:bY}{env:Env}{T:Tr Value}{L:List Value}{D:List gf}{H:Heap}{nx:Nat}{w:World}{o:Oper}{d:Call}{f:Operand}{f':Od}{kn:List Od}{c:Act}{r:Ex×St}{p:Option (List Bool)}{ag:List cz}{k:RL}{next:Act->World->Prop}{Q:Exit->Act->World->Prop}(ho:o.op=.defer d)(HG:d.callee=.value f)(hf:cv kept n env f=some f')(cF:jm (cv kept n env) d.args.toList=some kn)(he:jQ ρ kept n env T L c)(hD:je ρ D c.defers)(hH:HR ρ H nx w.heap)(hr:uf (.sx f' kn) A rn p ag k (.sx f' kn) T L D H nx=some r)(hn:uQ A p ag k r ρ T L H nx w o c next):o.upon P c next Q ((execOp c.eval o).run P w):=by
 have qp:bI T L f' (λf=>dN T L kn λvs=>uz f (bX A.P p ag k T L ((f,vs)::D) undef H nx))=some r:=hr;rw[dd]at qp;obtain⟨fv,yh,h1⟩:=bn qp;rw[eT]at h1;obtain⟨vs,mS,h2⟩:=bn h1;have hvf:=gA he hf;rw[yh]at hvf;have hva:=rP he cF mS;unfold uz at h2;split at h2
 ·rename_i g first captured
  have OG:VR ρ (.func (.func g) first captured) (c.eval f):=hvf;generalize hu:c.eval f=u at OG;cases OG with
  | sc h=>simp[scalar]at h
  | @func _ a a' q q' h3 h4=>
   have fT:(execOp c.eval o).run P w=.ok (.defer { target:=.fn (.func g) ⟨q'⟩,args:=⟨a'++d.args.toList.map c.eval⟩ }) w:=by
    simp only[execOp,ho,resolve,HG,hu,Deferred.ofValue,Sem.run_bind,Sem.run_pure,Result.andThen_ok]
    congr 3
    apply Array.ext';simp
   rw[fT,Oper.upon_defer];exact hn undef H nx _ ρ undef w { c with defers:=_::c.defers } h2 .undef (.refl hH) (.cons ⟨g,a,a',q,q',_,rfl,rfl,h3,h4,hva⟩ hD) rfl
 ·cases h2
end
section
variable {P:Program}{ins kept:List Nat}{n:Nat}{A:aN}{rn:ly}{ρ:bY}{H:Heap}{nx:Nat}{w:World}{r:Ex×St}
theorem HI(t:TypeId):Cb P t=sL P t:=rfl
theorem EK{α:Type}(p:α->Bool)(a:Array α):a.find? p=a.toList.find? p:=by simp
theorem Cy{fuel:Nat}{t:TypeId}{v u:Value}{name:String}{m:FuncId×Option (Option Nat)}{k:Value->R0}(hH:HR ρ H nx w.heap)(hv:VR ρ v u)(hm:methodOf P t name=some m)(hr:D5 H v m.2 k=some r) :
  ∃x y,k x=some r/\(method (fuel+1) t u name).run P w=.ok (m.1,y) w/\VR ρ x y:=by
 unfold methodOf at hm;split at hm
 ·rename_i i hi;split at hm
  ·rename_i q hq;have iE:i.methods.find? (·.name == name)=some q:=by rw[EK];exact hq
   cases hp:q.path.isEmpty with
   | false=>rw[hp]at hm;cases hm
   | true=>
    rw[hp]at hm;simp only[cond_true]at hm;have OI:q.path.toList=[]:=by
     have:q.path=#[]:=by simpa using hp
     rw[this]
    have hti:(typeInfo t).run P w=.ok i w:=np hi;split at hm
    ·rename_i f e hf hu;cases hm;refine⟨v,u,hr,?_,hv⟩;simp only[method,Sem.run_bind,hti,Result.andThen_ok,iE,OI,follow,Sem.run_pure,hf,receiverAt,run_underlying hu,Place.get]
    ·rename_i f e hf hu;cases hg:Cb P e with
     | none=>simp[hg]at hm
     | some g=>
      simp[hg]at hm;subst hm;have qp:(dU v λb o=>db H b λcs=>bd (partOf cs o g) k)=some r:=hr;obtain⟨b,o,rfl,h1⟩:=lF qp;obtain⟨cs,xb,hb,SA,h2⟩:=pz h1;obtain⟨x,hx,h3⟩:=bn h2;obtain⟨s,hs,rfl⟩:=hv.sT;obtain⟨s',fD,zO⟩:=hH.blk b _ hb;have zO:=SA _ _ _ zO;rw[hs]at fD;cases fD
      obtain⟨y,hy,oT⟩:=xP (w:=w) (HI e ▸ hg) zO hx;refine⟨x,y,h3,?_,oT⟩;simp only[method,Sem.run_bind,hti,Result.andThen_ok,iE,OI,follow,Sem.run_pure,hf,receiverAt,run_underlying hu,Place.get];have JE:∀nm:String,(Builtin.ssaWrapNilChk_ #[t] t #[.pointer (some ⟨s.blk,s.sh+o,none⟩),strVal "",strVal nm]).run P w=.ok (.pointer (some ⟨s.blk,s.sh+o,none⟩)) w:=λ_=>rfl
      have has:(asAddr (.pointer (some ⟨s.blk,s.sh+o,none⟩))).run P w=.ok ⟨s.blk,s.sh+o,none⟩ w:=rfl;simp only[hp,if_true,Sem.run_bind,JE,has,Result.andThen_ok,hy,Sem.run_pure]
    ·rename_i f d hn hf hu;cases hm;refine⟨v,u,hr,?_,hv⟩;simp only[method,Sem.run_bind,hti,Result.andThen_ok,iE,OI,follow,Sem.run_pure,hf,receiverAt,run_underlying hu,Place.get]
    ·cases hm
  ·cases hm
 ·cases hm
theorem Xf{env:Env}{T:Tr Value}{L:List Value}{D:List gf}{o:Oper}{d:Call}{x:Operand}{name:String}{x':Od}{kn:List Od}{c:Act}{p:Option (List Bool)}{ag:List cz}{k:RL}{next:Act->World->Prop}{Q:Exit->Act->World->Prop}(hA:A.P=P)(dt:ig P rn)(ho:o.op=.call d)(HG:d.callee=.invoke x name)(hx:cv kept n env x=some x')(cF:jm (cv kept n env) d.args.toList=some kn)(he:jQ ρ kept n env T L c)(hD:je ρ D c.defers)(hH:HR ρ H nx w.heap)(hr:uf (.inv x' name kn) A rn p ag k (.inv x' name kn) T L D H nx=some r)(hn:uQ A p ag k r ρ T L H nx w o c next)(hq:td r ρ T D H nx w c Q):o.upon P c next Q ((execOp c.eval o).run P w):=by
 have qp:bI T L x' (λx=>dN T L kn λvs=>qR A.P name H (λg v=>bd (rn.call g (v::vs) H nx) (ew A.P p ag k T L D)) x)=some r:=hr;rw[dd]at qp;obtain⟨xv,hxv,h1⟩:=bn qp;rw[eT]at h1;obtain⟨vs,mS,h2⟩:=bn h1;have HH:=gA he hx;rw[hxv]at HH;have hva:=rP he cF mS;unfold qR at h2;split at h2
 ·rename_i t v;obtain⟨m,hm,h3⟩:=bn h2;rw[hA]at hm;have OH:VR ρ (.iface t v) (c.eval x):=HH;generalize hu:c.eval x=u at OH;cases OH with
  | sc h=>simp[scalar]at h
  | @iface _ _ u' lY=>
   have hd:0<Made.depth:=by decide
   have abc:∃q,P.types.size+Made.depth=q+1:=⟨P.types.size+Made.depth-1,V⟩;obtain⟨q,iE⟩:=abc;obtain⟨y,z,h4,h5,h6⟩:=Cy (w:=w) (fuel:=q) hH lY hm h3;refine EJ dt hD hH (vs:=y::vs) (us:=z::d.args.toList.map c.eval) (.cons h6 hva) h4 ?_ hn hq;have hp:(program).run P w=.ok P w:=rfl;simp only[execOp,ho,resolve,HG,hu,Sem.run_bind,Sem.run_pure,Result.andThen_ok,invoke];have rL:(#[Value.iface t u']++d.args.map c.eval)[0]?=some (.iface t u'):=by rw[Array.getElem?_append_left (by simp)];rfl
   simp only[rL,callMethod,Sem.run_bind,hp,Result.andThen_ok,iE,h5]
   congr 2
   apply Array.ext';simp;rw[NX (by simp)]
 ·cases h2
end
section
variable {P:Program}{ins kept:List Nat}{n:Nat}{A:aN}{rn:ly}{ρ:bY}{H:Heap}{nx:Nat}{w:World}{r:Ex×St}
def abd(o:Oper):cr Operand->Prop
 | .call f args=>∃d,o.op=.call d/\d.callee=.value f/\args=d.args.toList
 | .inv x name args=>∃d,o.op=.call d/\d.callee=.invoke x name/\args=d.args.toList
 | .sx f args=>∃d,o.op=.defer d/\d.callee=.value f/\args=d.args.toList
 | .rE x=>o.op=.panic x
 | _=>True
theorem qV{b:Builtin}{ts:Array TypeId}{args:Array Operand}{o:Oper}{a:cr Operand}(h:dh P b ts args=some a):abd o a:=by
 unfold dh at h
 repeat' split at h
 all_goals first
  | (cases h;done)
  | (cases h;trivial)
  | (revert h;generalize Nat.beq _ _=q;intro h;cases q<;>first|(cases h;done)|(cases h;trivial))
theorem ey{α:Type}{c:Bool}{x:Option α}{a:α}(h:(bif c then x else none)=some a):x=some a:=by
 cases c
 ·cases h
 ·exact h
theorem tf{o:Oper}{a:cr Operand}(h:ar P ins o=some a):abd o a:=by
 cases ho:o.op with
 | call d=>
  simp only[ar,ho]at h;cases hc:d.callee with
  | builtin b=>simp only[hc]at h;exact qV h
  | invoke x name=>simp only[hc]at h;cases h;exact⟨d,ho,hc,rfl⟩
  | value f=>
   cases f with
   | func g=>
    simp only[hc]at h;cases hg:eI ins g with
    | true=>
     rw[hg]at h;simp only[cond_true]at h
     repeat' split at h
     all_goals first|(cases h;done)|(cases h;trivial)
    | false=>rw[hg]at h;cases h;exact⟨d,ho,hc,rfl⟩
   | _=>simp only[hc]at h;cases h;exact⟨d,ho,hc,rfl⟩
 | defer d=>
  simp only[ar,ho]at h;split at h
  ·rename_i f hc;cases h;exact⟨d,ho,hc,rfl⟩
  ·cases h
 | panic x=>simp only[ar,ho]at h;cases h;exact ho
 | binOp op t x y q=>
  simp only[ar,ho,jK]at h
  repeat' split at h
  all_goals first
   | (cases h;done)
   | (cases h;trivial)
   | (revert h;generalize(ef x||ef y)=q;intro h;cases q<;>first|(cases h;done)|(cases h;trivial))
 | makeFunc fn xs ys=>
  cases fn with
  | func f=>simp only[ar,ho]at h;cases h;trivial
  | _=>simp only[ar,ho]at h;cases h
 | next x q=>
  cases q with
  | false=>simp only[ar,ho]at h;cases h;trivial
  | true=>simp only[ar,ho]at h;cases h
 | _=>
  unfold ar at h;rw[ho]at h;simp only at h
  repeat' split at h
  all_goals first
   | (cases h;done)
   | (cases h;trivial)
   | (simp only[Option.map_eq_some_iff]at h;obtain⟨_,_,rfl⟩:=h;trivial)
   | (have h:=ey h;first|(cases h;trivial)|(simp only[Option.map_eq_some_iff]at h;obtain⟨_,_,rfl⟩:=h;trivial))
theorem yi{v:Value}{k:Nat->R0}{r:Ex×St}(h:pj v k=some r):∃n,v=.int .i64 (.ofNat n)/\k n=some r:=by
 unfold pj at h;split at h
 ·exact⟨_,rfl,h⟩
 ·cases h
def ri(P:Program)(ins:List Nat):Prop:=∀o z bytes s i v,ar P ins o=some (.ins z bytes s i v)->∀(ρ:bY) (H:Heap) (nx:Nat) (w:World) (sv iv vv:Value) (c:Act),VR ρ sv (c.eval s)->VR ρ iv (c.eval i)->VR ρ vv (c.eval v)->HR ρ H nx w.heap->
 ∀(k:KA) (r:Ex×St),(pj iv λi=>Hi z bytes H nx k i sv vv)=some r->
  ∃g us,(execOp c.eval o).run P w=.ok (.enter g us) w/\Calls P g us w λe w'=>∃x H' nx' u ρ',k x H' nx'=some r/\e=.returned u/\VR ρ' x u/\lJ ρ H nx w ρ' H' nx' w'
theorem OJ{env:Env}{T:Tr Value}{L:List Value}{D:List gf}{o:Oper}{a:cr Operand}{b:cr Od}{c:Act}{p:Option (List Bool)}{ag:List cz}{k:RL}{next:Act->World->Prop}{Q:Exit->Act->World->Prop}(hA:A.P=P)(dt:ig P rn)(tg:ri P ins)(hc:ar P ins o=some a)(h:a.hZ (cv kept n env)=some b)(he:jQ ρ kept n env T L c)(hD:je ρ D c.defers)(hH:HR ρ H nx w.heap)(hr:uf b A rn p ag k b T L D H nx=some r)(hn:uQ A p ag k r ρ T L H nx w o c next)(hq:td r ρ T D H nx w c Q):o.upon P c next Q ((execOp c.eval o).run P w):=by
 by_cases hp:a.plain=true
 ·exact OF hA hc hp h he hD hH hr hn
 ·have EL:=tf hc;cases a with
  | call f args=>
   obtain⟨d,g1,g2,g3⟩:=EL;simp only[cr.hZ]at h;split at h
   ·rename_i f' kn hf cF;cases h;subst g3;exact Tu dt g1 g2 hf cF he hD hH hr hn hq
   ·cases h
  | inv x name args=>
   obtain⟨d,g1,g2,g3⟩:=EL;simp only[cr.hZ]at h;split at h
   ·rename_i x' kn hx cF;cases h;subst g3;exact Xf hA dt g1 g2 hx cF he hD hH hr hn hq
   ·cases h
  | sx f args=>
   obtain⟨d,g1,g2,g3⟩:=EL;simp only[cr.hZ]at h;split at h
   ·rename_i f' kn hf cF;cases h;subst g3;exact Xe g1 g2 hf cF he hD hH hr hn
   ·cases h
  | rE x=>
   simp only[cr.hZ]at h;split at h
   ·rename_i x' hx;cases h;exact Xd EL hx he hH hr hq
   ·cases h
  | AX=>
   simp only[cr.hZ]at h;cases h;cases hr
  | ins z bytes s i v=>
   simp only[cr.hZ]at h;split at h
   ·rename_i s' i' v' hs hi hv;cases h;have qp:bI T L s' (λs=>bI T L i' λi=>pj i λi=>bI T L v' λv=>Hi z bytes H nx (bX A.P p ag k T L D) i s v)=some r:=hr;rw[dd]at qp;obtain⟨sv,hsv,h1⟩:=bn qp;rw[dd]at h1;obtain⟨iv,hiv,h2⟩:=bn h1;obtain⟨m,rfl,h3⟩:=yi h2;rw[dd]at h3;obtain⟨vv,hvv,h4⟩:=bn h3;have r1:=gA he hs;have r2:=gA he hi;have r3:=gA he hv;rw[hsv]at r1;rw[hiv]at r2;rw[hvv]at r3;obtain⟨g,us,q1,q2⟩:=tg o z bytes s i v hc ρ H nx w sv _ vv c r1 r2 r3 hH (bX A.P p ag k T L D) r h4;rw[q1,Oper.upon_enter];refine q2.mono λe w' jf=>?_
    obtain⟨x,H',nx',u,ρ',h5,rfl,h6,h7⟩:=jf;exact hn x H' nx' D ρ' u w' c h5 h6 h7 (hD.mono h7.iw.ext) rfl
   ·cases h
  | _=>exact absurd rfl hp
end
section
variable {P:Program}{T:Tr Value}{L:List Value}{H:Heap}{nx:Nat}
def Det{X:Type}(F:(X->R0)->R0):Prop:=∀k r,F k=some r->∃x,k x=some r/\∀k',F k'=k' x
def cj{X:Type}(p:X->Prop)(F:(X->R0)->R0):Prop:=∀k r,F k=some r->∃x,k x=some r/\(∀k',F k'=k' x)/\p x
theorem cj.det{X:Type}{p:X->Prop}{F:(X->R0)->R0}(h:cj p F):Det F:=λk r hr=>let ⟨x,h1,h2,_⟩:=h k r hr;⟨x,h1,h2⟩
section comb
variable {X α:Type}{p:X->Prop}
theorem cj.ret(x:X)(hp:p x):cj p λk=>k x:=λ_ _ h=>⟨x,h,λ_=>rfl,hp⟩
theorem cj.no:cj p λ_=>none:=λ_ _ h=>by cases h
theorem cj.bd{o:Option α}{F:α->(X->R0)->R0}(h:∀a,cj p (F a)):cj p λk=>bd o λa=>F a k:=by
 cases o with
 | none=>exact .no
 | some a=>exact h a
theorem cj.ev{x:Od}{F:Value->(X->R0)->R0}(h:∀a,cj p (F a)):cj p λk=>bI T L x λa=>F a k:=by
 intro k r hr;simp only[dd]at hr ⊢;exact cj.bd h k r hr
theorem cj.Az{xs:List Od}{F:List Value->(X->R0)->R0}(h:∀a,cj p (F a)):cj p λk=>dN T L xs λa=>F a k:=by
 intro k r hr;simp only[eT]at hr ⊢;exact cj.bd h k r hr
theorem cj.parts{xs:List (Nat×Nat×Od)}{F:List (Nat×Nat×Value)->(X->R0)->R0}(h:∀a,cj p (F a)):cj p λk=>eX T L xs λa=>F a k:=by
 intro k r hr;simp only[A4]at hr ⊢;exact cj.bd h k r hr
theorem cj.cond{c:Bool}{F G:(X->R0)->R0}(h:cj p F)(h':cj p G):cj p λk=>cond c (F k) (G k):=by
 cases c
 ·exact h'
 ·exact h
theorem cj.nat{v:Value}{F:Nat->(X->R0)->R0}(h:∀a,cj p (F a)):cj p λk=>dp v λa=>F a k:=by
 unfold dp;split
 ·exact h _
 ·exact .no
theorem cj.i64{v:Value}{F:Nat->(X->R0)->R0}(h:∀a,cj p (F a)):cj p λk=>pj v λa=>F a k:=by
 unfold pj;split
 ·exact h _
 ·exact .no
theorem cj.agg{v:Value}{F:List Value->(X->R0)->R0}(h:∀a,cj p (F a)):cj p λk=>rj v λa=>F a k:=by
 unfold rj;split
 ·exact h _
 ·exact .no
theorem cj.ptr{v:Value}{F:Nat->Nat->(X->R0)->R0}(h:∀a b,cj p (F a b)):cj p λk=>dU v λa b=>F a b k:=by
 unfold dU;split
 ·exact h _ _
 ·exact .no
theorem cj.sl{v:Value}{F:Nat->Nat->Nat->Nat->Nat->(X->R0)->R0}(h:∀a b c d e,cj p (F a b c d e)):cj p λk=>wD v λa b c d e=>F a b c d e k:=by
 unfold wD;split
 ·exact h _ _ _ _ _
 ·exact .no
theorem cj.bool{v:Value}{F G:(X->R0)->R0}(h:cj p F)(h':cj p G):cj p λk=>hY v (F k) (G k):=by
 unfold hY;split
 ·exact .cond h h'
 ·exact .no
theorem cj.cells{b:Nat}{F:List Value->(X->R0)->R0}(h:∀a,cj p (F a)):cj p λk=>eY H b λa=>F a k:=by
 unfold eY wV;cases ah H (at_ b)with
 | none=>exact .no
 | some x=>cases x with
  | cells cs=>exact h _
  | map es c=>exact .no
  | ro cs=>exact .no
  | iter _ _ _ _=>exact .no
theorem cj.db{b:Nat}{F:List Value->(X->R0)->R0}(h:∀a,cj p (F a)):cj p λk=>db H b λa=>F a k:=by
 unfold Eng.db onRead;cases ah H (at_ b)with
 | none=>exact .no
 | some x=>cases x with
  | cells cs=>exact h _
  | map es c=>exact .no
  | ro cs=>exact h _
  | iter _ _ _ _=>exact .no
theorem cj.LM{b:Option jb}{F:List MapEntry->Nat->(X->R0)->R0}(h:∀a c,cj p (F a c)):cj p λk=>jI b λa c=>F a c k:=by
 unfold jI;cases b with
 | none=>exact .no
 | some x=>cases x with
  | cells cs=>exact .no
  | map es c=>exact h _ _
  | ro cs=>exact .no
  | iter _ _ _ _=>exact .no
theorem cj.iter{b:Option jb}{F:Option Nat->Nat->List Nat->Nat->(X->R0)->R0}(h:∀a c d e,cj p (F a c d e)):cj p λk=>po b λa c d e=>F a c d e k:=by
 unfold po;split
 ·exact h _ _ _ _
 ·exact .no
theorem cj.map{m:Value}{F:Nat->List MapEntry->Nat->(X->R0)->R0}(h:∀a b c,cj p (F a b c)):cj p λk=>Ag H m λa b c=>F a b c k:=by
 unfold Ag;split
 ·exact .LM λ_ _=>h _ _ _
 ·exact .no
theorem cj.opt{x:Option Od}{d:Nat}{F:Nat->(X->R0)->R0}(h:∀a,cj p (F a)):cj p λk=>jd T L x d λa=>F a k:=by
 cases x with
 | none=>exact h d
 | some x=>exact .ev λ_=>.nat h
theorem cj.Hg{x:Option Od}{F:Option Value->(X->R0)->R0}(h:∀a,cj p (F a)):cj p λk=>D1 T L x λa=>F a k:=by
 cases x with
 | none=>exact h none
 | some x=>exact .ev λ_=>h _
theorem cj.set{pp:List Bool}{H:Heap}{b:Option jb}{F:Heap->(X->R0)->R0}(h:∀a,cj p (F a)):cj p λk=>eQ pp H b λa=>F a k:=by
 intro k r hr;simp only[cL]at hr ⊢;exact h _ k r hr
theorem cj.oi{o:Option Nat}{F:(X->R0)->R0}{G:Nat->(X->R0)->R0}(h:cj p F)(h':∀a,cj p (G a)):cj p λk=>Option.rec (F k) (λa=>G a k) o:=by
 cases o with
 | none=>exact h
 | some a=>exact h' a
end comb
theorem OL{p:Value->Prop}(hp:∀v,p v){mx:Option Od}{b o z l h c:Nat}:cj p λk=>La T L mx k b o z l h c:=by
 unfold La;cases mx with
 | none=>exact .ret _ (hp _)
 | some m=>exact .ev λ_=>.nat λ_=>.cond (.ret _ (hp _)) .no
theorem HJ{p:Value->Prop}(hp:∀v,p v)(a:cr Od):cj p λk=>e7 a P T L H k:=by
 cases a with
 | ai x=>exact .ev λ_=>.ret _ (hp _)
 | pick c x y=>exact .ev λ_=>.bool (.ev λ_=>.ret _ (hp _)) (.ev λ_=>.ret _ (hp _))
 | aA x=>exact .ev λ_=>by unfold xC;split<;>first|exact .ret _ (hp _)|exact .no
 | ext x i=>
  exact .ev λ_=>by
   unfold N4;split
   ·intro k r hr;simp only[nU]at hr ⊢;exact cj.bd (F:=λv k=>k v) (λ_=>.ret _ (hp _)) k r hr
   ·exact .no
 | Ad x off agg=>exact .ev λ_=>.agg λ_=>.bd λ_=>.ret _ (hp _)
 | aI x off=>exact .ev λ_=>.ptr λ_ _=>.ret _ (hp _)
 | aK x i z=>exact .ev λ_=>.ev λ_=>.nat λ_=>.sl λ_ _ _ _ _=>.cond (.ret _ (hp _)) .no
 | nO x i n z=>exact .ev λ_=>.ev λ_=>.nat λ_=>.ptr λ_ _=>.cond (.ret _ (hp _)) .no
 | ix x i n z agg=>exact .ev λ_=>.ev λ_=>.nat λ_=>.agg λ_=>.cond (.bd λ_=>.ret _ (hp _)) .no
 | bin op t x y=>
  exact .ev λu=>.ev λv=>by
   unfold jl;cases Ae op u v with
   | none=>exact .bd λ_=>.ret _ (hp _)
   | some x=>exact .ret _ (hp _)
 | un op x=>exact .ev λ_=>.bd λ_=>.ret _ (hp _)
 | AV s d x=>exact .ev λ_=>.bd λ_=>.ret _ (hp _)
 | ur mn xs=>exact .Az λ_=>.bd λ_=>.ret _ (hp _)
 | Nn t x i=>exact .ev λ_=>.ev λ_=>.bd λ_=>.ret _ (hp _)
 | Hg t x lo hi=>exact .ev λ_=>.Hg λ_=>.Hg λ_=>.bd λ_=>.ret _ (hp _)
 | eP neg kd x y=>exact .ev λ_=>.ev λ_=>.bd λ_=>.bd λ_=>.cond (.ret _ (hp _)) .no
 | fR zero parts=>exact .parts λ_=>.bd λ_=>.ret _ (hp _)
 | B8 fn first cap=>exact .Az λ_=>.Az λ_=>.ret _ (hp _)
 | Hh t x=>exact .ev λ_=>.ret _ (hp _)
 | K9 x t zero ok=>
  exact .ev λv=>by
   unfold SX;split
   ·exact .cond (.ret _ (hp _)) .no
   ·exact .cond (.ret _ (hp _)) (.cond (.ret _ (hp _)) .no)
   ·exact .no
 | an x agg=>exact .ev λ_=>.ptr λ_ _=>.db λ_=>.bd λ_=>.ret _ (hp _)
 | len x=>exact .ev λv=>by unfold N6;split<;>first|exact .ret _ (hp _)|exact .no
 | GU x=>
  exact .ev λv=>by
   unfold Ce;split
   ·exact .ret _ (hp _)
   ·exact .LM λ_ _=>.ret _ (hp _)
   ·exact .no
 | No x=>exact .ev λv=>by unfold N7;split<;>first|exact .ret _ (hp _)|exact .no
 | cap x=>
  exact .ev λv=>by
   unfold D3;split
   ·exact .ret _ (hp _)
   ·exact .cond (.ret _ (hp _)) (.ret _ (hp _))
   ·exact .no
 | lx x lo hi mx z=>
  exact .ev λv=>by
   unfold Ah;split
   ·exact .opt λ_=>.opt λ_=>.cond (.ret _ (hp _)) .no
   ·exact .opt λ_=>.opt λ_=>.cond (.ret _ (hp _)) .no
   ·exact .opt λ_=>.opt λ_=>.cond (OL hp) .no
   ·exact .no
 | N0 x lo hi n z=>exact .ev λ_=>.ptr λ_ _=>.opt λ_=>.opt λ_=>.cond (.ret _ (hp _)) .no
 | AW x key kt zero ok=>
  exact .ev λm=>.ev λkey=>by
   unfold Cf;split
   ·exact .cond (.bd λ_=>.ret _ (hp _)) .no
   ·exact .LM λ_ _=>.bd λi=>.oi (.ret _ (hp _)) λ_=>.bd λ_=>.ret _ (hp _)
   ·exact .no
 | _=>exact .no
theorem bC(a:cr Od):Det λk=>e7 a P T L H k:=(HJ (p:=λ_=>True) (λ_=>trivial) a).det
abbrev VHN:=Value×Heap×Nat
def uk(k:VHN->R0):KA:=λv H nx=>k (v,H,nx)
def up(nx:Nat)(x:VHN):Prop:=nx<=x.2.2
theorem cu(f:LK)(h:Det λk=>f P T L H k):cj (up nx) λk=>eS f P T L H nx (uk k):=by
 intro k r hr;obtain⟨x,h1,h2⟩:=h _ r hr;exact⟨(x,H,nx),h1,λk'=>h2 _,au _⟩
theorem nu{v:Value}{cs:List Value}:cj (up nx) λk=>fresh H nx v (uk k) cs:=.set λ_=>.ret _ (cE _)
theorem pC{b:Nat}{v:Value}{cs:List Value}:cj (up nx) λk=>oR H nx b v (uk k) cs:=.set λ_=>.ret _ (au _)
theorem lK{z bytes len n:Nat}{old new:List Value}:cj (up nx) λk=>eG z bytes H nx (uk k) len n old new:=.cond nu .no
theorem JK{X:Type}{p:X->Prop}{z:Nat}{v:Value}{F:Nat->List Value->(X->R0)->R0}(h:∀a b,cj p (F a b)):cj p λk=>kO H z (λa b=>F a b k) v:=by
 unfold kO;split
 ·exact h _ _
 ·exact h _ _
 ·exact .cond (.cond (h _ _) (.db λ_=>.bd λ_=>h _ _)) .no
 ·exact .no
theorem HK{p:VHN->Prop}{v:Value}{F:List Value->(VHN->R0)->R0}(h:∀l,cj p (F l)):∀(l:List Value) (o:Nat) (G:List Value->List Value),cj p λk=>xD l o v λl=>F (G l) k:=by
 intro l
 induction l with
 | nil=>intro o G;exact .no
 | cons c l ih=>
  intro o G;cases o with
  | zero=>exact h _
  | succ o=>exact ih o λl=>G (c::l)
theorem EM{z bytes n:Nat}{s:Value}{new:List Value}:cj (up nx) λk=>uy z bytes H nx (uk k) s n new:=by
 unfold uy;split
 ·exact .cond (.ret _ (au _)) (.cond lK .no)
 ·exact .cond (.cond (.ret _ (au _)) (.cond (.cells λ_=>.bd λ_=>pC) (.cells λ_=>.bd λ_=>.cond lK (.set λ_=>lK)))) .no
 ·exact .no
theorem nw(a:cr Od):cj (up nx) λk=>cY a P T L H nx (uk k):=by
 cases a with
 | box x=>exact .ev λ_=>nu
 | gM zero=>exact nu
 | mO z bytes zero l c=>exact .ev λ_=>.nat λ_=>.ev λ_=>.nat λ_=>.cond nu .no
 | fC z len zero parts=>exact .parts λ_=>.bd λ_=>.cond nu .no
 | Np x=>exact .opt (d:=0) (F:=λ_ k=>eQ (at_ nx) H (some (jb.map [] 0)) λH=>k (Value.map (some nx),H,Nat.succ nx)) λ_=>.set λ_=>.ret _ (cE _)
 | bE x v n=>
  exact .ev λ_=>.ev λv=>.ptr λb o=>.cond (.cells λold=>by
   unfold SZ;cases cellsOf v with
   | nil=>exact .no
   | cons c r=>
    cases r with
    | nil=>exact HK (F:=λl k=>oR H nx b undef (uk k) l) (λl=>pC) old o id
    | cons c2 r=>exact .bd λ_=>pC) .no
 | app z bytes zero s x fS=>
  exact .ev λs=>.ev λx=>by
   unfold Cg;cases fS with
   | true=>exact .nat λn=>.cond EM .no
   | false=>exact JK (F:=λn cs k=>uy z bytes H nx (uk k) s n cs) λ_ _=>EM
 | Sx x zero=>
  exact .ev λx=>by
   unfold Ta;split
   ·exact .ret _ (au _)
   ·exact .cond (.ret _ (au _)) (.cond (.cells λ_=>.bd λ_=>pC) .no)
   ·exact .no
 | Jq z d s=>
  exact .ev λd=>.ev λs=>JK λn cs=>by
   unfold S0;split
   ·exact .ret _ (au _)
   ·exact .sl λ_ _ _ _ _=>.cond (.cond (.ret _ (au _)) (.bd λ_=>.cond (.cells λ_=>.bd λ_=>pC) .no)) .no
 | N1 m key v kt=>exact .ev λ_=>.ev λ_=>.ev λ_=>.map λ_ _ _=>.bd λi=>.oi (.set λ_=>.ret _ (au _)) λ_=>.set λ_=>.ret _ (au _)
 | Sy m key kt zero=>exact .ev λ_=>.ev λ_=>.map λ_ _ _=>.bd λi=>.oi (.set λ_=>.ret _ (au _)) λ_=>.bd λ_=>.ret _ (au _)
 | Sz m s v=>exact .ev λ_=>.ev λ_=>.nat λ_=>.ev λ_=>.map λ_ _ _=>.bd λi=>.set λ_=>.ret _ (au _)
 | ins z bytes s i v=>
  refine .ev λ_=>.ev λ_=>.i64 λi=>.ev λ_=>?_
  unfold Hi;split
  ·exact .sl λb2 o2 z2 m c2=>by
    unfold Tb;exact .cond (.cells λ_=>.bd λ_=>.cond (.set λ_=>lK) .no) .no
  ·exact .sl λb o z1 len c=>.sl λb2 o2 z2 m c2=>by
    unfold WM;exact .cond (.cells λ_=>.cells λ_=>.bd λ_=>.bd λ_=>.bd λ_=>.cond (.set λ_=>lK) .no) .no
 | call f args=>exact .no
 | inv x name args=>exact .no
 | sx f args=>exact .no
 | rE x=>exact .no
 | AX=>exact .no
 | AY x=>
  exact .ev λm=>by
   unfold Tc;split
   ·exact .set λ_=>.ret _ (cE _)
   ·exact .LM λ_ _=>.set λ_=>.ret _ (cE _)
   ·exact .no
 | nxt x=>
  exact .ev λv=>.ptr λr o=>.cond (.iter λm since seen last=>by
   cases m with
   | none=>exact .ret _ (au _)
   | some b=>exact .LM λes c=>.cond .no (by
     cases xE es seen with
     | nil=>exact .ret _ (au _)
     | cons e l=>
      cases l with
      | nil=>exact .cond (.set λ_=>.ret _ (au _)) .no
      | cons e2 l=>exact .no)) .no
 | SU x=>
  exact .ev λv=>.ptr λr o=>.cond (.iter λm since seen last=>by
   cases m with
   | none=>exact .no
   | some b=>exact .bd λ_=>.LM λes c=>.cond (.bd λ_=>.ret _ (au _)) .no) .no
 | ai x=>exact cu _ (bC (.ai x))
 | pick c x y=>exact cu _ (bC (.pick c x y))
 | aA x=>exact cu _ (bC (.aA x))
 | ext x i=>exact cu _ (bC (.ext x i))
 | Ad x off agg=>exact cu _ (bC (.Ad x off agg))
 | aI x off=>exact cu _ (bC (.aI x off))
 | aK x i z=>exact cu _ (bC (.aK x i z))
 | nO x i n z=>exact cu _ (bC (.nO x i n z))
 | ix x i n z agg=>exact cu _ (bC (.ix x i n z agg))
 | bin op t x y=>exact cu _ (bC (.bin op t x y))
 | un op x=>exact cu _ (bC (.un op x))
 | AV s d x=>exact cu _ (bC (.AV s d x))
 | ur mn xs=>exact cu _ (bC (.ur mn xs))
 | Nn t x i=>exact cu _ (bC (.Nn t x i))
 | Hg t x lo hi=>exact cu _ (bC (.Hg t x lo hi))
 | eP neg kd x y=>exact cu _ (bC (.eP neg kd x y))
 | fR zero parts=>exact cu _ (bC (.fR zero parts))
 | B8 fn first cap=>exact cu _ (bC (.B8 fn first cap))
 | Hh t x=>exact cu _ (bC (.Hh t x))
 | K9 x t zero ok=>exact cu _ (bC (.K9 x t zero ok))
 | an x agg=>exact cu _ (bC (.an x agg))
 | len x=>exact cu _ (bC (.len x))
 | GU x=>exact cu _ (bC (.GU x))
 | No x=>exact cu _ (bC (.No x))
 | cap x=>exact cu _ (bC (.cap x))
 | lx x lo hi mx z=>exact cu _ (bC (.lx x lo hi mx z))
 | N0 x lo hi n z=>exact cu _ (bC (.N0 x lo hi n z))
 | AW x key kt zero ok=>exact cu _ (bC (.AW x key kt zero ok))
theorem th(a:cr Od):Det λk=>cY a P T L H nx (uk k):=(nw a).det
end
section
abbrev pd:=Nat->Value
def pd.set(σ:pd)(d:Option Nat)(v:Value):pd:=match d with
 | none=>σ
 | some d=>λt=>if t=d then v else σ t
def uR(σ:pd):Operand->Value
 | .tmp t=>σ t
 | .const v=>v
 | .func f=>.func (.func f) #[] #[]
 | .global _=>undef
structure gq(kept:List Nat)(σ:pd)(env:Env)(T:Tr Value)(L:List Value):Prop where
 env:∀t od,(t,od)∈env->(kh T L od).getD undef=σ t
 kept:∀t,eI kept t=true->(ah T (cP t)).getD undef=σ t
theorem ti:∀{env:Env} {t:Nat} {x:Od},find env t=some x->(t,x)∈env:=by
 intro env
 induction env with
 | nil=>intro t x hx;cases hx
 | cons y env ih=>
  intro t x hx;obtain⟨a,b⟩:=y;unfold find at hx;cases hb:Nat.beq a t with
  | true=>
   rw[hb]at hx;cases hx
   have:=dB hb;subst this;exact hJ
  | false=>rw[hb]at hx;exact fY _ (ih hx)
variable {P:Program}{ins kept:List Nat}{n:Nat}{A:aN}{rn:ly}{σ:pd}{T:Tr Value}{L:List Value}{D:List gf}{H:Heap}{nx:Nat}{env:Env}{ops:List Oper}
theorem gq.Cz(h:gq kept σ env T L){t:Nat}{od:Od}(hf:find env t=some od):(kh T L od).getD undef=σ t:=h.env t od (ti hf)
theorem abe(h:gq kept σ env T L){x:Operand}{od:Od}(hc:cv kept n env x=some od):(kh T L od).getD undef=uR σ x:=by
 cases x with
 | tmp t=>
  simp only[cv]at hc;cases hb:Nat.blt t n with
  | false=>rw[hb]at hc;cases hc
  | true=>
   rw[hb]at hc;simp only[cond_true]at hc;cases hf:find env t with
   | some y=>rw[hf]at hc;cases hc;exact h.Cz hf
   | none=>
    rw[hf]at hc;cases hk:eI kept t with
    | false=>rw[hk]at hc;cases hc
    | true=>rw[hk]at hc;cases hc;exact h.kept t hk
 | const v=>
  simp only[cv]at hc;cases hk:kP v with
  | false=>rw[hk]at hc;cases hc
  | true=>rw[hk]at hc;cases hc;rfl
 | func f=>cases hc;rfl
 | global g=>cases hc
theorem map_congr{α β:Type}{f g:α->β}{a:cr α}(h:a.all λx=>f x=g x):a.map f=a.map g:=by
 have hl:∀l:List α,(∀x∈l,f x=g x)->l.map f=l.map g:=λl h=>List.map_congr_left h
 have ho:∀o:Option α,(∀x∈o,f x=g x)->o.map f=o.map g:=by
  intro o h;cases o with
  | none=>rfl
  | some x=>rw[Option.map_some,Option.map_some,h x rfl]
 have hp:∀l:List (Nat×Nat×α),(∀x∈l,f x.2.2=g x.2.2)->(l.map λx=>(x.1,x.2.1,f x.2.2))=l.map λx=>(x.1,x.2.1,g x.2.2):=λl h=>List.map_congr_left λx hx=>by rw[h x hx]
 cases a<;>simp only[cr.all,cr.map]at h ⊢<;>first|rfl|skip
 all_goals grind
theorem OM{a:cr Operand}{b:cr Od}(h:a.hZ (cv kept n env)=some b)(he:gq kept σ env T L):b.map (qS T L)=a.map (Av (uR σ)):=by
 rw[EI h];obtain⟨_,h2⟩:=jO (.loc 0) h;refine map_congr (ns (λx hx=>?_) h2);obtain⟨y,hy⟩:=hx;show Od.aO ((kh T L ((cv kept n env x).getD (.loc 0))).getD undef)=Od.aO (uR σ x);rw[hy,wB,abe he hy]
end
section
variable {P:Program}{ins kept:List Nat}{n:Nat}{A:aN}{rn:ly}{σ:pd}{T:Tr Value}{L:List Value}{D:List gf}{H:Heap}{nx:Nat}{env:Env}{ops:List Oper}
theorem qt{env:Env}{t:Nat}{od:Od}:(t,od)∈dj env↔∃x,(t,x)∈env/\od=shift x:=by
 unfold dj;rw[pg];constructor
 ·rintro⟨⟨u,x⟩,h,e⟩;cases e;exact⟨x,h,rfl⟩
 ·rintro⟨x,h,rfl⟩;exact⟨(t,x),h,rfl⟩
theorem fH{env:Env}{d t:Nat}{od:Od}:(t,od)∈gk env d↔(t,od)∈env/\t≠d:=by
 unfold gk;rw[rC];constructor
 ·rintro⟨h,e⟩;refine⟨h,λe'=>?_⟩;subst e';simp at e
 ·rintro⟨h,e⟩;refine⟨h,?_⟩;simp only[Bool.not_eq_true'];cases hb:Nat.beq t d with
  | false=>rfl
  | true=>exact absurd (dB hb) e
theorem gq.shift(h:gq kept σ env T L)(v:Value):gq kept σ (dj env) T (v::L):=by
 refine⟨λt od ht=>?_,h.kept⟩;obtain⟨x,hx,rfl⟩:=qt.1 ht;rw[ye];exact h.env t x hx
theorem gq.put{v:Value}{d:Nat}{keep:Option (List Bool)}{T':Tr Value}(h:gq kept σ env T L)(hT:(keep=none/\T'=T/\eI kept d=false)\/(∃p,keep=some p/\p=cP d/\T'=cA p T (some v)/\(dj env).any (λe=>isVar p e.2)=false)) :
  gq kept (σ.set (some d) v) ((d,.loc 0)::gk (dj env) d) T' (v::L):=by
 refine⟨λt od ht=>?_,λt ht=>?_⟩
 ·rcases dT.1 ht with e|hm
  ·cases e;show v=if d=d then v else σ d
   rw[aJ rfl]
  ·obtain⟨hm,cG⟩:=fH.1 hm;have hs:pd.set σ (some d) v t=σ t:=aw cG;rw[hs,<-(h.shift v).env t od hm];rcases hT with⟨_,rfl,_⟩|⟨p,_,_,rfl,Ax⟩
   ·rfl
   ·cases od with
    | var q=>
     have hq:q≠p:=by
      intro e;subst e
      exact List.any_eq_false.1 Ax _ hm (uO.2 rfl)
     show (ah (cA p T (some v)) q).getD undef=(ah T q).getD undef;rw[bz _ _ _ _ hq]
    | _=>rfl
 ·rcases hT with⟨_,rfl,hk⟩|⟨p,_,rfl,rfl,_⟩
  ·have:t≠d:=by intro e;subst e;rw[hk]at ht;cases ht
   have hs:pd.set σ (some d) v t=σ t:=aw this;rw[hs];exact h.kept t ht
  ·by_cases HF:t=d
   ·subst HF;rw[cB];show v=if t=t then v else σ t
    rw[aJ rfl]
   ·have hs:pd.set σ (some d) v t=σ t:=aw HF;rw[hs,bz _ _ _ _ (by rw[kg,kg];exact λe=>HF (gy e))];exact h.kept t ht
structure n5(s s':Laid):Prop where
 ed:s'.ed=s.ed
 di:s'.di=s.di
 make:s'.make=s.make
 done:s'.done=s.done
theorem LN{p:List Bool}{rest:List Oper}:∀(l:Env) (s:Laid),∃new,(jn p rest l s).out=new.reverse++s.out/\n5 s (jn p rest l s)/\
  (∀t od,(t,od)∈(jn p rest l s).env->(∃m8,(t,m8)∈s.env)\/∃m8,(t,m8)∈l)/\
  ∀dV T L D H nx r σ,cx A rn (new++dV) T L D H nx=some r->gq kept σ s.env T L->(∀t,(t,.var p)∈l->(ah T p).getD undef=σ t)->
   ∃L',cx A rn dV T L' D H nx=some r/\gq kept σ (jn p rest l s).env T L':=by
 intro l
 induction l with
 | nil=>intro s;exact⟨[],rfl,⟨rfl,rfl,rfl,rfl⟩,λt od h=>.inl ⟨od,h⟩,λdV T L D H nx r σ h he _=>⟨L,h,he⟩⟩
 | cons y l ih=>
  intro s;obtain⟨t,x⟩:=y;unfold jn;cases hv:isVar p x with
  | false=>
   simp only[cond_false];obtain⟨new,h1,h2,h3,h4⟩:=ih s;refine⟨new,h1,h2,λt od h=>?_,λdV T L D H nx r σ h he hl=>h4 dV T L D H nx r σ h he λt ht=>hl t (fY _ ht)⟩;rcases h3 t od h with h|⟨m8,h⟩
   ·exact .inl h
   ·exact .inr ⟨m8,fY _ h⟩
  | true=>
   have hx:=uO.1 hv;subst hx;simp only[cond_true];cases hr:A2 t rest with
   | false=>
    simp only[cond_false];obtain⟨new,h1,h2,h3,h4⟩:=ih { s with env:=gk s.env t };refine⟨new,h1,⟨h2.ed,h2.di,h2.make,h2.done⟩,λt' od h=>?_,λdV T L D H nx r σ h he hl=>h4 dV T L D H nx r σ h ⟨λu od hu=>he.env u od (fH.1 hu).1,he.kept⟩ λt ht=>hl t (fY _ ht)⟩;rcases h3 t' od h with⟨m8,h⟩|⟨m8,h⟩
    ·exact .inl ⟨m8,(fH.1 h).1⟩
    ·exact .inr ⟨m8,fY _ h⟩
   | true=>
    simp only[cond_true];obtain⟨new,h1,h2,h3,h4⟩:=ih { s with env:=(t,.loc 0)::gk (dj s.env) t,out:=(⟨none,none,.ai (.var p)⟩,[])::s.out };refine⟨(⟨none,none,.ai (.var p)⟩,[])::new,?_,⟨h2.ed,h2.di,h2.make,h2.done⟩,λt' od h=>?_,λdV T L D H nx r σ h he hl=>?_⟩
    ·rw[h1];simp
    ·rcases h3 t' od h with⟨m8,h⟩|⟨m8,h⟩
     ·rcases dT.1 h with e|h
      ·cases e;exact .inr ⟨.var p,hJ⟩
      ·obtain⟨x,hx,_⟩:=qt.1 (fH.1 h).1;exact .inl ⟨x,hx⟩
     ·exact .inr ⟨m8,fY _ h⟩
    ·have h':bI T L (.var p) (λv=>bX A.P none [] (cx A rn (new++dV)) T L D v H nx)=some r:=h;rw[dd]at h';obtain⟨v,hv,h5⟩:=bn h';rw[jR]at h5;have hvt:v=σ t:=by
      have:=hl t hJ;have lY:ah T p=some v:=hv;rw[lY]at this;exact this
     refine h4 dV T (v::L) D H nx r σ h5 ⟨λu od hu=>?_,he.kept⟩ λt ht=>hl t (fY _ ht)
     rcases dT.1 hu with e|hu
     ·cases e;exact hvt
     ·exact(he.shift v).env u od (fH.1 hu).1
end
section
variable {P:Program}{ins kept:List Nat}{n:Nat}{A:aN}{rn:ly}{σ:pd}{T:Tr Value}{L:List Value}{D:List gf}{H:Heap}{nx:Nat}{env:Env}{ops:List Oper}
theorem Tv{b:cr Od}{p:Option (List Bool)}{ag:List cz}{k:RL}{r:Ex×St}(h:uf b A rn p ag k b T L D H nx=some r) :
  (∃v D' H' nx',(∀p' mB k',uf b A rn p' mB k' b T L D H nx=bX A.P p' mB k' T L D' v H' nx')/\bX A.P p ag k T L D' v H' nx'=some r/\(b.plain=true->D'=D))\/
  (∃ch H' nx',r=(.panic ch,⟨T,D,H',nx'⟩)/\∀p' mB k',uf b A rn p' mB k' b T L D H nx=some r):=by
 have VA:∀(o:Option eF),bd o (ew A.P p ag k T L D)=some r->
   (∃v D' H' nx',(∀p' mB k',bd o (ew A.P p' mB k' T L D)=bX A.P p' mB k' T L D' v H' nx')/\bX A.P p ag k T L D' v H' nx'=some r)\/
   (∃ch H' nx',r=(.panic ch,⟨T,D,H',nx'⟩)/\∀p' mB k',bd o (ew A.P p' mB k' T L D)=some r):=by
  intro o ho;obtain⟨c,rfl,h1⟩:=bn ho;cases c with
  | ok v H' nx'=>exact .inl ⟨v,D,H',nx',λ_ _ _=>rfl,h1⟩
  | rE ch H' nx'=>
   have h2:some (Ex.panic ch,(⟨T,D,H',nx'⟩:St))=some r:=h1;cases h2;exact .inr ⟨ch,H',nx',rfl,λ_ _ _=>rfl⟩
 by_cases hp:b.plain=true
 ·rw[lh hp]at h ⊢;have h':cY b A.P T L H nx (uk λx=>bX A.P p ag k T L D x.1 x.2.1 x.2.2)=some r:=h;obtain⟨x,h1,h2⟩:=th b _ r h';exact .inl ⟨x.1,D,x.2.1,x.2.2,λp' mB k'=>h2 λx=>bX A.P p' mB k' T L D x.1 x.2.1 x.2.2,h1,λ_=>rfl⟩
 ·cases b with
  | call f args=>
   have h':bI T L f (λf=>dN T L args λvs=>gO vs (λg vs=>bd (rn.call g vs H nx) (ew A.P p ag k T L D)) f)=some r:=h;rw[dd]at h';obtain⟨fv,yh,h1⟩:=bn h';rw[eT]at h1;obtain⟨vs,mS,h2⟩:=bn h1;have e:∀p' mB k',uf (.call f args) A rn p' mB k' (.call f args) T L D H nx=gO vs (λg vs=>bd (rn.call g vs H nx) (ew A.P p' mB k' T L D)) fv:=by
    intro p' mB k';show bI T L f (λf=>dN T L args λvs=>gO vs (λg vs=>bd (rn.call g vs H nx) (ew A.P p' mB k' T L D)) f)=_;rw[dd,yh];show dN T L args _=_;rw[eT,mS];rfl
   unfold gO at h2;split at h2
   ·rcases VA _ h2 with⟨v,D',H',nx',g1,g2⟩|⟨ch,H',nx',g1,g2⟩
    ·exact .inl ⟨v,D',H',nx',λp' mB k'=>(e p' mB k').trans (g1 p' mB k'),g2,λm6=>absurd m6 hp⟩
    ·exact .inr ⟨ch,H',nx',g1,λp' mB k'=>(e p' mB k').trans (g2 p' mB k')⟩
   ·cases h2
  | inv x name args=>
   have h':bI T L x (λx=>dN T L args λvs=>qR A.P name H (λg v=>bd (rn.call g (v::vs) H nx) (ew A.P p ag k T L D)) x)=some r:=h;rw[dd]at h';obtain⟨fv,yh,h1⟩:=bn h';rw[eT]at h1;obtain⟨vs,mS,h2⟩:=bn h1;have e:∀p' mB k',uf (.inv x name args) A rn p' mB k' (.inv x name args) T L D H nx=qR A.P name H (λg v=>bd (rn.call g (v::vs) H nx) (ew A.P p' mB k' T L D)) fv:=by
    intro p' mB k';show bI T L x (λx=>dN T L args λvs=>qR A.P name H (λg v=>bd (rn.call g (v::vs) H nx) (ew A.P p' mB k' T L D)) x)=_;rw[dd,yh];show dN T L args _=_;rw[eT,mS];rfl
   have hd:cj (λ_=>True) λk':FuncId×Value->R0=>qR A.P name H (λg v=>k' (g,v)) fv:=by
    unfold qR;split
    ·refine .bd λm=>?_
     unfold D5;cases m.2 with
     | none=>exact .ret _ trivial
     | some agg=>exact .ptr λ_ _=>.db λ_=>.bd λ_=>.ret _ trivial
    ·exact .no
   obtain⟨y,g1,g2⟩:=hd.det (λy=>bd (rn.call y.1 (y.2::vs) H nx) (ew A.P p ag k T L D)) r h2;have e2:∀p' mB k',uf (.inv x name args) A rn p' mB k' (.inv x name args) T L D H nx=bd (rn.call y.1 (y.2::vs) H nx) (ew A.P p' mB k' T L D):=λp' mB k'=>
    (e p' mB k').trans (g2 λy=>bd (rn.call y.1 (y.2::vs) H nx) (ew A.P p' mB k' T L D))
   rcases VA _ g1 with⟨v,D',H',nx',q1,q2⟩|⟨ch,H',nx',q1,q2⟩
   ·exact .inl ⟨v,D',H',nx',λp' mB k'=>(e2 p' mB k').trans (q1 p' mB k'),q2,λm6=>absurd m6 hp⟩
   ·exact .inr ⟨ch,H',nx',q1,λp' mB k'=>(e2 p' mB k').trans (q2 p' mB k')⟩
  | sx f args=>
   have h':bI T L f (λf=>dN T L args λvs=>uz f (bX A.P p ag k T L ((f,vs)::D) undef H nx))=some r:=h;rw[dd]at h';obtain⟨fv,yh,h1⟩:=bn h';rw[eT]at h1;obtain⟨vs,mS,h2⟩:=bn h1;refine .inl ⟨undef,(fv,vs)::D,H,nx,λp' mB k'=>?_,?_,λm6=>absurd m6 hp⟩
   ·show bI T L f (λf=>dN T L args λvs=>uz f (bX A.P p' mB k' T L ((f,vs)::D) undef H nx))=_;rw[dd,yh];show dN T L args _=_;rw[eT,mS];show uz fv _=_;unfold uz at h2 ⊢;split at h2
    ·rfl
    ·cases h2
   ·unfold uz at h2;split at h2
    ·exact h2
    ·cases h2
  | rE x=>
   have h':bI T L x (D6 T D H nx)=some r:=h;rw[dd]at h';obtain⟨v,hv,h1⟩:=bn h';have ru:=h1;unfold D6 at h1;split at h1
   ·cases h1;refine .inr ⟨_,_,_,rfl,λp' mB k'=>?_⟩;show bI T L x (D6 T D H nx)=_;rw[dd,hv];exact ru
   ·cases h1
  | AX=>cases h
  | ins z bytes s i v=>
   have h':cY (.ins z bytes s i v) A.P T L H nx (uk λx=>bX A.P p ag k T L D x.1 x.2.1 x.2.2)=some r:=h;obtain⟨x,h1,h2⟩:=th _ _ r h';exact .inl ⟨x.1,D,x.2.1,x.2.2,λp' mB k'=>h2 λx=>bX A.P p' mB k' T L D x.1 x.2.1 x.2.2,h1,λ_=>rfl⟩
  | _=>exact absurd rfl hp
end
section
variable {P:Program}{ins kept:List Nat}{n:Nat}{A:aN}{rn:ly}{σ:pd}{T:Tr Value}{L:List Value}{D:List gf}{H:Heap}{nx:Nat}{env:Env}{ops:List Oper}
def kJ(ops:List Oper)(σ:pd)(g:Option (Nat×Bool)):Bool:=match g with
 | none=>true
 | some (j,w)=>match (ops[j]?).bind (·.dst)with
  | some t=>rk w (σ t)
  | none=>false
theorem CA{c:Option (Nat×Bool)}{g:Option (Nat×Bool)}(h:jM ops env c=some g)(he:gq kept σ env T L):wanted L g=kJ ops σ c:=by
 cases c with
 | none=>cases h;rfl
 | some p=>
  obtain⟨j,want⟩:=p;simp only[jM]at h;cases hj:ops[j]? with
  | none=>rw[hj]at h;cases h
  | some q=>
   rw[hj]at h;simp only at h;cases hd:q.dst with
   | none=>rw[hd]at h;cases h
   | some t=>
    rw[hd]at h;simp only at h;cases hf:find env t with
    | none=>rw[hf]at h;cases h
    | some x=>
     rw[hf]at h;simp only[Option.map_eq_some_iff]at h;obtain⟨d,hx,rfl⟩:=h;have sV:x=.loc d:=by cases x<;>simp[D7]at hx;rw[hx]
     subst sV;have hv:=he.Cz hf;have hs:kJ ops σ (some (j,want))=rk want (σ t):=by simp only[kJ,hj,Option.bind_some,hd]
     rw[hs,<-hv];show D4 want (Lc L d)=rk want ((L[d]?).getD undef);rw[wW];cases L[d]?<;>rfl
def ui:KV:=λv=>some (.normal,⟨.n .e (some v) .e,[],.e,0⟩)
theorem ON{a:cr Operand}{b:cr Od}{u:Value}(h:a.hZ (cv kept n env)=some b)(he:gq kept σ env T L)(hl:∀k,e7 b P T L H k=k u) :
  ∀T' L' k,e7 (a.map (Av (uR σ))) P T' L' H k=k u:=by
 intro T' L' k;have h1:=cf T' L' (hl ui);rw[OM h he]at h1;obtain⟨x,g1,g2⟩:=bC (P:=P) (T:=T') (L:=L') (H:=H) _ _ _ h1;have:x=u:=by
  have e:ui x=ui u:=g1;unfold ui at e;simp only[Option.some.injEq,Prod.mk.injEq,St.mk.injEq,Tr.n.injEq,true_and,and_true]at e;exact e
 subst this;exact g2 k
theorem VB{a:cr Operand}{b:cr Od}{v:Value}{H':Heap}{nx':Nat}(h:a.hZ (cv kept n env)=some b)(he:gq kept σ env T L)(hl:∀k,cY b P T L H nx k=k v H' nx') :
  ∀T' L' k,cY (a.map (Av (uR σ))) P T' L' H nx k=k v H' nx':=by
 intro T' L' k;have h1:=Jy T' L' (hl λv H nx=>some (.normal,⟨.n .e (some v) .e,[],H,nx⟩));rw[OM h he]at h1;obtain⟨x,g1,g2⟩:=th (P:=P) (T:=T') (L:=L') (H:=H) (nx:=nx) _ (λx=>some (.normal,⟨.n .e (some x.1) .e,[],x.2.1,x.2.2⟩)) _ h1;have:x=(v,H',nx'):=by
  obtain⟨x1,x2,x3⟩:=x;simp only[Option.some.injEq,Prod.mk.injEq,St.mk.injEq,Tr.n.injEq,true_and,and_true]at g1;obtain⟨rfl,rfl,rfl⟩:=g1;rfl
 subst this;exact g2 λx=>k x.1 x.2.1 x.2.2
def uS(P:Program)(ops:List Oper)(fQ:List Nat)(done:Nat)(σ:pd)(H:Heap)(j:Nat):Prop:=
 ∃q a t,ops[j]?=some q/\ar P [] q=some a/\q.dst=some t/\lD ops fQ done j q=true/\
  (kJ ops σ q.guard=true->∃u,(∀T L k,e7 (a.map (Av (uR σ))) P T L H k=k u)/\mc (σ t) u=true)
theorem vO{X:R0}{r:Ex×St}{a:cz}(h:N8 P T L H a X=some r):X=some r/\(wanted L a.guard=true->∃u u',(∀k,e7 a.op P T L H k=k u)/\L[a.d]?=some u'/\mc u' u=true):=by
 have h':cond (wanted L a.guard) (e7 a.op P T L H λv=>Af L a.d λu=>cond (mc u v) X none) X=some r:=h;cases hw:wanted L a.guard with
 | false=>
  rw[hw]at h';exact⟨h',λh=>by cases h⟩
 | true=>
  rw[hw]at h';obtain⟨v,q1,q2⟩:=bC (P:=P) (T:=T) (L:=L) (H:=H) _ _ _ h';rw[nU]at q1;obtain⟨u,hu,q3⟩:=bn q1;have q4:cond (mc u v) X none=some r:=q3;cases hv:mc u v with
  | false=>rw[hv]at q4;cases q4
  | true=>rw[hv]at q4;exact⟨q4,λ_=>⟨v,u,q2,hu,hv⟩⟩
theorem OO{fQ:List Nat}{done bh:Nat}{X:R0}{r:Ex×St}(he:gq kept σ env T L):∀{l:List Nat} {as:List cz},sM P kept n ops fQ done env bh l=some as->jJ P T L H as X=some r->
  X=some r/\∀j∈l,Nat.testBit bh j=false->uS P ops fQ done σ H j:=by
 intro l
 induction l with
 | nil=>
  intro as h hk;cases h;exact⟨hk,λj hj=>by simp at hj⟩
 | cons j l ih=>
  intro as h hk;unfold sM at h;cases h0:sM P kept n ops fQ done env bh l with
  | none=>rw[h0]at h;cases h
  | some bs=>
   rw[h0]at h;simp only at h;cases hb:Nat.testBit bh j with
   | true=>
    rw[hb]at h;simp only[cond_true,Option.some.injEq]at h;subst h;obtain⟨g1,g2⟩:=ih h0 hk;refine⟨g1,λi hi Hz=>?_⟩;rcases dT.1 hi with rfl|hi
    ·rw[hb]at Hz;cases Hz
    ·exact g2 i hi Hz
   | false=>
    rw[hb]at h;simp only[cond_false]at h;cases hq:ops[j]? with
    | none=>rw[hq]at h;cases h
    | some q=>
     rw[hq]at h;simp only at h;cases hs:lD ops fQ done j q with
     | false=>rw[hs]at h;cases h
     | true=>
      rw[hs]at h;simp only[Bool.not_true,cond_false]at h;split at h
      ·rename_i a g d ha hg hd;simp only[Option.some.injEq]at h;subst h;obtain⟨g1,g2⟩:=vO hk;obtain⟨k1,k2⟩:=ih h0 g1;refine⟨k1,λi hi Hz=>?_⟩;rcases dT.1 hi with rfl|hi
       ·obtain⟨a0,ha0,ht⟩:=Option.bind_eq_some_iff.1 ha;obtain⟨od,hod,abf⟩:=Option.bind_eq_some_iff.1 hd;obtain⟨t,AA,hf⟩:=Option.bind_eq_some_iff.1 hod;have sV:od=.loc d:=by cases od<;>simp[D7]at abf;rw[abf]
        subst sV;refine⟨q,a0,t,hq,ha0,AA,hs,λhw=>?_⟩;obtain⟨u,u',p1,p2,p3⟩:=g2 ((CA hg he).trans hw);refine⟨u,ON ht he p1,?_⟩;have:=he.Cz hf;rw[<-this];show mc ((L[d]?).getD undef) u=true;have p2':L[d]?=some u':=p2;rw[p2'];exact p3
       ·exact k2 i hi Hz
      ·cases h
end
section
variable {P:Program}{ins kept:List Nat}{n:Nat}{A:aN}{rn:ly}{σ:pd}{T:Tr Value}{L:List Value}{D:List gf}{H:Heap}{nx:Nat}{env:Env}{ops:List Oper}
inductive Step (A:aN) (rn:ly) (o:Oper) (b:cr Od) (g:Option (Nat×Bool)) (T:Tr Value) (L:List Value) (D:List gf) (H:Heap) (nx:Nat):Value->List gf->Heap->Nat->Prop
 | alias (od:Od) (hb:b=.ai od) (hm:xG o.op=true) (hg:g=none):Step A rn o b g T L D H nx ((kh T L od).getD undef) D H nx
 | jc (hw:wanted L g=false):Step A rn o b g T L D H nx undef D H nx
 | did (hw:wanted L g=true) (v:Value) (D':List gf) (H':Heap) (nx':Nat) (h:∀p ag k,uf b A rn p ag k b T L D H nx=bX A.P p ag k T L D' v H' nx') (hd:b.plain=true->D'=D) :
   Step A rn o b g T L D H nx v D' H' nx'
theorem vP{d:Option Nat}{t:Nat}(h:dO kept d=none)(ht:d=some t):eI kept t=false:=by
 subst ht;cases hk:eI kept t with
 | false=>rfl
 | true=>simp[dO,hk]at h
theorem EN{d:Option Nat}{p:List Bool}(h:dO kept d=some p):∃t,d=some t/\p=cP t/\eI kept t=true:=by
 cases d with
 | none=>simp[dO]at h
 | some t=>
  cases hk:eI kept t with
  | false=>simp[dO,hk]at h
  | true=>
   simp[dO,hk]at h;exact⟨t,rfl,h.symm,hk⟩
def Tw(T:Tr Value)(p:Option (List Bool))(v:Value):Tr Value:=match p with
 | none=>T
 | some p=>cA p T (some v)
theorem jS{p:Option (List Bool)}{v:Value}{k:Tr Value->R0}:N9 T p v k=k (Tw T p v):=by
 rw[EH];cases p<;>rfl
theorem OP{fQ:List Nat}{bm:Nat}{o:Oper}{g:Option (Nat×Bool)}{a:cr Od}{s s1:Laid}(h:emit P kept n ops fQ bm o g a s=some s1) :
  ∃as,s1.out=(⟨dO kept o.dst,g,a⟩,as)::s.out/\n5 s s1/\(∀t od,(t,od)∈s1.env->some t=o.dst\/∃m8,(t,m8)∈s.env)/\(cO (cK a)=false->as=[])/\
   ∀dV T L D H nx r σ,A.P=P->cx A rn ((⟨dO kept o.dst,g,a⟩,as)::dV) T L D H nx=some r->gq kept σ s.env T L->
    (∃v D' H' nx' T',Step A rn o a g T L D H nx v D' H' nx'/\cx A rn dV T' (v::L) D' H' nx'=some r/\gq kept (σ.set o.dst v) s1.env T' (v::L)/\
     (cO (cK a)=true->∀j∈s.ed,Nat.testBit bm j=false->uS P ops fQ s.done (σ.set o.dst v) H' j))\/
    (wanted L g=true/\∃ch H' nx',r=(.panic ch,⟨T,D,H',nx'⟩)/\∀p ag k,uf a A rn p ag k a T L D H nx=some r):=by
 unfold emit at h;generalize VC:sP s.env o.dst=Xg at h;split at h
 ·cases h
 ·rename_i as has;have mU:∀t od,(t,od)∈Xg->some t=o.dst\/∃m8,(t,m8)∈s.env:=by
   intro t od ht;subst VC;cases hd:o.dst with
   | none=>
    rw[hd]at ht;obtain⟨x,hx,_⟩:=qt.1 ht;exact .inr ⟨x,hx⟩
   | some d=>
    rw[hd]at ht;rcases dT.1 ht with e|ht
    ·cases e;exact .inl rfl
    ·obtain⟨x,hx,_⟩:=qt.1 (fH.1 ht).1;exact .inr ⟨x,hx⟩
  have OQ:∀(T:Tr Value) (L:List Value) (σ:pd) (v:Value),gq kept σ s.env T L->(∀p,dO kept o.dst=some p->(dj s.env).any (λe=>isVar p e.2)=false)->
    gq kept (σ.set o.dst v) Xg (Tw T (dO kept o.dst) v) (v::L):=by
   intro T L σ v he Ax;subst VC;cases hd:o.dst with
   | none=>
    have:dO kept (none:Option Nat)=none:=rfl;rw[this];exact he.shift v
   | some d=>
    rw[hd]at Ax;cases hk:dO kept (some d)with
    | none=>exact he.put (keep:=none) (.inl ⟨rfl,rfl,vP hk rfl⟩)
    | some p=>
     obtain⟨t,ht,hp,_⟩:=EN hk;cases ht;exact he.put (keep:=some p) (.inr ⟨p,rfl,hp,rfl,Ax p hk⟩)
  have ny:s1.env=Xg/\s1.out=(⟨dO kept o.dst,g,a⟩,as)::s.out/\n5 s s1/\(∀p,dO kept o.dst=some p->(dj s.env).any (λe=>isVar p e.2)=false):=by
   split at h
   ·rename_i hk;cases h;rw[hk];exact⟨rfl,rfl,⟨rfl,rfl,rfl,rfl⟩,λp hp=>by cases hp⟩
   ·rename_i p hk;cases Ax:(dj s.env).any (λe=>isVar p e.2)with
    | true=>rw[Ax]at h;cases h
    | false=>
     rw[Ax]at h;cases h;rw[hk];exact⟨rfl,rfl,⟨rfl,rfl,rfl,rfl⟩,λq hq=>by cases hq;exact Ax⟩
  obtain⟨e1,e2,e3,e4⟩:=ny;refine⟨as,e2,e3,λt od ht=>mU t od (by rw[<-e1];exact ht),λhh=>by rw[hh]at has;cases has;rfl,λdV T L D H nx r σ hA hr he=>?_⟩;have Bk:∀v D' H' nx',bX A.P (dO kept o.dst) as (cx A rn dV) T L D' v H' nx'=some r->
    ∃T',cx A rn dV T' (v::L) D' H' nx'=some r/\gq kept (σ.set o.dst v) s1.env T' (v::L)/\(cO (cK a)=true->∀j∈s.ed,Nat.testBit bm j=false->uS P ops fQ s.done (σ.set o.dst v) H' j):=by
   intro v D' H' nx' hc;unfold bX at hc;rw[jS]at hc;have hE:=OQ T L σ v he e4;rw[<-e1]at hE;generalize Tw T (dO kept o.dst) v=T' at hE hc;refine⟨T',?_⟩;cases hh:cO (cK a)with
   | false=>
    rw[hh]at has;cases has;exact⟨hc,hE,λh=>by cases h⟩
   | true=>
    rw[hh]at has;rw[hA]at hc;rw[e1]at hE;obtain⟨q1,q2⟩:=OO hE has hc;exact⟨q1,by rw[e1];exact hE,λ_=>q2⟩
  have qp:cond (wanted L g) (uf a A rn (dO kept o.dst) as (cx A rn dV) a T L D H nx) (bX A.P (dO kept o.dst) as (cx A rn dV) T L D undef H nx)=some r:=hr;cases hw:wanted L g with
  | false=>
   rw[hw]at qp;obtain⟨T',q1,q2,q3⟩:=Bk _ _ _ _ qp;exact .inl ⟨undef,D,H,nx,T',.jc hw,q1,q2,q3⟩
  | true=>
   rw[hw]at qp;rcases Tv qp with⟨v,D',H',nx',g1,g2,g3⟩|⟨ch,H',nx',g1,g2⟩
   ·obtain⟨T',q1,q2,q3⟩:=Bk _ _ _ _ g2;exact .inl ⟨v,D',H',nx',T',.did hw v D' H' nx' g1 g3,q1,q2,q3⟩
   ·exact .inr ⟨rfl,ch,H',nx',g1,g2⟩
theorem Bl{rest:List Oper}{fQ:List Nat}{bm:Nat}{xH:Bool}{o:Oper}{s0 s1:Laid}(h:Oc P ins kept n ops rest fQ bm xH o s0=some s1) :
  ∃new env a b g,ar P ins o=some a/\a.hZ (cv kept n env)=some b/\jM ops env o.guard=some g/\s1.out=new.reverse++s0.out/\n5 s0 s1/\
   (∀t od,(t,od)∈env->∃m8,(t,m8)∈s0.env)/\(∀t od,(t,od)∈s1.env->some t=o.dst\/∃m8,(t,m8)∈s0.env)/\
   ∀dV T L D H nx r σ,A.P=P->cx A rn (new++dV) T L D H nx=some r->gq kept σ s0.env T L->∃L1,gq kept σ env T L1/\
    ((∃v D' H' nx' T' L',Step A rn o b g T L1 D H nx v D' H' nx'/\cx A rn dV T' L' D' H' nx'=some r/\gq kept (σ.set o.dst v) s1.env T' L'/\
     (cO (cK b)=true->∀j∈s0.ed,Nat.testBit bm j=false->uS P ops fQ s0.done (σ.set o.dst v) H' j))\/
    (wanted L1 g=true/\∃ch H' nx',r=(.panic ch,⟨T,D,H',nx'⟩)/\∀p ag k,uf b A rn p ag k b T L1 D H nx=some r)):=by
 unfold Oc at h;simp only at h;have hs:∃CB s,Ju (o::rest) s0 (dO kept o.dst)=s/\s.out=CB.reverse++s0.out/\n5 s0 s/\(∀t od,(t,od)∈s.env->∃m8,(t,m8)∈s0.env)/\
   ∀dV T L D H nx r σ,cx A rn (CB++dV) T L D H nx=some r->gq kept σ s0.env T L->∃L',cx A rn dV T L' D H nx=some r/\gq kept σ s.env T L':=by
  cases hk:dO kept o.dst with
  | none=>exact⟨[],s0,rfl,rfl,⟨rfl,rfl,rfl,rfl⟩,λt od h=>⟨od,h⟩,λdV T L D H nx r σ h he=>⟨L,h,he⟩⟩
  | some p=>
   obtain⟨new,h1,h2,h3,h4⟩:=LN (A:=A) (rn:=rn) (kept:=kept) (p:=p) (rest:=o::rest) s0.env s0;refine⟨new,_,rfl,h1,h2,λt od h=>(h3 t od h).elim id id,λdV T L D H nx r σ h he=>h4 dV T L D H nx r σ h he λt ht=>he.env t _ ht⟩
 obtain⟨CB,s,CC,oU,cM,mU,fT⟩:=hs;rw[CC]at h;split at h
 ·rename_i b g hb hg;obtain⟨a,ha,ht⟩:=Option.bind_eq_some_iff.1 hb;have VD:emit P kept n ops fQ bm o g b s=some s1->∃new env a b g,ar P ins o=some a/\a.hZ (cv kept n env)=some b/\jM ops env o.guard=some g/\s1.out=new.reverse++s0.out/\n5 s0 s1/\
   (∀t od,(t,od)∈env->∃m8,(t,m8)∈s0.env)/\(∀t od,(t,od)∈s1.env->some t=o.dst\/∃m8,(t,m8)∈s0.env)/\
   ∀dV T L D H nx r σ,A.P=P->cx A rn (new++dV) T L D H nx=some r->gq kept σ s0.env T L->∃L1,gq kept σ env T L1/\
    ((∃v D' H' nx' T' L',Step A rn o b g T L1 D H nx v D' H' nx'/\cx A rn dV T' L' D' H' nx'=some r/\gq kept (σ.set o.dst v) s1.env T' L'/\
     (cO (cK b)=true->∀j∈s0.ed,Nat.testBit bm j=false->uS P ops fQ s0.done (σ.set o.dst v) H' j))\/
    (wanted L1 g=true/\∃ch H' nx',r=(.panic ch,⟨T,D,H',nx'⟩)/\∀p ag k,uf b A rn p ag k b T L1 D H nx=some r)):=by
   intro he;obtain⟨as,e1,e2,e3,_,e5⟩:=OP (A:=A) (rn:=rn) he;refine⟨CB++[(⟨dO kept o.dst,g,b⟩,as)],s.env,a,b,g,ha,ht,hg,?_,⟨e2.ed.trans cM.ed,e2.di.trans cM.di,e2.make.trans cM.make,e2.done.trans cM.done⟩,mU,λt od h=>?_,λdV T L D H nx r σ hA hr hE=>?_⟩
   ·rw[e1,oU];simp
   ·rcases e3 t od h with h|⟨m8,h⟩
    ·exact .inl h
    ·exact .inr (mU t m8 h)
   ·rw[jj]at hr;obtain⟨L1,ql,hE1⟩:=fT _ T L D H nx r σ hr hE;refine⟨L1,hE1,?_⟩;rcases e5 dV T L1 D H nx r σ hA ql hE1 with⟨v,D',H',nx',T',q1,q2,q3,q4⟩|q
    ·refine .inl ⟨v,D',H',nx',T',v::L1,q1,q2,q3,?_⟩;rw[<-cM.ed,<-cM.done];exact q4
    ·exact .inr q
  split at h
  ·rename_i x t AA;cases hc:(dO kept (some t)).isNone&&xG o.op&&!xH with
   | false=>rw[hc]at h;exact VD h
   | true=>
    rw[hc]at h;simp only[cond_true,Option.some.injEq]at h;simp only[gd,Option.isNone_iff_eq_none]at hc;obtain⟨⟨hk,hm⟩,_⟩:=hc;subst h;refine⟨CB,s.env,a,.ai x,none,ha,ht,hg,oU,⟨cM.ed,cM.di,cM.make,cM.done⟩,mU,λu od hu=>?_,λdV T L D H nx r σ hA hr hE=>?_⟩
    ·rcases dT.1 hu with e|hu
     ·cases e;exact .inl AA.symm
     ·exact .inr (mU u od (fH.1 hu).1)
    ·obtain⟨L1,ql,hE1⟩:=fT _ T L D H nx r σ hr hE;refine⟨L1,hE1,.inl ⟨(kh T L1 x).getD undef,D,H,nx,T,L1,.alias x rfl hm rfl,ql,?_,λhh=>by cases hh⟩⟩;rw[AA];refine⟨λu od hu=>?_,λu hu=>?_⟩
     ·rcases dT.1 hu with e|hu
      ·cases e;show _=if t=t then _ else _
       rw[aJ rfl]
      ·obtain⟨hu,cG⟩:=fH.1 hu;have hs:pd.set σ (some t) ((kh T L1 x).getD undef) u=σ u:=aw cG;rw[hs];exact hE1.env u od hu
     ·have cG:u≠t:=by intro e;subst e;rw[vP hk rfl]at hu;cases hu
      have hs:pd.set σ (some t) ((kh T L1 x).getD undef) u=σ u:=aw cG;rw[hs];exact hE1.kept u hu
  ·exact VD h
 ·cases h
end
section
variable {P:Program}{ins kept:List Nat}{n:Nat}{A:aN}{rn:ly}{σ:pd}{T:Tr Value}{L:List Value}{D:List gf}{H:Heap}{nx:Nat}{env:Env}{ops:List Oper}{ρ:bY}
structure wL(ρ:bY)(kept:List Nat)(n:Nat)(env:Env)(σ:pd)(tm:Array Value):Prop where
 size:n<=tm.size
 env:∀t od,(t,od)∈env->VR ρ (σ t) (tm.getD t undef)
 kept:∀t,eI kept t=true->VR ρ (σ t) (tm.getD t undef)
theorem jQ.of{a:Act}(he:gq kept σ env T L)(hs:wL ρ kept n env σ a.tmps):jQ ρ kept n env T L a:=
 ⟨hs.size,λt od ht=>by rw[he.Cz ht];exact hs.env t od (ti ht),λt ht=>by rw[he.kept t ht];exact hs.kept t ht⟩
theorem wL.mono{ρ':bY}{tm:Array Value}(e:Ext ρ ρ')(h:wL ρ kept n env σ tm):wL ρ' kept n env σ tm:=
 ⟨h.size,λt od ht=>(h.env t od ht).mono e,λt ht=>(h.kept t ht).mono e⟩
theorem wL.less{AB:Env}{tm:Array Value}(h:wL ρ kept n env σ tm)(hd:∀t od,(t,od)∈AB->∃m8,(t,m8)∈env):wL ρ kept n AB σ tm:=
 ⟨h.size,λt od ht=>let ⟨m8,g⟩:=hd t od ht;h.env t m8 g,h.kept⟩
theorem yj{a:Act}{d:Nat}{u:Value}(hd:d<a.tmps.size)(t:Nat):(a.put (some d) u).tmps.getD t undef=if t=d then u else a.tmps.getD t undef:=by
 show (a.tmps.setIfInBounds d u).getD t undef=_;simp only[Array.getD_eq_getD_getElem?,Array.getElem?_setIfInBounds];by_cases ht:d=t
 ·subst ht;simp[hd]
 ·rw[aw ht,aw (λe=>ht e.symm)]
theorem wL.put{AB:Env}{a:Act}{dst:Option Nat}{v u:Value}(h:wL ρ kept n env σ a.tmps)(hv:VR ρ v u)(hd:∀d,dst=some d->d<n)(mU:∀t od,(t,od)∈AB->some t=dst\/∃m8,(t,m8)∈env) :
  wL ρ kept n AB (σ.set dst v) (a.put dst u).tmps:=by
 cases dst with
 | none=>exact h.less λt od ht=>(mU t od ht).elim (λe=>by cases e) id
 | some d=>
  have Xa:d<a.tmps.size:=kN (hd d rfl) h.size;have key:∀t,(t≠d->VR ρ (σ t) (a.tmps.getD t undef))->VR ρ (pd.set σ (some d) v t) ((a.put (some d) u).tmps.getD t undef):=by
   intro t ht;rw[yj Xa];show VR ρ (if t=d then v else σ t) _;by_cases e:t=d
   ·rw[aJ e,aJ e];exact hv
   ·rw[aw e,aw e];exact ht e
  refine⟨by show n<=(a.tmps.setIfInBounds d u).size;simpa using h.size,λt od ht=>key t λcG=>?_,λt ht=>key t λ_=>h.kept t ht⟩;rcases mU t od ht with e|⟨m8,g⟩
  ·cases e;exact absurd rfl cG
  ·exact h.env t m8 g
noncomputable def uT:RL:=λ_ L D H nx=>some (.normal,⟨.n .e (AZ L) .e,D,H,nx⟩)
theorem EO{v v':Value}{D' D'':List gf}{H' H'':Heap}{nx' Xh:Nat}(h:bX P none [] uT T L D' v H' nx'=bX P none [] uT T L D'' v' H'' Xh):v=v'/\D'=D''/\H'=H''/\nx'=Xh:=by
 rw[jR,jR]at h;have h':some (Ex.normal,(⟨.n .e (some v) .e,D',H',nx'⟩:St))=some (Ex.normal,⟨.n .e (some v') .e,D'',H'',Xh⟩):=h;simp only[Option.some.injEq,Prod.mk.injEq,St.mk.injEq,Tr.n.injEq,true_and,and_true]at h';exact h'
theorem JL{v:Value}{ch:List PanicEntry}{st:St}(h:bX P none [] uT T L D v H nx=some (.panic ch,st)):False:=by
 rw[jR]at h;have h':some (Ex.normal,(⟨.n .e (some v) .e,D,H,nx⟩:St))=some (Ex.panic ch,st):=h;simp at h'
theorem EP{o:Oper}{a:cr Operand}{x:Operand}{c:Act}{w:World}(hm:xG o.op=true)(hc:ar P ins o=some a)(ha:a=.ai x):(execOp c.eval o).run P w=.ok (.value (c.eval x)) w:=by
 subst ha;cases ho:o.op<;>simp only[ho,xG]at hm<;>first|cases hm|skip
 all_goals
  simp only[ar,ho,Option.some.injEq,cr.ai.injEq]at hc;subst hc;simp only[execOp,ho,Sem.run_pure]
theorem ER{α β:Type}{c:α->Option β}{a:cr α}{y:β}(h:a.hZ c=some (.ai y)):∃x,a=.ai x/\c x=some y:=by
 cases a with
 | ai x=>
  simp only[cr.hZ]at h;split at h
  ·rename_i z hz;cases h;exact⟨x,rfl,hz⟩
  ·cases h
 | _=>
  exfalso;simp only[cr.hZ]at h
  repeat' split at h
  all_goals cases h
theorem ET{o:Oper}{a:cr Operand}{b:cr Od}{g:Option (Nat×Bool)}{c:Act}{w:World}{v:Value}{D':List gf}{H':Heap}{nx':Nat}{next:Act->World->Prop}{Q:Exit->Act->World->Prop}(hA:A.P=P)(dt:ig P rn)(tg:ri P ins)(hc:ar P ins o=some a)(ht:a.hZ (cv kept n env)=some b)(hg:jM ops env o.guard=some g)(he:jQ ρ kept n env T L c)(hD:je ρ D c.defers)(hH:HR ρ H nx w.heap)(hs:Step A rn o b g T L D H nx v D' H' nx')(hn:∀(ρ':bY) (u:Value) (w':World) (c':Act),VR ρ' v u->lJ ρ H nx w ρ' H' nx' w'->je ρ' D' c'.defers->c'.tmps=c.tmps->next (c'.put o.dst u) w') :
  (if Region.wanted o (yielded ops.toArray c.tmps)then o.wp P c w next Q\/(o.asks P c w/\LetsOut Q)else next (c.put o.dst undef) w):=by
 rw[yg hg he];cases hs with
 | alias od hb hm Nu=>
  rw[hb]at ht;obtain⟨x,OS,hx⟩:=ER ht;have hw:wanted L g=true:=by rw[Nu];rfl
  rw[aJ hw];refine .inl ?_;unfold Oper.wp;rw[EP hm hc OS];exact hn ρ _ w c (gA he hx) (.refl hH) hD rfl
 | jc hw=>
  rw[hw,aw (by simp)];exact hn ρ _ w c VR.undef (.refl hH) hD rfl
 | did hw _ _ _ _ h hd=>
  rw[hw,aJ rfl];refine .inl ?_;unfold Oper.wp;obtain⟨r0,HL⟩:∃r0,bX A.P none [] uT T L D' v H' nx'=some r0:=⟨_,jR.trans rfl⟩;refine OJ (p:=none) (ag:=[]) (k:=uT) hA dt tg hc ht he hD hH ((h none [] uT).trans HL) ?_ ?_
  ·intro v2 H2 nx2 D2 ρ' u w' c' h1 h2 h3 h4 h5;obtain⟨rfl,rfl,rfl,rfl⟩:=EO (h1.trans HL.symm);exact hn ρ' u w' c' h2 h3 h4 h5
  ·intro ch Ay ρ' H2 nx2 w' h1;subst h1;exact(JL HL).elim
theorem fx{α:Type}{c:Bool}{x:Option α}{a:α}(h:(bif c then x else none)=some a):c=true/\x=some a:=by
 cases c
 ·cases h
 ·exact⟨rfl,h⟩
theorem HM{xH:List Nat}(hA:A.P=P)(dt:ig P rn)(tg:ri P ins):∀(is:List Nat) (s s':Laid),rG P ins kept n false ops [] xH is s=some s'->∃new,s'.out=new.reverse++s.out/\
  ∀T L D H nx r σ,cx A rn new T L D H nx=some r->gq kept σ s.env T L->∀ρ a w,HR ρ H nx w.heap->wL ρ kept n s.env σ a.tmps->je ρ D a.defers->
   ∀Q:Exit->Act->World->Prop,(∀e a' w',nt ρ H nx w kept n r e a' w'->Q e a' w')->wpOps P ops.toArray Q is a w:=by
 intro is
 induction is with
 | nil=>
  intro s s' h;cases h;refine⟨[],rfl,λT L D H nx r σ hr he ρ a w hH hs hD Q hQ=>?_⟩;have qp:some (Ex.normal,(⟨T,D,H,nx⟩:St))=some r:=hr;cases qp;exact hQ _ _ _ ⟨ρ,.refl hH,⟨.of ⟨λt od h=>by simp at h,he.kept⟩ ⟨hs.size,λt od h=>by simp at h,hs.kept⟩,hD⟩,trivial⟩
 | cons i is ih=>
  intro s s' h;unfold rG at h;cases ho:ops[i]? with
  | none=>rw[ho]at h;cases h
  | some o=>
   rw[ho]at h;simp only[cond_false]at h;split at h
   ·cases h
   ·rename_i s1 bt;split at h
    ·cases h
    ·rename_i k hk;obtain⟨AA,h⟩:=fx h;have cg:∀d,o.dst=some d->d<n:=by
      intro d hd;rw[hd]at AA;have OT:Nat.blt d n=true:=AA
      rwa [Nat.blt_eq]at OT
     obtain⟨CB,env,a,b,g,hc,ht,hg,oU,cM,mU,OU,fT⟩:=Bl (A:=A) (rn:=rn) bt;obtain⟨HN,OV,s8⟩:=ih _ _ (fx h).2;refine⟨CB++HN,?_,λT L D H nx r σ hr he ρ c w hH hs hD Q hQ=>?_⟩
     ·rw[OV];show HN.reverse++s1.out=_;rw[oU];simp
     ·obtain⟨L1,hE,sY⟩:=fT HN T L D H nx r σ hA hr he;have hR:jQ ρ kept n env T L1 c:=.of hE (hs.less mU);rw[wpOps_cons];unfold wpOp;have hoi:ops.toArray[i]?=some o:=by simpa using ho
      rw[hoi];rcases sY with⟨v,D',H',nx',T',L',bO,Ek,hE2,_⟩|⟨hw,ch,H',nx',HO,kk⟩
      ·refine ET hA dt tg hc ht hg hR hD hH bO λρ' u w' c' hv OW hD' htm=>?_
       refine s8 T' L' D' H' nx' r _ Ek hE2 ρ' (c'.put o.dst u) w' OW.hr ?_ ?_ Q λe a' w'' ho=>hQ e a' w'' (.trans OW ho)
       ·refine wL.put (env:=s.env) (h:=?_) hv cg OU;rw[htm];exact hs.mono OW.iw.ext
       ·have:(c'.put o.dst u).defers=c'.defers:=by cases o.dst<;>rfl
        rw[this];exact hD'
      ·show (if Region.wanted o (yielded ops.toArray c.tmps)then _ else _);rw[yg hg hR,aJ hw];refine .inl ?_;unfold Oper.wp;refine OJ (p:=none) (ag:=[]) (k:=uT) hA dt tg hc ht hR hD hH (kk none [] uT) ?_ ?_
       ·intro v2 H2 nx2 D2 ρ' u w' c' h1;subst HO;exact(JL h1).elim
       ·intro ch2 Ay ρ' H2 nx2 w' h1 h2 h3;rw[HO]at h1;cases h1;exact hQ _ _ _ ⟨ρ',by rw[HO];exact h3,by
         rw[HO];exact⟨.of ⟨λt od h=>by simp at h,he.kept⟩ ⟨hs.size,λt od h=>by simp at h,λt h=>(hs.kept t h).mono h3.iw.ext⟩,hD.mono h3.iw.ext⟩,by rw[HO];exact h2⟩
end
section
variable {P:Program}{ins kept:List Nat}{n:Nat}{A:aN}{rn:ly}{ops:List Oper}{fQ:List Nat}
theorem Xi{id:Nat}{ops:Array Oper}{l:List (AO×List cz)}(hA:A.P=P)(dt:ig P rn)(tg:ri P ins)(h:jN P ins kept n false ops.toList=some l) :
  ij P ins kept n (aaX A rn l) (.region id ops false):=by
 intro T D H nx o hr ρ a w hH ha;unfold jN at h;simp only[cond_false,Option.map_eq_some_iff]at h;obtain⟨s',hs,rfl⟩:=h;obtain⟨new,oU,kk⟩:=HM hA dt tg _ _ _ hs;refine wp_region ?_;have hn:s'.out.reverse=new:=by rw[oU];simp[rp]
 have qp:cx A rn s'.out.reverse T [] D H nx=some o:=hr;rw[hn]at qp;have:=kk T [] D H nx o (λt=>(ah T (cP t)).getD undef) qp ⟨λt od h=>by simp[rp]at h,λt _=>rfl⟩ ρ a w hH ⟨ha.env.size,λt od h=>by simp[rp]at h,ha.env.kept⟩ ha.sx (nt ρ H nx w kept n o) λe a' w' h=>h
 simpa using this
structure Rec where
 i:Nat
 o:Oper
 a:cr Operand
 σ:pd
 D:List gf
 H:Heap
 nx:Nat
 v:Value
 D':List gf
 H':Heap
 nx':Nat
def At(σ0:pd)(D0:List gf)(H0:Heap)(nx0:Nat):List Rec->pd->List gf->Heap->Nat->Prop
 | [],σ,D,H,nx=>σ=σ0/\D=D0/\H=H0/\nx=nx0
 | q::_,σ,D,H,nx=>σ=q.σ.set q.o.dst q.v/\D=q.D'/\H=q.H'/\nx=q.nx'
def bit(fQ:List Nat)(i j:Nat):Bool:=Nat.testBit (fQ.getD i 0) j
structure OX(P:Program)(A:aN)(rn:ly)(ins kept:List Nat)(n:Nat)(ops:List Oper)(fQ:List Nat)(pre:List Rec)(r:Rec):Prop where
 op:ops[r.i]?=some r.o
 comp:ar P ins r.o=some r.a
 step:∃env T L b g,r.a.hZ (cv kept n env)=some b/\jM ops env r.o.guard=some g/\gq kept r.σ env T L/\(∀t od,(t,od)∈env->∃q∈pre,q.o.dst=some t)/\Step A rn r.o b g T L r.D r.H r.nx r.v r.D' r.H' r.nx'
 dst:∀d,r.o.dst=some d->d<n
 LO:∀j,bit fQ r.i j=true->∃q∈pre,q.i=j
 new:∀q∈pre,q.i≠r.i
 hyg:hygienic ops fQ r.i r.o=true
 grd:∀g w,r.o.guard=some (g,w)->bit fQ r.i g=true
 di:cO (cK r.a)=true->∀q∈pre,cO (cK q.a)=true\/jL (cK q.a)=true->bit fQ r.i q.i=true
 load:lB (cK r.a)=true->∀q∈pre,cO (cK q.a)=true->bit fQ r.i q.i=true
 again:cO (cK r.a)=true->∀q∈pre,lB (cK q.a)=true->bit fQ r.i q.i=false->∃done,(∀j,Nat.testBit done j=true↔∃q∈pre,q.i=j)/\uS P ops fQ done (r.σ.set r.o.dst r.v) r.H' q.i
def JM(P:Program)(A:aN)(rn:ly)(ins kept:List Nat)(n:Nat)(ops:List Oper)(fQ:List Nat)(σ0:pd)(D0:List gf)(H0:Heap)(nx0:Nat):List Rec->Prop
 | []=>True
 | r::pre=>OX P A rn ins kept n ops fQ pre r/\At σ0 D0 H0 nx0 pre r.σ r.D r.H r.nx/\JM P A rn ins kept n ops fQ σ0 D0 H0 nx0 pre
structure yk(pre:List Rec)(s:Laid):Prop where
 done:∀j,Nat.testBit s.done j=true↔∃q∈pre,q.i=j
 di:∀q∈pre,cO (cK q.a)=true->Nat.testBit s.di q.i=true
 make:∀q∈pre,jL (cK q.a)=true->Nat.testBit s.make q.i=true
 ed:∀q∈pre,lB (cK q.a)=true->q.i∈s.ed
 abg:∀j∈s.ed,∃q∈pre,q.i=j
 env:∀t od,(t,od)∈s.env->∃q∈pre,q.o.dst=some t
theorem OY{α β:Type}(f:α->β)(a:cr α):cK (a.map f)=cK a:=by cases a<;>rfl
theorem lj{α β:Type}{c:α->Option β}{a:cr α}{b:cr β}(d:β)(h:a.hZ c=some b):cK b=cK a:=by
 rw[(jO d h).1,OY]
theorem w8{a b j:Nat}(h:sub a b=true)(hj:Nat.testBit a j=true):Nat.testBit b j=true:=by
 have e:a&&& b=a:=dB h;rw[<-e,Nat.testBit_and]at hj;simp at hj;exact hj.2
theorem uU{s i j:Nat}:Nat.testBit (s||| 2 ^ i) j=true↔Nat.testBit s j=true\/j=i:=by
 rw[Nat.testBit_or,Bool.or_eq_true,Nat.testBit_two_pow];simp only[DW];constructor
 ·rintro(h|h)
  ·exact .inl h
  ·exact .inr h.symm
 ·rintro(h|h)
  ·exact .inl h
  ·exact .inr h.symm
theorem yk.next{pre:List Rec}{s0 s1:Laid}{r:Rec}(h:yk pre s0)(hs:n5 s0 s1)(mU:∀t od,(t,od)∈s1.env->some t=r.o.dst\/∃m8,(t,m8)∈s0.env) :
  yk (r::pre) { s1 with ed:=(bif lB (cK r.a)then r.i::s1.ed else s1.ed),di:=(bif cO (cK r.a)then s1.di||| 2 ^ r.i else s1.di),make:=(bif jL (cK r.a)then s1.make||| 2 ^ r.i else s1.make),done:=s1.done||| 2 ^ r.i }:=by
 refine⟨λj=>?_,λq hq hk=>?_,λq hq hk=>?_,λq hq hk=>?_,λj hj=>?_,λt od ht=>?_⟩
 ·show Nat.testBit (s1.done||| 2 ^ r.i) j=true↔_;rw[uU,hs.done,h.done];simp only[dT,exists_eq_or_imp];constructor
  ·rintro(h|h)
   ·exact .inr h
   ·exact .inl h.symm
  ·rintro(h|h)
   ·exact .inr h.symm
   ·exact .inl h
 ·show Nat.testBit (bif cO (cK r.a)then s1.di||| 2 ^ r.i else s1.di) q.i=true;rcases dT.1 hq with rfl|hq
  ·rw[hk];exact uU.2 (.inr rfl)
  ·have:=h.di q hq hk;rw[hs.di];cases cO (cK r.a)
   ·exact this
   ·exact uU.2 (.inl this)
 ·show Nat.testBit (bif jL (cK r.a)then s1.make||| 2 ^ r.i else s1.make) q.i=true;rcases dT.1 hq with rfl|hq
  ·rw[hk];exact uU.2 (.inr rfl)
  ·have:=h.make q hq hk;rw[hs.make];cases jL (cK r.a)
   ·exact this
   ·exact uU.2 (.inl this)
 ·show q.i∈(bif lB (cK r.a)then r.i::s1.ed else s1.ed);rcases dT.1 hq with rfl|hq
  ·rw[hk];exact hJ
  ·have:=h.ed q hq hk;rw[hs.ed];cases lB (cK r.a)
   ·exact this
   ·exact fY _ this
 ·have Ho:j∈(bif lB (cK r.a)then r.i::s1.ed else s1.ed):=hj;have:j=r.i\/j∈s0.ed:=by
   rw[hs.ed]at Ho;cases hb:lB (cK r.a)<;>rw[hb]at Ho
   ·exact .inr Ho
   ·exact dT.1 Ho
  rcases this with rfl|hj
  ·exact⟨r,hJ,rfl⟩
  ·obtain⟨q,hq,e⟩:=h.abg j hj;exact⟨q,fY _ hq,e⟩
 ·rcases mU t od ht with e|⟨m8,g⟩
  ·exact⟨r,hJ,e.symm⟩
  ·obtain⟨q,hq,e⟩:=h.env t m8 g;exact⟨q,fY _ hq,e⟩
theorem LP{xH:List Nat}{σ0:pd}{D0:List gf}{H0:Heap}{nx0:Nat}(hA:A.P=P):∀(is:List Nat) (s s':Laid),rG P ins kept n true ops fQ xH is s=some s'->∃new,s'.out=new.reverse++s.out/\
  ∀pre T L D H nx r σ,cx A rn new T L D H nx=some r->gq kept σ s.env T L->yk pre s->JM P A rn ins kept n ops fQ σ0 D0 H0 nx0 pre->At σ0 D0 H0 nx0 pre σ D H nx->(∀ch,r.1≠.panic ch)->
   ∃R T' σ' D' H' nx',yk R s'/\JM P A rn ins kept n ops fQ σ0 D0 H0 nx0 R/\At σ0 D0 H0 nx0 R σ' D' H' nx'/\(∀t,eI kept t=true->(ah T' (cP t)).getD undef=σ' t)/\r=(.normal,⟨T',D',H',nx'⟩):=by
 intro is
 induction is with
 | nil=>
  intro s s' h;cases h;refine⟨[],rfl,λpre T L D H nx r σ hr he hl sy zV _=>?_⟩;have qp:some (Ex.normal,(⟨T,D,H,nx⟩:St))=some r:=hr;cases qp;exact⟨pre,T,σ,D,H,nx,hl,sy,zV,he.kept,rfl⟩
 | cons i is ih=>
  intro s s' h;unfold rG at h;cases ho:ops[i]? with
  | none=>rw[ho]at h;cases h
  | some o=>
   rw[ho]at h;simp only[cond_true]at h;split at h
   ·cases h
   ·rename_i s1 bt;split at h
    ·cases h
    ·rename_i k hk;obtain⟨AA,h⟩:=fx h;have cg:∀d,o.dst=some d->d<n:=by
      intro d hd;rw[hd]at AA;have OT:Nat.blt d n=true:=AA
      rwa [Nat.blt_eq]at OT
     obtain⟨abh,h⟩:=fx h;simp only[Bool.not_true,Bool.false_or,gd,Bool.not_eq_true']at abh;obtain⟨⟨⟨⟨c1,c2⟩,c3⟩,c4⟩,c5⟩:=abh;obtain⟨CB,env,a,b,g,hc,ht,hg,oU,cM,mU,OU,fT⟩:=Bl (A:=A) (rn:=rn) bt;have hka:k=a:=by rw[hk]at hc;exact jk hc
     subst hka;obtain⟨HN,OV,s8⟩:=ih _ _ h;refine⟨CB++HN,?_,λpre T L D H nx r σ hr he hl sy zV hnp=>?_⟩
     ·rw[OV];show HN.reverse++s1.out=_;rw[oU];simp
     ·obtain⟨L1,hE,sY⟩:=fT HN T L D H nx r σ hA hr he;rcases sY with⟨v,D',H',nx',T',L',bO,Ek,hE2,OZ⟩|⟨hw,ch,H',nx',HO,kk⟩
      ·have hkd:cK b=cK k:=lj (.loc 0) ht;have aeF:OX P A rn ins kept n ops fQ pre ⟨i,o,k,σ,D,H,nx,v,D',H',nx'⟩:=by
        refine⟨ho,hk,⟨env,T,L1,b,g,ht,hg,hE,λt od hm=>?_,bO⟩,cg,λj hj=>(hl.done j).1 (w8 c1 hj),λq hq e=>?_,c3,λg' w' m9=>?_,λhh q hq Tx=>?_,λhh q hq Tx=>?_,λhh q hq Tx LQ=>?_⟩
        ·obtain⟨m8,Ck⟩:=mU t od hm;exact hl.env t m8 Ck
        ·have:=(hl.done i).2 ⟨q,hq,e⟩;rw[c2]at this;cases this
        ·have Xj:o.guard=some (g',w'):=m9;rw[Xj]at c4;exact c4
        ·have Ty:cO (cK k)=true:=hh;cases Xk:cK k<;>rw[Xk]at Ty<;>first|cases Ty|skip
         rw[Xk]at c5;have c5':(sub s.di (fQ.getD i 0)&&sub s.make (fQ.getD i 0))=true:=c5;rw[gd]at c5';rcases Tx with Tx|Tx
         ·exact w8 c5'.1 (hl.di q hq Tx)
         ·exact w8 c5'.2 (hl.make q hq Tx)
        ·have Ty:lB (cK k)=true:=hh;cases Xk:cK k<;>rw[Xk]at Ty<;>first|cases Ty|skip
         rw[Xk]at c5;have c5':sub s.di (fQ.getD i 0)=true:=c5;exact w8 c5' (hl.di q hq Tx)
        ·exact⟨s.done,hl.done,OZ (by rw[hkd];exact hh) q.i (hl.ed q hq Tx) LQ⟩
       obtain⟨R,T2,σ2,D2,H2,nx2,q1,q2,q3,q4,q5⟩:=s8 (⟨i,o,k,σ,D,H,nx,v,D',H',nx'⟩::pre) T' L' D' H' nx' r _ Ek hE2 (hl.next (r:=⟨i,o,k,σ,D,H,nx,v,D',H',nx'⟩) cM OU) ⟨aeF,zV,sy⟩ ⟨rfl,rfl,rfl,rfl⟩ hnp;exact⟨R,T2,σ2,D2,H2,nx2,q1,q2,q3,q4,q5⟩
      ·exact absurd (by rw[HO]) (hnp ch)
end
section
variable {P:Program}{ins kept:List Nat}{n:Nat}{A:aN}{rn:ly}{T:Tr Value}{L:List Value}{D:List gf}{H:Heap}{nx:Nat}
def Up(f:RC):Prop:=∀T D H nx o,f T D H nx=some o->nx<=o.2.nx
def eF.count:eF->Nat
 | .ok _ _ nx=>nx
 | .rE _ _ nx=>nx
structure iR(r:ly):Prop where
 code:∀c,Up (r.code c)
 call:∀g vs H nx c,r.call g vs H nx=some c->nx<=c.count
def UpK(k:RL):Prop:=∀T L D H nx r,k T L D H nx=some r->nx<=r.2.nx
theorem EU{X:R0}{r:Ex×St}:∀{as:List cz},jJ P T L H as X=some r->X=some r:=by
 intro as
 induction as with
 | nil=>intro h;exact h
 | cons a as ih=>intro h;exact ih (vO h).1
theorem pD{p:Option (List Bool)}{ag:List cz}{k:RL}{v:Value}{r:Ex×St}(hk:UpK k)(h:bX P p ag k T L D v H nx=some r):nx<=r.2.nx:=by
 unfold bX at h;rw[jS]at h;exact hk _ _ _ _ _ _ (EU h)
theorem EV{p:Option (List Bool)}{ag:List cz}{k:RL}{c:eF}{r:Ex×St}(hk:UpK k)(hc:nx<=c.count)(h:ew P p ag k T L D c=some r):nx<=r.2.nx:=by
 cases c with
 | ok v H' nx'=>exact hX hc (pD hk h)
 | rE ch H' nx'=>
  have h':some (Ex.panic ch,(⟨T,D,H',nx'⟩:St))=some r:=h;cases h';exact hc
theorem O0{b:cr Od}{p:Option (List Bool)}{ag:List cz}{k:RL}{r:Ex×St}(hu:iR rn)(hk:UpK k)(h:uf b A rn p ag k b T L D H nx=some r):nx<=r.2.nx:=by
 by_cases hp:b.plain=true
 ·rw[lh hp]at h;have h':cY b A.P T L H nx (uk λx=>bX A.P p ag k T L D x.1 x.2.1 x.2.2)=some r:=h;obtain⟨x,h1,_,h3⟩:=nw b _ r h';exact hX h3 (pD hk h1)
 ·cases b with
  | call f args=>
   have h':bI T L f (λf=>dN T L args λvs=>gO vs (λg vs=>bd (rn.call g vs H nx) (ew A.P p ag k T L D)) f)=some r:=h;rw[dd]at h';obtain⟨fv,yh,h1⟩:=bn h';rw[eT]at h1;obtain⟨vs,mS,h2⟩:=bn h1;unfold gO at h2;split at h2
   ·obtain⟨c,g1,g2⟩:=bn h2;exact EV hk (hu.call _ _ _ _ _ g1) g2
   ·cases h2
  | inv x name args=>
   have h':bI T L x (λx=>dN T L args λvs=>qR A.P name H (λg v=>bd (rn.call g (v::vs) H nx) (ew A.P p ag k T L D)) x)=some r:=h;rw[dd]at h';obtain⟨fv,yh,h1⟩:=bn h';rw[eT]at h1;obtain⟨vs,mS,h2⟩:=bn h1;have hd:cj (λ_=>True) λk':FuncId×Value->R0=>qR A.P name H (λg v=>k' (g,v)) fv:=by
    unfold qR;split
    ·refine .bd λm=>?_
     unfold D5;cases m.2 with
     | none=>exact .ret _ trivial
     | some agg=>exact .ptr λ_ _=>.db λ_=>.bd λ_=>.ret _ trivial
    ·exact .no
   obtain⟨y,g1,_⟩:=hd.det (λy=>bd (rn.call y.1 (y.2::vs) H nx) (ew A.P p ag k T L D)) r h2;obtain⟨c,k1,k2⟩:=bn g1;exact EV hk (hu.call _ _ _ _ _ k1) k2
  | sx f args=>
   have h':bI T L f (λf=>dN T L args λvs=>uz f (bX A.P p ag k T L ((f,vs)::D) undef H nx))=some r:=h;rw[dd]at h';obtain⟨fv,yh,h1⟩:=bn h';rw[eT]at h1;obtain⟨vs,mS,h2⟩:=bn h1;unfold uz at h2;split at h2
   ·exact pD hk h2
   ·cases h2
  | rE x=>
   have h':bI T L x (D6 T D H nx)=some r:=h;rw[dd]at h';obtain⟨v,hv,h1⟩:=bn h';unfold D6 at h1;split at h1
   ·cases h1;exact au _
   ·cases h1
  | AX=>cases h
  | ins z bytes s i v=>
   have h':cY (.ins z bytes s i v) A.P T L H nx (uk λx=>bX A.P p ag k T L D x.1 x.2.1 x.2.2)=some r:=h;obtain⟨x,h1,_,h3⟩:=nw _ _ r h';exact hX h3 (pD hk h1)
  | _=>exact absurd rfl hp
theorem Tz{b:cr Od}{v:Value}{D':List gf}{H':Heap}{nx':Nat}(hu:iR rn)(h:∀p ag k,uf b A rn p ag k b T L D H nx=bX A.P p ag k T L D' v H' nx'):nx<=nx':=
 O0 (k:=uT) (p:=none) (ag:=[]) (r:=(.normal,⟨.n .e (some v) .e,D',H',nx'⟩)) hu (λT L D H nx r h=>by cases h;exact au _) ((h none [] uT).trans (jR.trans rfl))
theorem Bm(hu:iR rn):∀l:List (AO×List cz),UpK (cx A rn l):=by
 intro l
 induction l with
 | nil=>intro T L D H nx r h;cases h;exact au _
 | cons x l ih=>
  obtain⟨o,ag⟩:=x;intro T L D H nx r h;have h':cond (wanted L o.guard) (uf o.op A rn o.keep ag (cx A rn l) o.op T L D H nx) (bX A.P o.keep ag (cx A rn l) T L D undef H nx)=some r:=h;cases hw:wanted L o.guard with
  | true=>rw[hw]at h';exact O0 hu ih h'
  | false=>rw[hw]at h';exact pD ih h'
theorem JN{k:RC}{o1 o:Ex×St}(hk:Up k)(h:pr k o1=some o):o1.2.nx<=o.2.nx:=by
 obtain⟨e,st⟩:=o1;cases e with
 | normal=>exact hk _ _ _ _ _ h
 | exit i=>cases h;exact au _
 | ret=>cases h;exact au _
 | panic c=>cases h;exact au _
theorem LR{id:Nat}{o1 o:Ex×St}(h:rF id o1=some o):o1.2.nx<=o.2.nx:=by
 obtain⟨e,st⟩:=o1;cases e with
 | normal=>cases h;exact au _
 | exit i=>
  have h4:(cond (Nat.beq i id) (stay .normal) (stay (.exit i))) st=some o:=h;cases hb:Nat.beq i id<;>(rw[hb]at h4;cases h4;exact au _)
 | ret=>cases h;exact au _
 | panic c=>cases h;exact au _
theorem EW{o1 o:Ex×St}(h:xF o1=some o):o1=o/\o.1=.normal:=by
 obtain⟨e,st⟩:=o1;cases e<;>cases h
 exact⟨rfl,rfl⟩
theorem tj(hu:iR rn):∀c:bA,Up (cJ c A rn):=by
 intro c
 induction c with
 | skip=>intro T D H nx o h;cases h;exact au _
 | ae dr ops=>
  cases dr with
  | false=>intro T D H nx o h;exact Bm hu ops T [] D H nx o h
  | true=>
   intro T D H nx o h;obtain⟨o1,h1,h2⟩:=bn (show bd (cx A rn ops T [] D H nx) xF=some o from h);obtain⟨rfl,_⟩:=EW h2;exact Bm hu ops T [] D H nx _ h1
 | seq a b s7 Nv=>
  intro T D H nx o h;obtain⟨o1,h1,h2⟩:=bn (show bd (cJ a A rn T D H nx) (pr (cJ b A rn))=some o from h);exact hX (s7 _ _ _ _ _ h1) (JN Nv h2)
 | cond c a b s7 Nv=>
  intro T D H nx o h;have h':bI T [] c (λv=>hY v (cJ a A rn T D H nx) (cJ b A rn T D H nx))=some o:=h;rw[dd]at h';obtain⟨v,hv,h1⟩:=bn h';rcases py h1 with⟨_,h2⟩|⟨_,h2⟩
  ·exact s7 _ _ _ _ _ h2
  ·exact Nv _ _ _ _ _ h2
 | block id a s7=>
  intro T D H nx o h;obtain⟨o1,h1,h2⟩:=bn (show bd (cJ a A rn T D H nx) (rF id)=some o from h);exact hX (s7 _ _ _ _ _ h1) (LR h2)
 | loop a s7=>
  intro T D H nx o h;obtain⟨o1,h1,h2⟩:=bn (show bd (cJ a A rn T D H nx) (pr (rn.code (.loop a)))=some o from h);exact hX (s7 _ _ _ _ _ h1) (JN (hu.code _) h2)
 | exit id=>intro T D H nx o h;cases h;exact au _
 | ret=>intro T D H nx o h;cases h;exact au _
def rQ:List Value->Nat->Tr Value->Tr Value
 | [],_,T=>T
 | v::l,i,T=>rQ l (i+1) (cA (at_ i) T (some v))
theorem eh(l:List Value)(T:Tr Value)(k:Tr Value->R0):nR l T k=k (rQ l 0 T):=by
 have:∀(l:List Value) (i:Nat) (T:Tr Value) (k:Tr Value->R0),(List.rec (motive:=λ_=>Nat->Tr Value->(Tr Value->R0)->R0) (λ_ T k=>k T) (λv _ ih i T k=>eQ (at_ i) T (some v) λT=>ih (Nat.succ i) T k) l:Nat->Tr Value->(Tr Value->R0)->R0) i T k=k (rQ l i T):=by
  intro l
  induction l with
  | nil=>intro i T k;rfl
  | cons v l ih=>
   intro i T k;show eQ (at_ i) T (some v) (λT=>(List.rec (motive:=λ_=>Nat->Tr Value->(Tr Value->R0)->R0) (λ_ T k=>k T) (λv _ ih i T k=>eQ (at_ i) T (some v) λT=>ih (Nat.succ i) T k) l:Nat->Tr Value->(Tr Value->R0)->R0) (Nat.succ i) T k)=_;rw[cL,ih];rfl
 exact this l 0 T k
theorem JO{o:Ex×St}{u:FrameMode}{y:FrameMode×Heap×Nat}(h:Le o u=some y):y.2.2=o.2.nx:=by
 unfold Le at h;split at h<;>cases h<;>rfl
theorem CD(hu:iR rn){f:Value}{args:List Value}{u:FrameMode}{y:FrameMode×Heap×Nat}(h:iO A rn f args u H nx=some y):nx<=y.2.2:=by
 unfold iO at h;split at h
 ·split at h
  ·split at h
   ·obtain⟨o,h1,h2⟩:=bn h;rw[eh,cL]at h1;rw[JO h2];exact tj hu _ _ _ _ _ _ h1
   ·obtain⟨o,h1,h2⟩:=bn h;rw[eh]at h1;rw[JO h2];exact tj hu _ _ _ _ _ _ h1
  ·cases h
 ·cases h
theorem HP(hu:iR rn):∀(D:List gf) (u:FrameMode) (H:Heap) (nx:Nat) (y:FrameMode×Heap×Nat),gP A rn D u H nx=some y->nx<=y.2.2:=by
 intro D
 induction D with
 | nil=>intro u H nx y h;cases h;exact au _
 | cons d D ih=>
  obtain⟨f,args⟩:=d;intro u H nx y h;unfold gP at h;split at h
  ·rename_i u1 H1 aQ h1;exact hX (CD hu h1) (ih _ _ _ _ h)
  ·cases h
theorem EX{l:List (Od×Option (Option Nat))}{k:List Value->Option eF}{c:eF}(h:ir T H l k=some c):∃vs,k vs=some c:=by
 induction l generalizing k with
 | nil=>exact⟨[],h⟩
 | cons x l ih=>
  have h':Ld T H x (λv=>ir T H l λvs=>k (v::vs))=some c:=h;have hk:∀v,ir T H l (λvs=>k (v::vs))=some c->∃vs,k vs=some c:=by
   intro v hv;obtain⟨vs,g⟩:=ih hv;exact⟨v::vs,g⟩
  unfold Ld at h';split at h'
  ·obtain⟨v,_,g⟩:=bn h';exact hk v g
  ·split at h'
   ·split at h'
    ·obtain⟨v,_,g⟩:=bn h';exact hk v g
    ·cases h'
   ·cases h'
  ·cases h'
theorem uV(hu:iR rn){af:az}{u:FrameMode}{st:St}{c:eF}(h:pt A rn af u st=some c):st.nx<=c.count:=by
 obtain⟨T,D,H,nx⟩:=st;obtain⟨y,h1,h2⟩:=bn (show bd (gP A rn D u H nx) (nS af T)=some c from h);have h3:=HP hu _ _ _ _ _ h1;refine hX h3 ?_;obtain⟨m,H',nx'⟩:=y;unfold nS at h2;split at h2
 ·rename_i hx;cases hx;obtain⟨vs,g⟩:=EX h2;cases g;exact au _
 ·rename_i hx;cases hx;cases h2;exact au _
 ·cases h2
theorem Xl(hk:∀g vs H nx c,A.aS g vs H nx=some c->nx<=c.count)(n:Nat):iR (run A n):=by
 induction n with
 | zero=>exact⟨(λc T D H nx o h=>by cases h),(λg vs H nx c h=>by cases h)⟩
 | succ n ih=>
  refine⟨λc=>tj ih c,λg vs H nx c h=>?_⟩;have h':(Option.rec (bd (A.funcs g) (lz A (run A n) vs H nx)) some (A.aS g vs H nx):Option eF)=some c:=h;cases hh:A.aS g vs H nx with
  | some c'=>
   rw[hh]at h';cases h';exact hk _ _ _ _ _ hh
  | none=>
  rw[hh]at h';obtain⟨af,h1,h2⟩:=bn (show bd (A.funcs g) (lz A (run A n) vs H nx)=some c from h');obtain⟨o,h3,h4⟩:=bn (show bd (nR vs .e λT=>cJ af.body A (run A n) T [] H nx) (Aj A (run A n) af)=some c from h2);rw[eh]at h3;have h5:=tj ih _ _ _ _ _ _ h3;refine hX h5 ?_;obtain⟨e,st⟩:=o;cases e with
  | normal=>exact uV ih h4
  | exit i=>cases h4
  | ret=>exact uV ih h4
  | panic ch=>exact uV ih h4
end
section
variable {P:Program}{ins:List Nat}
theorem EY{fs:List Field}:∀{l:List (Nat×Operand)} {r:List (Nat×Nat×Operand)},kQ P fs l=some r->∀x∈r,x.2.2∈l.map (·.2):=by
 intro l
 induction l with
 | nil=>intro r h x hx;cases h;simp at hx
 | cons y l ih=>
  obtain⟨i,y⟩:=y;intro r h x hx;unfold kQ at h;split at h
  ·rename_i f rs _ hrs;split at h
   ·cases h;rcases dT.1 hx with rfl|hx
    ·simp
    ·exact fY _ (ih hrs x hx)
   ·cases h
  ·cases h
theorem vQ{z:Nat}:∀{l:List (Nat×Operand)},∀x∈fK z l,x.2.2∈l.map (·.2):=by
 intro l
 induction l with
 | nil=>intro x hx;simp[fK]at hx
 | cons y l ih=>
  obtain⟨i,y⟩:=y;intro x hx;rcases dT.1 hx with rfl|hx
  ·simp
  ·exact fY _ (ih x hx)
theorem mV{o:Oper}{a:cr Operand}(h:ar P ins o=some a):a.all λx=>x∈o.op.operands.toList:=by
 cases ho:o.op with
 | build t parts=>
  simp only[ar,ho]at h;split at h
  ·obtain⟨ps,zQ,rfl⟩:=Option.map_eq_some_iff.1 (ey h);intro x hx
   simpa[Op.operands]using EY zQ x hx
  ·split at h
   ·cases h;intro x hx
    simpa[Op.operands]using vQ x hx
   ·cases h
  ·cases h
 | buildSlice t len parts=>
  simp only[ar,ho]at h;split at h
  ·split at h
   ·replace h:=ey h
    cases h;intro x hx
    simpa[Op.operands]using vQ x hx
   ·cases h
  ·cases h
 | binOp op t x y b=>
  simp only[ar,ho]at h;unfold jK at h
  repeat' split at h
  all_goals first
   | (replace h:=ey h;cases h;simp[cr.all,Op.operands])
   | (cases h;done)
   | (cases h;simp[cr.all,Op.operands])
 | call d=>
  simp only[ar,ho]at h;cases hd:d.callee with
  | builtin b=>
   rw[hd]at h;simp only at h;have cF:∀x∈d.args.toList,x∈(Op.call d).operands.toList:=by
    intro x hx;simp only[Op.operands,Call.operands,hd]
    simpa using hx
   unfold dh at h;generalize d.args.toList=as at h cF;generalize d.argTypes.toList=ts at h
   repeat' split at h
   all_goals first
    | (cases h;done)
    | (replace h:=ey h;cases h;simp only[cr.all];refine⟨cF _ ?_,cF _ ?_⟩<;>simp)
    | (cases h;simp only[cr.all];refine⟨cF _ ?_,cF _ ?_⟩<;>simp)
    | (cases h;simp only[cr.all];exact cF _ (by simp))
    | (cases h;exact cF)
    | (cases h;simp[cr.all])
  | value f=>
   rw[hd]at h;have hf:f∈(Op.call d).operands.toList:=by simp[Op.operands,Call.operands,hd]
   have cF:∀x∈d.args.toList,x∈(Op.call d).operands.toList:=by
    intro x hx;simp only[Op.operands,Call.operands,hd];simp[Array.mem_def.2 hx]
   cases f with
   | func g=>
    simp only at h;cases hg:eI ins g with
    | true=>
     rw[hg]at h;simp only[cond_true]at h;split at h
     ·rename_i s i v t ts Xm _;rw[Xm]at cF;split at h
      ·split at h
       ·cases h;exact⟨cF _ (by simp),cF _ (by simp),cF _ (by simp)⟩
       ·cases h
      ·cases h
     ·cases h
    | false=>rw[hg]at h;cases h;exact⟨hf,cF⟩
   | _=>simp only at h;cases h;exact⟨hf,cF⟩
  | invoke x name=>
   rw[hd]at h;simp only at h;cases h;have hf:x∈(Op.call d).operands.toList:=by simp[Op.operands,Call.operands,hd]
   refine⟨hf,λy hy=>?_⟩;simp only[Op.operands,Call.operands,hd];simp[Array.mem_def.2 hy]
 | defer d=>
  simp only[ar,ho]at h;split at h
  ·rename_i f hd;cases h;refine⟨by simp[Op.operands,Call.operands,hd],λy hy=>?_⟩;simp only[Op.operands,Call.operands,hd];simp[Array.mem_def.2 hy]
  ·cases h
 | makeFunc f a b=>
  cases f with
  | func f=>
   simp only[ar,ho,Option.some.injEq]at h;subst h;refine⟨λx hx=>?_,λx hx=>?_⟩<;>simp[Op.operands,Array.mem_def.2 hx]
  | _=>simp only[ar,ho]at h;cases h
 | slice t x lo hi mx=>
  have key:∀y,(y=x\/y∈lo\/y∈hi\/y∈mx)->y∈(Op.slice t x lo hi mx).operands.toList:=by
   intro y;cases lo<;>cases hi<;>cases mx<;>simp[Op.operands]<;>grind
  simp only[ar,ho]at h;split at h
  ·replace h:=ey h
   obtain⟨z,_,rfl⟩:=Option.map_eq_some_iff.1 h;exact⟨key _ (.inl rfl),λy hy=>key _ (.inr (.inl hy)),λy hy=>key _ (.inr (.inr (.inl hy))),λy hy=>key _ (.inr (.inr (.inr hy)))⟩
  ·split at h
   ·cases h;exact⟨key _ (.inl rfl),λy hy=>key _ (.inr (.inl hy)),λy hy=>key _ (.inr (.inr (.inl hy)))⟩
   ·cases h
  ·cases h
 | makeMap t r=>
  simp only[ar,ho]at h;split at h
  ·cases h;intro x hx;simp[Op.operands];exact hx
  ·cases h
 | next x q=>
  cases q with
  | false=>simp only[ar,ho]at h;cases h;simp[cr.all,Op.operands]
  | true=>simp only[ar,ho]at h;cases h
 | _=>
  simp only[ar,ho]at h
  repeat' split at h
  all_goals first
   | (cases h;done)
   | (replace h:=ey h;cases h;simp[cr.all,Op.operands];done)
   | (obtain⟨z,_,rfl⟩:=Option.map_eq_some_iff.1 h;simp[cr.all,Op.operands];done)
   | (cases h;simp[cr.all,Op.operands];done)
end
section
variable {P:Program}{ρ ρ':bY}{n m:Nat}
def bY.upto(ρ:bY)(n:Nat):bY:=λb=>if b<n then ρ b else none
def Below(ρ:bY)(n:Nat):Prop:=∀b,n<=b->ρ b=none
theorem bY.qu{b:Nat}(h:b<n):ρ.upto n b=ρ b:=aJ h
theorem bY.JP{b:Nat}(h:n<=b):ρ.upto n b=none:=aw (Nat.not_lt.2 h)
theorem lL:Below (ρ.upto n) n:=λ_ h=>bY.JP h
theorem pE:Ext (ρ.upto n) ρ:=by
 intro b r h;unfold bY.upto at h;split at h
 ·exact h
 ·cases h
theorem uW{b:Nat}{r r':Ref}(h:ρ b=some r)(h':ρ' b=some r')(hb:Below ρ' n):ρ.upto n b=some r:=by
 have:b<n:=by
  rcases rD b n with h1|h1
  ·exact h1
  ·rw[hb b h1]at h';cases h'
 rw[bY.qu this];exact h
mutual
theorem VR.upto(hb:Below ρ' n):∀{v u u':Value},VR ρ v u->VR ρ' v u'->VR (ρ.upto n) v u
 | _,_,_,.sc h,_=>.sc h
 | _,_,_,.wF,_=>.wF
 | _,_,_,.D8,_=>.D8
 | _,_,_,.ptr h,h'=>by
  cases h' with
  | sc h=>simp[scalar]at h
  | ptr h'=>exact .ptr (uW h h' hb)
 | _,_,_,.mP,_=>.mP
 | _,_,_,.sl h hl hs he hp,h'=>by
  cases h' with
  | sc h=>simp[scalar]at h
  | sl h' _ _ _ _=>exact .sl (uW h h' hb) hl hs he hp
 | _,_,_,.Jz,_=>.Jz
 | _,_,_,.wG,_=>.wG
 | _,_,_,.map h,h'=>by
  cases h' with
  | sc h=>simp[scalar]at h
  | map h'=>exact .map (uW h h' hb)
 | _,_,_,.func h1 h2,h'=>by
  cases h' with
  | sc h=>simp[scalar]at h
  | func h3 h4=>exact .func (dJ.upto hb h1 h3) (dJ.upto hb h2 h4)
 | _,_,_,.iface h,h'=>by
  cases h' with
  | sc h=>simp[scalar]at h
  | iface h'=>exact .iface (VR.upto hb h h')
 | _,_,_,.agg h,h'=>by
  cases h' with
  | sc h=>simp[scalar]at h
  | agg h'=>exact .agg (dJ.upto hb h h')
 | _,_,_,.tuple h,h'=>by
  cases h' with
  | sc h=>simp[scalar]at h
  | tuple h'=>exact .tuple (dJ.upto hb h h')
 | _,_,_,.any h,_=>.any h
 | _,_,_,.AY h,_=>.AY h
theorem dJ.upto(hb:Below ρ' n):∀{v u u':List Value},dJ ρ v u->dJ ρ' v u'->dJ (ρ.upto n) v u
 | _,_,_,.nil,_=>.nil
 | _,_,_,.cons h hs,h'=>by
  cases h' with
  | cons h1 h2=>exact .cons (VR.upto hb h h1) (dJ.upto hb hs h2)
end
theorem oS.upto(hb:Below ρ' n){v u u':List MapEntry}(h:oS ρ v u)(h':oS ρ' v u'):oS (ρ.upto n) v u:=by
 induction h generalizing u' with
 | nil=>exact .nil
 | cons hk hv o9 _ ih=>
  cases h' with
  | cons iS lY _ h'=>exact .cons (hk.upto hb iS) (hv.upto hb lY) o9 (ih h')
theorem BR.upto(hb:Below ρ' n){hp m6:Array Obj}{r r':Ref}{k:jb}(h:BR ρ hp r k)(h':BR ρ' m6 r' k):BR (ρ.upto n) hp r k:=by
 cases k with
 | cells cs=>
  obtain⟨a,e,h1,h2,h3⟩:=h;obtain⟨a',e',_,_,Nw⟩:=h';refine⟨a,e,h1,h2,λi v hv=>?_⟩;obtain⟨u,g1,g2⟩:=h3 i v hv;obtain⟨u',_,g2'⟩:=Nw i v hv;exact⟨u,g1,g2.upto hb g2'⟩
 | map es c=>
  obtain⟨xT,h1,h2⟩:=h;obtain⟨ahN,_,DP⟩:=h';exact⟨xT,h1,h2.upto hb DP⟩
 | ro cs=>
  obtain⟨a,e,f,h1,h2,h3⟩:=h;obtain⟨a',e',f',_,_,Nw⟩:=h';refine⟨a,e,f,h1,h2,λi v hv=>?_⟩;obtain⟨u,g1,g2⟩:=h3 i v hv;obtain⟨u',_,g2'⟩:=Nw i v hv;exact⟨u,g1,g2.upto hb g2'⟩
 | iter m a s c=>
  obtain⟨h0,m1,h1,h2⟩:=h;obtain⟨_,m1',_,DP⟩:=h';exact⟨h0,m1,h1,h2.upto hb DP⟩
theorem Tn.upto(hb:Below ρ' n){x:gf}{d d':Deferred}(h:Tn ρ x d)(h':Tn ρ' x d'):Tn (ρ.upto n) x d:=by
 obtain⟨f,a,a',c,c',vs,h1,h2,h3,h4,h5⟩:=h;obtain⟨f',a2,a2',c2,O1,Vv,ru,DP,Nw,h4',h5'⟩:=h';rw[h1]at ru;simp only[Value.func.injEq,Fn.func.injEq,Array.mk.injEq]at ru;obtain⟨rfl,rfl,rfl⟩:=ru;exact⟨f,a,a',c,c',vs,h1,h2,h3.upto hb Nw,h4.upto hb h4',h5.upto hb h5'⟩
theorem je.upto(hb:Below ρ' n){l:List gf}{d d':List Deferred}(h:je ρ l d)(h':je ρ' l d'):je (ρ.upto n) l d:=by
 induction h generalizing d' with
 | nil=>exact .nil
 | cons hx _ ih=>
  cases h' with
  | cons sV h'=>exact .cons (hx.upto hb sV) (ih h')
def kU(n:Nat)(v:Value):Prop:=∃ρ u,VR ρ v u/\Below ρ n
def qW(n b:Nat)(k:jb):Prop:=∃ρ hp r,ρ b=some r/\BR ρ hp r k/\Below ρ n
def AD(n:Nat)(D:List gf):Prop:=∃ρ l,je ρ D l/\Below ρ n
theorem Below.mono(h:Below ρ n)(hn:n<=m):Below ρ m:=λb hb=>h b (hX hn hb)
theorem kU.mono{v:Value}(h:kU n v)(hn:n<=m):kU m v:=let ⟨ρ,u,h1,h2⟩:=h;⟨ρ,u,h1,h2.mono hn⟩
theorem qW.mono{b:Nat}{k:jb}(h:qW n b k)(hn:n<=m):qW m b k:=let ⟨ρ,hp,r,h1,h2,h3⟩:=h;⟨ρ,hp,r,h1,h2,h3.mono hn⟩
theorem AD.mono{D:List gf}(h:AD n D)(hn:n<=m):AD m D:=let ⟨ρ,u,h1,h2⟩:=h;⟨ρ,u,h1,h2.mono hn⟩
theorem kU.cut{v u:Value}(h:kU n v)(hv:VR ρ v u):VR (ρ.upto n) v u:=let ⟨_,_,h1,h2⟩:=h;hv.upto h2 h1
theorem qW.cut{b:Nat}{k:jb}{hp:Array Obj}{r:Ref}(h:qW n b k)(hv:BR ρ hp r k):BR (ρ.upto n) hp r k:=let ⟨_,_,_,_,h1,h2⟩:=h;hv.upto h2 h1
theorem qW.lt{b:Nat}{k:jb}(h:qW n b k):b<n:=by
 obtain⟨ρ,hp,r,h1,_,h2⟩:=h;rcases rD b n with h3|h3
 ·exact h3
 ·rw[h2 b h3]at h1;cases h1
theorem AD.cut{D:List gf}{l:List Deferred}(h:AD n D)(hv:je ρ D l):je (ρ.upto n) D l:=let ⟨_,_,h1,h2⟩:=h;hv.upto h2 h1
theorem VR.low{v u:Value}(h:VR ρ v u)(hb:Below ρ n):kU n v:=⟨ρ,u,h,hb⟩
theorem HR.Xn{H:Heap}{nx:Nat}{hp:Array Obj}(h:HR ρ H nx hp){b:Nat}{k:jb}(hb:ah H (at_ b)=some k):qW nx b k:=let ⟨r,h1,h2⟩:=h.blk b k hb;⟨ρ,hp,r,h1,h2,h.new⟩
theorem kU.none:kU n Go.undef:=⟨λ_=>Option.none,Go.undef,VR.undef,λ_ _=>rfl⟩
end
section
variable {P:Program}{T:Tr Value}{L:List Value}{H:Heap}{nx:Nat}
def TA:KA:=λv H nx=>some (.normal,⟨.n .e (some v) .e,[],H,nx⟩)
theorem tk{v v':Value}{H H':Heap}{nx nx':Nat}(h:TA v H nx=TA v' H' nx'):v=v'/\H=H'/\nx=nx':=by
 unfold TA at h;simp only[Option.some.injEq,Prod.mk.injEq,St.mk.injEq,Tr.n.injEq,true_and,and_true]at h;exact h
theorem EZ{a:cr Od}{v:Value}{H':Heap}{nx':Nat}(hk:cK a=.pure)(h:∀k,cY a P T L H nx k=k v H' nx'):H'=H/\nx'=nx/\∀H2 nx2 k,cY a P T L H2 nx2 k=k v H2 nx2:=by
 have key:∀H2 nx2 k,cY a P T L H2 nx2 k=e7 a P T L .e λv=>k v H2 nx2:=by
  cases a<;>first|(cases hk;done)|(intro _ _ _;rfl)
 have h1:=h TA;rw[key]at h1;obtain⟨x,g1,g2⟩:=bC (P:=P) (T:=T) (L:=L) (H:=.e) a _ _ (h1.trans rfl);obtain⟨rfl,rfl,rfl⟩:=tk (g1.trans rfl);exact⟨rfl,rfl,λH2 nx2 k=>(key H2 nx2 k).trans (g2 _)⟩
theorem E0{a:cr Od}{v:Value}{H':Heap}{nx':Nat}(hk:cK a=.load)(h:∀k,cY a P T L H nx k=k v H' nx'):H'=H/\nx'=nx/\(∀k,e7 a P T L H k=k v)/\∀H2 nx2 k,cY a P T L H2 nx2 k=e7 a P T L H2 λv=>k v H2 nx2:=by
 have key:∀H2 nx2 k,cY a P T L H2 nx2 k=e7 a P T L H2 λv=>k v H2 nx2:=by
  cases a<;>first|(cases hk;done)|(intro _ _ _;rfl)
 have h1:=h TA;rw[key]at h1;obtain⟨x,g1,g2⟩:=bC (P:=P) (T:=T) (L:=L) (H:=H) a _ _ (h1.trans rfl);obtain⟨rfl,rfl,rfl⟩:=tk (g1.trans rfl);exact⟨rfl,rfl,g2,key⟩
theorem HQ{a:cr Od}(hk:cK a=.make):∃F:(Value->jb->R0)->R0,cj (λ_=>True) (λk:Value×jb->R0=>F λv b=>k (v,b))/\∀H k,cY a P T L H nx k=F λv b=>k v (cA (at_ nx) H (some b)) (nx+1):=by
 cases a with
 | box x=>
  exact⟨λk=>bI T L x λv=>k (ptrTo nx) (.cells (cellsOf v)),.ev λ_=>.ret _ trivial,λH k=>by
   show bI T L x (λv=>eQ _ _ _ _)=_;simp only[cL]⟩
 | gM zero=>exact⟨λk=>k (ptrTo nx) (.cells zero),.ret _ trivial,λH k=>cL _ _ _ _⟩
 | mO z bytes zero l c=>
  refine⟨λk=>bI T L l λl=>dp l λl=>bI T L c λc=>dp c λc=>cond (and (Nat.ble l c) (and (Nat.ble (Nat.mul c bytes) small) (and (Nat.ble c small) (Nat.blt 0 z)))) (k (wE nx z l (Nat.succ (Nat.mul 2 c))) (.cells (bj zero c))) none,
   .ev λ_=>.nat λ_=>.ev λ_=>.nat λ_=>.cond (.ret _ trivial) .no,λH k=>?_⟩
  show bI T L l (λl=>dp l λl=>bI T L c λc=>dp c λc=>cond _ (eQ _ _ _ _) none)=_;simp only[cL]
 | fC z len zero parts=>
  refine⟨λk=>eX T L parts λps=>bd (fJ (bj zero len) ps) λcs=>cond (Nat.blt 0 z) (k (wE nx z len (Nat.succ (Nat.mul 2 len))) (.cells cs)) none,
   .parts λ_=>.bd λ_=>.cond (.ret _ trivial) .no,λH k=>?_⟩
  show eX T L parts (λps=>bd _ λcs=>cond _ (eQ _ _ _ _) none)=_;simp only[cL]
 | Np r=>
  refine⟨λk=>jd T L r 0 λ_=>k (.map (some nx)) (.map [] 0),.opt (d:=0) (F:=λ_ k=>k (Value.map (some nx),jb.map [] 0)) λ_=>.ret _ trivial,λH k=>?_⟩;show jd T L r 0 (λ_=>eQ _ _ _ _)=_;simp only[cL]
 | _=>cases hk
theorem yl{a:cr Od}{v:Value}{H':Heap}{nx':Nat}(hk:cK a=.make)(h:∀k,cY a P T L H nx k=k v H' nx') :
  ∃blk,H'=cA (at_ nx) H (some blk)/\nx'=nx+1/\∀H2 k,cY a P T L H2 nx k=k v (cA (at_ nx) H2 (some blk)) (nx+1):=by
 obtain⟨F,hF,key⟩:=HQ (P:=P) (T:=T) (L:=L) (nx:=nx) hk;have h1:=h TA;rw[key]at h1;obtain⟨x,g1,g2⟩:=hF.det (λx=>TA x.1 (cA (at_ nx) H (some x.2)) (nx+1)) _ (h1.trans rfl);obtain⟨e1,e2,e3⟩:=tk (g1.trans rfl);refine⟨x.2,e2.symm,e3.symm,λH2 k=>?_⟩;rw[key];exact(g2 λx=>k x.1 (cA (at_ nx) H2 (some x.2)) (nx+1)).trans (by rw[e1])
def pF:Value->Option Nat
 | .pointer (some a)=>some a.block
 | .map (some r)=>some r
 | _=>none
def mC{α:Type}:cr α->Option α
 | .an x _=>some x
 | .GU x=>some x
 | .AW x _ _ _ _=>some x
 | _=>none
theorem Bn{a:cr Operand}{f:Operand->Value}{H2:Heap}(hk:cK a=.load)(hs:∀x b,mC a=some x->pF (f x)=some b->ah H2 (at_ b)=ah H (at_ b))(k:KV) :
  e7 (a.map (Av f)) P T L H2 k=e7 (a.map (Av f)) P T L H k:=by
 cases a with
 | an x agg=>
  have:=hs x;show dU (f x) (λb o=>db H2 b _)=dU (f x) (λb o=>db H b _);unfold dU;split
  ·rename_i b o e;have:=hs x b rfl (by rw[e];rfl);show onRead (ah H2 (at_ b)) _=onRead (ah H (at_ b)) _;rw[this]
  ·rfl
 | GU x=>
  show Ce H2 (f x) k=Ce H (f x) k;unfold Ce;split
  ·rfl
  ·rename_i r e;rw[hs x r rfl (by rw[e];rfl)]
  ·rfl
 | AW x key kt zero ok=>
  show Cf P kt zero ok H2 (f key) k (f x)=Cf P kt zero ok H (f key) k (f x);unfold Cf;split
  ·rfl
  ·rename_i r e;rw[hs x r rfl (by rw[e];rfl)]
  ·rfl
 | _=>cases hk
theorem O2{a:cr Operand}{f:Operand->Value}{v:Value}{p:Operand->Prop}(hk:cK a=.load)(h:∀k,e7 (a.map (Av f)) P T L H k=k v)(hx:∀x,mC a=some x->p x)(hf:∀x,flat (f x)=true->p x):a.all p:=by
 cases a with
 | an x agg=>exact hx x rfl
 | GU x=>exact hx x rfl
 | AW x key kt zero ok=>
  refine⟨hx x rfl,hf key ?_⟩;have h1:Cf P kt zero ok H (f key) ui (f x)=ui v:=h ui;unfold Cf at h1;split at h1
  ·cases hb:flat (f key)with
   | true=>rfl
   | false=>rw[hb]at h1;cases h1
  ·unfold jI at h1;rename_i r e;cases hg:ah H (at_ r)with
   | none=>rw[hg]at h1;cases h1
   | some b=>
    rw[hg]at h1;cases b with
    | cells cs=>cases h1
    | ro cs=>cases h1
    | iter _ _ _ _=>cases h1
    | map es c=>
     have h2:bd (findAt P es.isEmpty kt (f key) es) (aaR es zero ok ui)=ui v:=h1;obtain⟨i,hi,_⟩:=bn (h2.trans rfl);unfold findAt at hi;have:=(fx hi).1;simp only[gd]at this;exact this.1
  ·cases h1
 | _=>cases hk
theorem rR{u v:Value}(h:ff u v=true):u=v:=by
 unfold ff at h;split at h
 ·rename_i a b;cases a<;>cases b<;>first|rfl|cases h
 ·simp at h;rw[h.1,h.2]
 ·rfl
 ·simp at h;rw[h]
 ·simp at h;rw[h.1,h.2]
 ·simp at h;obtain⟨⟨h1,h2⟩,h3⟩:=h;rw[h1,h2,h3]
 ·rfl
 ·rw[dB h]
 ·cases h
theorem HS:∀{u v:List Value},SV u v=true->u=v:=by
 intro u
 induction u with
 | nil=>intro v h;cases v<;>first|rfl|cases h
 | cons a u ih=>
  intro v h;cases v with
  | nil=>cases h
  | cons b v=>
   have h':(ff a b&&SV u v)=true:=h;rw[gd]at h';rw[rR h'.1,ih h'.2]
theorem LS{u v:Value}(h:mc u v=true):u=v:=by
 unfold mc at h;split at h
 ·have:=HS h;rename_i a b;cases a;cases b
  simp at this;rw[this]
 ·exact rR h
end
end Go.Eng
