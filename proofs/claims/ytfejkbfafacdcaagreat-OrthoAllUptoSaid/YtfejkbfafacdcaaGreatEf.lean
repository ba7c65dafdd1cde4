import Derived.Test.YtfejkbfafacdcaaGreatEd
import Derived.Shelf.Spec.SlicesInsert
import Derived.Shelf.Spec.SlicesInsertGrow
/- An interpreter of the model's code that follows one order and is proved right for all: part 6. -/

namespace Go.Eng
open Go.Shelf
variable {P:Program} {ρ:bA} {H:Heap} {nx:Nat} {w:World} {Cs:Ren}
theorem IW {o:Oper} {g:FuncId} {z bytes:Nat} {s i v:Operand} (h:ai P [g] o=some (.ins z bytes s i v)):z=1∧bytes=8∧∃d,o.op=.call d∧d.callee=.value (.func g)∧d.args.toList=[s,i,v]:=by
 cases ho:o.op with
 | call d=>
  simp only [ai,ho] at h
  cases hd:d.callee with
  | value f=>
   rw [hd] at h
   cases f with
   | func g'=>
    simp only at h
    cases hg:dB [g] g' with
    | true=>
     rw [hg] at h
     simp only [cond_true] at h
     have hgg:g'=g:=by
      have:=gN.1 hg
      simpa using this
     subst hgg
     split at h
     ·rename_i s' i' v' t ts b5 _
      split at h
      ·split at h
       ·cases h
        exact ⟨rfl,rfl,d,rfl,hd,b5⟩
       ·cases h
      ·cases h
     ·cases h
    | false=>rw [hg] at h;cases h
   | _=>simp only at h;cases h
  | builtin b=>
   exfalso
   rw [hd] at h
   simp only at h
   unfold cK at h
   repeat' split at h
   all_goals first
    | (cases h;done)
    | (replace h:=dC h;cases h;done)
  | invoke x name=>rw [hd] at h;cases h
 | binOp op t x y b=>
  exfalso
  simp only [ai,ho] at h
  unfold gW at h
  repeat' split at h
  all_goals first
   | (cases h;done)
   | (replace h:=dC h;cases h;done)
 | makeFunc f a b=>exfalso;cases f<;>simp only [ai,ho] at h<;>cases h
 | next x q=>exfalso;cases q<;>simp only [ai,ho] at h<;>cases h
 | _=>
  exfalso
  simp only [ai,ho] at h
  repeat' split at h
  all_goals first
   | (cases h;done)
   | (obtain ⟨z,_,h⟩:=Option.map_eq_some_iff.1 (dC h);cases h;done)
   | (replace h:=dC h;cases h;done)
   | (obtain ⟨z,_,h⟩:=Option.map_eq_some_iff.1 h;cases h;done)
theorem ya {b o:Nat} {v:Value} {a:Array Value} {e:TypeId} {fr:Nat×Nat} (h:w.heap[b]?=some (.cells a e fr)):(w.setCell ⟨b,o,none⟩ v).heap[b]?=some (.cells (a.setIfInBounds o v) e fr):=by
 show (w.heap.modify b _)[b]?=_
 rw [Array.getElem?_modify,if_pos rfl,h]
 rfl
theorem vL {b c o:Nat} {v:Value} (h:c≠b):(w.setCell ⟨b,o,none⟩ v).heap[c]?=w.heap[c]?:=by
 show (w.heap.modify b _)[c]?=_
 rw [Array.getElem?_modify,if_neg (fun e=>h e.symm)]
structure IX (w w':World) (b:Nat) (a a':Array Value) (e:TypeId):Prop where
 here:w'.heap[b]?=some (.cells a' e (0,0))
 size:a'.size=a.size
 there:∀c,c≠b→w'.heap[c]?=w.heap[c]?
 heap:w'.heap.size=w.heap.size
 os:w'.os=w.os
 tape:w'.tape=w.tape
 output:w'.output=w.output
theorem fj {b:Nat} {e:TypeId}:∀(vs:List Value) (o:Nat) (w:World) (a:Array Value),w.heap[b]?=some (.cells a e (0,0))→∃a',IX w (w.setCells b o vs) b a a' e∧
  ∀j,a'[j]?=if o≤j∧j < o + vs.length∧j < a.size then vs[j - o]? else a[j]?:=by
 intro vs
 induction vs with
 | nil=>
  intro o w a h
  refine ⟨a,⟨h,rfl,fun _ _=>rfl,rfl,rfl,rfl,rfl⟩,fun j=>?_⟩
  rw [if_neg (by simp;omega)]
 | cons v vs ih=>
  intro o w a h
  obtain ⟨a',h1,h2⟩:=ih (o + 1) (w.setCell ⟨b,o,none⟩ v) (a.setIfInBounds o v) (ya h)
  refine ⟨a',⟨h1.here,by rw [h1.size];simp,fun c hc=>(h1.there c hc).trans (vL hc),by rw [World.setCells,h1.heap];simp [World.setCell],h1.os,h1.tape,h1.output⟩,fun j=>?_⟩
  rw [h2]
  simp only [Array.size_setIfInBounds,List.length_cons]
  by_cases h3:o + 1≤j∧j < o + 1 + vs.length∧j < a.size
  ·rw [if_pos h3,if_pos (by omega)]
   have:j - o=(j - (o + 1)) + 1:=by omega
   rw [this,List.getElem?_cons_succ]
  ·rw [if_neg h3,Array.getElem?_setIfInBounds]
   by_cases h4:o=j
   ·subst h4
    by_cases h5:o < a.size
    ·rw [if_pos rfl,if_pos h5,if_pos (by omega)]
     simp
    ·rw [if_pos rfl,if_neg h5,if_neg (by omega)]
     rw [Array.getElem?_eq_none (by omega)]
   ·rw [if_neg h4,if_neg (by omega)]
theorem rI {b o n p c':Nat} {s:Ref} {cs old:List Value} (hH:HR ρ H nx w.heap) (hb:ao H (at_ b)=some (.cells cs)) (hs:ρ b=some s) (hold:take? (n * 1) (e9 cs o)=some old) (hn:n≤c') (hp:c'=0∨(p=s.sh + o∧p + c' * 1≤s.size)) :
  ∃a e olds,w.heap[s.blk]?=some (.cells a e (0,0))∧a.size=s.size∧cU ρ old olds∧old.length=n∧∀j u,olds[j]?=some u→a[p + j]?=some u:=by
 obtain ⟨s',eM,a,e,ha,lk,dT⟩:=hH.blk b _ hb
 rw [hs] at eM;cases eM
 obtain ⟨t1,t2⟩:=take?_get hold
 rw [Nat.mul_one] at t1 t2
 have key:∀j v,old[j]?=some v→∃u,a[p + j]?=some u∧VR ρ v u:=by
  intro j v hv
  have hj:j < n:=by rw [← t1];exact (List.getElem?_eq_some_iff.1 hv).1
  rw [t2 j hj,fg,List.getElem?_drop] at hv
  obtain ⟨u,hu,hr⟩:=dT (o + j) v hv
  refine ⟨u,?_,hr⟩
  rcases hp with h0|⟨h1,_⟩
  ·omega
  ·rw [h1,Nat.add_assoc];exact hu
 have hlen:((a.toList.drop p).take n).length=n:=by
  rcases Nat.eq_zero_or_pos n with h0|h0
  ·rw [h0];simp
  ·rcases hp with h1|⟨_,h2⟩
   ·omega
   ·simp;omega
 refine ⟨a,e,(a.toList.drop p).take n,ha,lk,cU.tn (by rw [hlen,t1]) fun j v hv=>?_,t1,fun j u hu=>?_⟩
 ·obtain ⟨u,hu,hr⟩:=key j v hv
  have hj:j < n:=by rw [← t1];exact (List.getElem?_eq_some_iff.1 hv).1
  refine ⟨u,?_,hr⟩
  rw [List.getElem?_take,if_pos hj,List.getElem?_drop]
  simpa using hu
 ·rw [List.getElem?_take] at hu
  split at hu
  ·rw [List.getElem?_drop] at hu
   simpa using hu
  ·cases hu
theorem yb {b j:Nat} {a:Array Value} {e:TypeId} {v:Value} (h:w.heap[b]?=some (.cells a e (0,0))) (hj:a[j]?=some v):w.cell? ⟨b,j,none⟩=some v:=by
 unfold World.cell?
 rw [h]
 exact hj
theorem lE {b j:Nat} {a:Array Value} {e:TypeId} (h:w.heap[b]?=some (.cells a e (0,0))):w.frozen? ⟨b,j,none⟩=false:=by
 unfold World.frozen?
 rw [h]
 simp
theorem AD {b:Nat} {a:Array Value} {e:TypeId} (h:w.heap[b]?=some (.cells a e (0,0))):w.shape? b=some (e,a.size):=by
 unfold World.shape?
 rw [h]
theorem IY {old new:List Value} {olds news:List Value} {i q:Nat} {v:Value} (ho:cU ρ old olds) (hn:cU ρ new news) (hi:i≤old.length) (h:(old.take i++(new++old.drop i))[q]?=some v) :
  (q < i∧∃u,olds[q]?=some u∧VR ρ v u)∨(i≤q∧q < i + new.length∧∃u,news[q - i]?=some u∧VR ρ v u)∨(i + new.length≤q∧q < old.length + new.length∧∃u,olds[q - new.length]?=some u∧VR ρ v u):=by
 have ht:(old.take i).length=i:=by rw [List.length_take];omega
 rw [List.getElem?_append] at h
 split at h
 ·rename_i h1
  rw [ht] at h1
  rw [List.getElem?_take,if_pos h1] at h
  exact .inl ⟨h1,ho.get h⟩
 ·rename_i h1
  rw [ht] at h1
  rw [ht,List.getElem?_append] at h
  split at h
  ·rename_i h2
   exact .inr (.inl ⟨by omega,by omega,hn.get h⟩)
  ·rename_i h2
   rw [List.getElem?_drop] at h
   have e:i + (q - i - new.length)=q - new.length:=by omega
   rw [e] at h
   have:=(List.getElem?_eq_some_iff.1 h).1
   exact .inr (.inr ⟨by omega,by omega,ho.get h⟩)
end Go.Eng

namespace Go.Eng
open Go.Shelf Go.Proofs
variable {P:Program} {ρ:bA} {H:Heap} {nx:Nat} {w w':World} {Cs:Ren}
theorem yc {b p:Nat} {s:Ref} {cs fin:List Value} {a a':Array Value} {e:TypeId} (hH:HR ρ H nx w.heap) (hb:ao H (at_ b)=some (.cells cs)) (hs:ρ b=some s) (hw:IX w w' s.blk a a' e) (lk:a.size=s.size)
  (tP:∀(j:Nat) (v:Value),fin[j]?=some v→∃u,a'[p + j]?=some u∧VR ρ v u):jK ρ H nx w (ρ.with nx ⟨s.blk,p,s.size⟩) (bB (at_ nx) (bB (at_ b) H none) (some (.cells fin))) (nx + 1) w':=by
 have nX:j6 ρ H s.blk:=⟨b,_,s,hb,rfl,hs,rfl⟩
 have ext:=hH.eO ⟨s.blk,p,s.size⟩
 refine ⟨?_,⟨ext,fun j hj=>?_,(BH.put _ _ _).trans (.forget _ _),fun j hj hn=>?_,by rw [hw.heap];exact Nat.le_refl _,hw.os,hw.tape,hw.output⟩,Nat.le_succ _,fun c hc=>bA.fO _ _ (by omega)⟩
 ·refine (hH.forget b).make (r:=⟨s.blk,p,s.size⟩) (fun b1 y s1 dJ aS=>?_) ⟨a',e,hw.here,by rw [hw.size,lk],fun j v hj=>?_⟩
  ·have cG:b1≠b:=by
    intro e';subst e'
    rw [bp] at dJ;cases dJ
   rw [aR _ _ _ _ (fun e'=>cG (ea e'))] at dJ
   have fF:s1.blk≠s.blk:=fun e'=>cG (hH.inj b b1 _ y s s1 hb dJ rfl hs aS e'.symm).symm
   exact ⟨hw.there _ fF,fF⟩
  ·obtain ⟨u,h1,h2⟩:=tP j v hj
   exact ⟨u,h1,h2.mono ext⟩
 ·rcases j6.ss hj with rfl|ho
  ·exact .inl nX
  ·exact .inl ho.mY
 ·exact hw.there j fun e'=>hn (e' ▸ nX)
theorem IZ {b:Nat} {fin:List Value} {a':Array Value} {e:TypeId} (hH:HR ρ H nx w.heap) (here:w'.heap[w.heap.size]?=some (.cells a' e (0,0))) (old:∀c,c < w.heap.size→w'.heap[c]?=w.heap[c]?) (lk:w.heap.size≤w'.heap.size)
  (N8:w'.os=w.os) (ht:w'.tape=w.tape) (lS:w'.output=w.output) (tP:∀(j:Nat) (v:Value),fin[j]?=some v→∃u,a'[j]?=some u∧VR ρ v u) :
  jK ρ H nx w (ρ.with nx ⟨w.heap.size,0,a'.size⟩) (bB (at_ nx) (bB (at_ b) H none) (some (.cells fin))) (nx + 1) w':=by
 have ext:=hH.eO ⟨w.heap.size,0,a'.size⟩
 have bR:∀b1 y s1,ao (bB (at_ b) H none) (at_ b1)=some y→ρ b1=some s1→s1.blk < w.heap.size:=by
  intro b1 y s1 dJ aS
  obtain ⟨s2,q1,q2⟩:=(hH.forget b).blk b1 y dJ
  rw [aS] at q1
  cases q1
  exact q2.lt
 refine ⟨?_,⟨ext,fun j hj=>?_,(BH.put _ _ _).trans (.forget _ _),fun j hj hn=>old j hj,lk,N8,ht,lS⟩,Nat.le_succ _,fun c hc=>bA.fO _ _ (by omega)⟩
 ·refine (hH.forget b).make (r:=⟨w.heap.size,0,a'.size⟩) (fun b1 y s1 dJ aS=>?_) ⟨a',e,here,rfl,fun j v hj=>?_⟩
  ·have:=bR b1 y s1 dJ aS
   exact ⟨old _ this,by show s1.blk≠w.heap.size;omega⟩
  ·obtain ⟨u,h1,h2⟩:=tP j v hj
   exact ⟨u,by rw [Nat.zero_add];exact h1,h2.mono ext⟩
 ·rcases j6.ss hj with rfl|ho
  ·exact .inr (Nat.le_refl _)
  ·exact .inl ho.mY
theorem NX {g:FuncId} (L:Lays2.n21 P Cs) (hg:Cs.f 21=g) (xD:gD P g):nH P [g]:=by
 intro o z bytes s i v hc ρ H nx w sv iv vv c hs hi hv hH k r h
 obtain ⟨rfl,rfl,d,ho,hd,b5⟩:=IW hc
 obtain ⟨ii,rfl,h1⟩:=tM h
 obtain ⟨b,off,z1,len,cp,rfl,h2⟩:=mZ h1
 obtain ⟨b2,o2,z2,m,c2,rfl,h3⟩:=mZ h2
 unfold Hi at h3
 obtain ⟨Dw,h4⟩:=bO h3
 simp only [Bool.and_eq_true,Bool.not_eq_true'] at Dw
 obtain ⟨mi,rW,_,hm,sH,ou⟩:=Dw
 have TL:=Nat.eq_of_beq_eq_true mi
 have OY:=Nat.eq_of_beq_eq_true rW
 subst TL;subst OY
 have BI:0 < m:=by simpa [Nat.blt_eq] using hm
 have aaV:ii≤len:=Nat.le_of_ble_eq_true sH
 have cG:b≠b2:=Nat.ne_of_beq_eq_false ou
 obtain ⟨cs,sw,h5⟩:=fh h4
 obtain ⟨jf,FH,h6⟩:=fh h5
 obtain ⟨old,hold,h7⟩:=aO h6
 obtain ⟨new,mA,h8⟩:=aO h7
 obtain ⟨front,OZ,h9⟩:=aO h8
 obtain ⟨I0,h10⟩:=bO h9
 simp only [Bool.and_eq_true] at I0
 rw [bQ] at h10
 obtain ⟨TM,oG,hk⟩:=mo h10
 have yK:c.eval i=.int .i64 (ii:Int):=hi.ie
 generalize Bv:c.eval s=su at hs
 generalize hvu:c.eval v=vu at hv
 cases hs with
 | sc h=>simp [scalar] at h
 | @sl _ _ _ _ _ p c' rs Tl hl lO he hp=>
 cases hv with
 | sc h=>simp [scalar] at h
 | @sl _ _ _ _ _ p2 Na r2 wk lX aaW Xg FI=>
 obtain ⟨a,e,olds,ha,lk,j9,Xm,O0⟩:=rI hH sw Tl hold hl.1 hp
 obtain ⟨a2,e2,news,FJ,TN,yM,kB,K1⟩:=rI hH FH wk mA lX.1 FI
 have fF:r2.blk≠rs.blk:=fun e'=>cG (hH.inj b b2 _ _ rs r2 sw FH rfl Tl wk e'.symm)
 have kV:front=old.take ii:=by
  have:=take?_eq _ _ _ (show take? (ii * 1) old=some front from OZ)
  rw [Nat.mul_one] at this
  exact this.1
 have TO:e9 old (Nat.mul ii 1)=old.drop ii:=by rw [fg];congr 1;exact Nat.mul_one ii
 rw [kV,TO] at hk
 have holds:olds.length=len:=by rw [j9.length,Xm]
 have oY:news.length=m:=by rw [yM.length,kB]
 have MY:=j9.one I0.1
 have V7:=yM.one I0.2
 have tX:∀j u,olds[j]?=some u→w.cell? ⟨rs.blk,p + j,none⟩=some u:=fun j u hj=>yb ha (O0 j u hj)
 have EZ:∀j u,news[j]?=some u→w.cell? ⟨r2.blk,p2 + j,none⟩=some u:=fun j u hj=>yb FJ (K1 j u hj)
 have Nr:(len + m) * 8≤140737488355328:=by unfold small at TM;omega
 have fw:(execOp c.eval o).run P w=.ok (.enter g #[.slice (some ⟨rs.blk,p,none⟩) len c',.int .i64 (ii:Int),.slice (some ⟨r2.blk,p2,none⟩) m Na]) w:=by
  have cW:(execOp c.eval o).run P w=(callFunc g #[c.eval s,c.eval i,c.eval v]).run P w:=by
   have DB:c.eval (.func g)=.func (.func g) #[] #[]:=rfl
   simp only [execOp,ho,resolve,hd,DB,Deferred.ofValue,Sem.run_bind,Sem.run_pure,Result.andThen_ok,invoke]
   congr 2
   apply Array.ext'
   simp [b5]
  rw [cW,xD.run,Bv,yK,hvu]
 refine ⟨g,_,fw,?_⟩
 have sK:∀(q:Nat) (v:Value),(old.take ii++(new++old.drop ii))[q]?=some v→_:=fun q v hq=>IY (q:=q) j9 yM (by omega) hq
 have I1:len + m≤c'→p=rs.sh + off∧p + c'≤rs.size:=by
  intro hr
  rcases hp with h0|⟨q1,q2⟩
  ·omega
  ·exact ⟨q1,by omega⟩
 have Ns:∀(w1:World) (a':Array Value),len + m≤c'→IX w w1 rs.blk a a' e→(∀(q:Nat) (v:Value),(old.take ii++(new++old.drop ii))[q]?=some v→∃u,a'[p + q]?=some u∧VR ρ v u)→
   ∃x H' nx' u ρ',k x H' nx'=some r∧Ending.returned (.slice (some ⟨rs.blk,p,none⟩) (len + m) c')=.returned u∧VR ρ' x u∧jK ρ H nx w ρ' H' nx' w1:=by
  intro w1 a' hr hw hf
  exact ⟨_,_,_,_,_,hk,rfl,sy (rf:=⟨rs.blk,p,rs.size⟩) ⟨hr,hl.2⟩ ⟨rfl,by show p + c' * 1≤rs.size;have:=(I1 hr).2;omega⟩,yc hH sw Tl hw lk hf⟩
 have I2:∀(w1:World) (a':Array Value) (cap:Nat),len + m≤cap→cap≤ei→a'.size=cap→w1.heap[w.heap.size]?=some (.cells a' (Cs.t 3) (0,0))→(∀c,c < w.heap.size→w1.heap[c]?=w.heap[c]?)→w.heap.size≤w1.heap.size→w1.os=w.os→w1.tape=w.tape→w1.output=w.output→
   (∀(q:Nat) (v:Value),(old.take ii++(new++old.drop ii))[q]?=some v→∃u,a'[q]?=some u∧VR ρ v u)→
   ∃x H' nx' u ρ',k x H' nx'=some r∧Ending.returned (.slice (some ⟨w.heap.size,0,none⟩) (len + m) cap)=.returned u∧VR ρ' x u∧jK ρ H nx w ρ' H' nx' w1:=by
  intro w1 a' cap hr Xn aaX here Dy hle N8 ht lS hf
  exact ⟨_,_,_,_,_,hk,rfl,sy (rf:=⟨w.heap.size,0,a'.size⟩) ⟨hr,Xn⟩ ⟨rfl,by show 0 + cap * 1≤a'.size;omega⟩,IZ hH here Dy hle N8 ht lS hf⟩
 have Nt:grownCap w (len + m) c' (Cs.t 3)≤ei:=grownCap_le_maxLen w (len + m) c' (Cs.t 3) (by unfold maxLen;omega)
 have Nu:len + m≤grownCap w (len + m) c' (Cs.t 3):=grownCap_ge w (len + m) c' (Cs.t 3)
 subst hg
 by_cases fC:len + m≤c'
 ·obtain ⟨Bt,hpc⟩:=I1 fC
  have xQ:∀j,j < len + m→(w.cell? ⟨rs.blk,p + j,none⟩).isSome=true:=by
   intro j hj
   rw [yb ha (Array.getElem?_eq_getElem (by omega))]
   rfl
  by_cases dW:ii < len
  ·refine (Any2.slices_Insert_int_shift L rs.blk p len c' ii r2.blk p2 m Na olds news w dW BI fC hl.2 fF holds oY tX xQ (fun j _=>lE ha) EZ MY V7 e2 e a2.size a.size (AD FJ) (AD ha) (by omega) (lE FJ) (lE FJ)).mono ?_
   rintro e' w1 ⟨rfl,rfl⟩
   obtain ⟨a',q1,q2⟩:=fj (olds.drop ii) (p + (ii + m)) w.drew a ha
   obtain ⟨Yc,q3,q4⟩:=fj news (p + ii) (w.drew.setCells rs.blk (p + (ii + m)) (olds.drop ii)) a' q1.here
   refine Ns _ Yc fC ⟨q3.here,by rw [q3.size,q1.size],fun c hc=>(q3.there c hc).trans (q1.there c hc),q3.heap.trans q1.heap,q3.os.trans q1.os,q3.tape.trans q1.tape,q3.output.trans q1.output⟩ fun q x hq=>?_
   rcases sK q x hq with ⟨g1,u,g2,g3⟩|⟨g1,g2,u,g3,g4⟩|⟨g1,g2,u,g3,g4⟩
   ·refine ⟨u,?_,g3⟩
    rw [q4,if_neg (by omega),q2,if_neg (by omega)]
    exact O0 q u g2
   ·refine ⟨u,?_,g4⟩
    rw [kB] at g2
    rw [q4,if_pos (by rw [q1.size];omega)]
    have:p + q - (p + ii)=q - ii:=by omega
    rw [this]
    exact g3
   ·refine ⟨u,?_,g4⟩
    rw [kB] at g1 g2 g3
    rw [q4,if_neg (by omega),q2,if_pos (by rw [List.length_drop];omega),List.getElem?_drop]
    have:ii + (p + q - (p + (ii + m)))=q - m:=by omega
    rw [this]
    exact g3
  ·have Yd:ii=len:=by omega
   subst Yd
   refine (Any2.slices_Insert_int_end_room L rs.blk p ii c' r2.blk p2 m Na news w BI fC hl.2 oY (fun j hj=>by rw [Nat.add_assoc];exact xQ _ (by omega)) (fun j _=>lE ha) EZ V7).mono ?_
   rintro e' w1 ⟨rfl,rfl⟩
   obtain ⟨a',q1,q2⟩:=fj news (p + ii) w a ha
   refine Ns _ a' fC q1 fun q x hq=>?_
   rcases sK q x hq with ⟨g1,u,g2,g3⟩|⟨g1,g2,u,g3,g4⟩|⟨g1,g2,u,g3,g4⟩
   ·refine ⟨u,?_,g3⟩
    rw [q2,if_neg (by omega)]
    exact O0 q u g2
   ·refine ⟨u,?_,g4⟩
    rw [kB] at g2
    rw [q2,if_pos (by omega)]
    have:p + q - (p + ii)=q - ii:=by omega
    rw [this]
    exact g3
   ·omega
 ·by_cases dW:ii < len
  ·refine (Any2.slices_Insert_int_grow L rs.blk p len c' ii r2.blk p2 m Na olds news w dW BI hl.1 (by omega) Nr holds oY tX EZ MY V7).mono ?_
   rintro e' w1 ⟨rfl,rfl⟩
   generalize TP:grownCap w (len + m) c' (Cs.t 3)=cap at *
   generalize gO:(olds.take ii).toArray++Builtin.zeroCells (Value.int .i64 0).cells (len + m - ii)++Builtin.zeroCells (Value.int .i64 0).cells (cap - (len + m))=a0
   have bR:(olds.take ii).length=ii:=by rw [List.length_take];omega
   have sx:∀n,(Builtin.zeroCells (Value.int .i64 0).cells n).size=n:=fun n=>by rw [size_zeroCells];show n * 1=n;omega
   have bg:a0.size=cap:=by
    rw [← gO]
    simp only [Array.size_append,List.size_toArray,sx,bR]
    omega
   have h0:(w.alloc (.cells a0 (Cs.t 3))).heap[w.heap.size]?=some (.cells a0 (Cs.t 3) (0,0)):=by
    show (w.heap.push _)[w.heap.size]?=_
    simp
   obtain ⟨a',q1,q2⟩:=fj news ii (w.alloc (.cells a0 (Cs.t 3))).drew a0 h0
   obtain ⟨Yc,q3,q4⟩:=fj (olds.drop ii) (ii + m) ((w.alloc (.cells a0 (Cs.t 3))).drew.setCells w.heap.size ii news).drew a' q1.here
   refine I2 _ Yc cap Nu Nt (by rw [q3.size,q1.size,bg]) q3.here (fun c hc=>?_) ?_ (q3.os.trans q1.os) (q3.tape.trans q1.tape) (q3.output.trans q1.output) fun q x hq=>?_
   ·have wO:c≠w.heap.size:=by omega
    refine (q3.there c wO).trans ((q1.there c wO).trans ?_)
    show (w.heap.push _)[c]?=w.heap[c]?
    rw [Array.getElem?_push,if_neg wO]
   ·rw [q3.heap]
    show _≤((w.alloc (.cells a0 (Cs.t 3))).drew.setCells w.heap.size ii news).heap.size
    rw [q1.heap]
    show _≤(w.heap.push _).size
    simp
   ·rcases sK q x hq with ⟨g1,u,g2,g3⟩|⟨g1,g2,u,g3,g4⟩|⟨g1,g2,u,g3,g4⟩
    ·refine ⟨u,?_,g3⟩
     rw [q4,if_neg (by omega),q2,if_neg (by omega),← gO]
     rw [Array.append_assoc,Array.getElem?_append_left (by simp [bR];omega)]
     simp only [List.getElem?_toArray,List.getElem?_take,if_pos g1]
     exact g2
    ·refine ⟨u,?_,g4⟩
     rw [kB] at g2
     rw [q4,if_neg (by omega),q2,if_pos (by omega)]
     exact g3
    ·refine ⟨u,?_,g4⟩
     rw [kB] at g1 g2 g3
     rw [q4,if_pos (by rw [q1.size,List.length_drop];omega),List.getElem?_drop]
     have:ii + (q - (ii + m))=q - m:=by omega
     rw [this]
     exact g3
  ·have Yd:ii=len:=by omega
   subst Yd
   refine (Any2.slices_Insert_int_end_grow L (some ⟨rs.blk,p,none⟩) ii c' r2.blk p2 m Na olds news w BI hl.1 (by omega) Nr holds oY (fun h=>by cases h) (fun a ha j v hj=>by cases ha;rw [Addr.add_lit];exact tX j v hj) EZ V7).mono ?_
   rintro e' w1 ⟨rfl,rfl⟩
   generalize TP:grownCap w (ii + m) c' (Cs.t 3)=cap at *
   have sx:∀n,(Builtin.zeroCells (Value.int .i64 0).cells n).size=n:=fun n=>by rw [size_zeroCells];show n * 1=n;omega
   refine I2 _ ((olds++news).toArray++Builtin.zeroCells (Value.int .i64 0).cells (cap - (ii + m))) cap Nu Nt ?_ ?_ (fun c hc=>?_) ?_ rfl rfl rfl fun q x hq=>?_
   ·simp only [Array.size_append,List.size_toArray,List.length_append,sx,holds,oY]
    omega
   ·show (w.heap.push _)[w.heap.size]?=_
    simp
   ·show (w.heap.push _)[c]?=w.heap[c]?
    rw [Array.getElem?_push,if_neg (by omega)]
   ·show _≤(w.heap.push _).size
    simp
   ·have bR:q < (olds++news).length:=by
     have:=(List.getElem?_eq_some_iff.1 hq).1
     simp only [List.length_append,List.length_take,List.length_drop] at this
     rw [List.length_append,holds,oY]
     omega
    rw [Array.getElem?_append_left (by simpa using bR)]
    simp only [List.getElem?_toArray]
    rcases sK q x hq with ⟨g1,u,g2,g3⟩|⟨g1,g2,u,g3,g4⟩|⟨g1,g2,u,g3,g4⟩
    ·exact ⟨u,by rw [List.getElem?_append_left (by omega)];exact g2,g3⟩
    ·exact ⟨u,by rw [List.getElem?_append_right (by omega),holds];exact g3,g4⟩
    ·omega
end Go.Eng
