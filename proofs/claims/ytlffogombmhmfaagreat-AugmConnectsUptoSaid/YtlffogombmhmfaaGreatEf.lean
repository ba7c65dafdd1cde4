import Derived.Test.YtlffogombmhmfaaGreatEd
import Derived.Shelf.Spec.SlicesInsert
import Derived.Shelf.Spec.SlicesInsertGrow
/- An interpreter of the model's code that follows one order and is proved right for all: part 6. -/

namespace Go.Eng
open Go.Shelf
variable {P:Program} {ρ:bB} {H:Heap} {nx:Nat} {w:World} {sF:Ren}
theorem JG {o:Oper} {g:FuncId} {z bytes:Nat} {s i v:Operand} (h:aj P [g] o=some (.ins z bytes s i v)):z=1∧bytes=8∧∃d,o.op=.call d∧d.callee=.value (.func g)∧d.args.toList=[s,i,v]:=by
 cases ho:o.op with
 | call d=>
  simp only [aj,ho] at h
  cases hd:d.callee with
  | value f=>
   rw [hd] at h
   cases f with
   | func g'=>
    simp only at h
    cases hg:dt [g] g' with
    | true=>
     rw [hg] at h
     simp only [cond_true] at h
     have hgg:g'=g:=by
      have:=gH.1 hg
      simpa using this
     subst hgg
     split at h
     ·rename_i s' i' v' t ts bQ _
      split at h
      ·split at h
       ·cases h
        exact ⟨rfl,rfl,d,rfl,hd,bQ⟩
       ·cases h
      ·cases h
     ·cases h
    | false=>rw [hg] at h;cases h
   | _=>simp only at h;cases h
  | builtin b=>
   exfalso
   rw [hd] at h
   simp only at h
   unfold cA at h
   repeat' split at h
   all_goals first
    | (cases h;done)
    | (replace h:=dv h;cases h;done)
  | invoke x name=>rw [hd] at h;cases h
 | binOp op t x y b=>
  exfalso
  simp only [aj,ho] at h
  unfold gS at h
  repeat' split at h
  all_goals first
   | (cases h;done)
   | (replace h:=dv h;cases h;done)
 | makeFunc f a b=>exfalso;cases f<;>simp only [aj,ho] at h<;>cases h
 | next x q=>exfalso;cases q<;>simp only [aj,ho] at h<;>cases h
 | _=>
  exfalso
  simp only [aj,ho] at h
  repeat' split at h
  all_goals first
   | (cases h;done)
   | (obtain ⟨z,_,h⟩:=Option.map_eq_some_iff.1 (dv h);cases h;done)
   | (replace h:=dv h;cases h;done)
   | (obtain ⟨z,_,h⟩:=Option.map_eq_some_iff.1 h;cases h;done)
theorem yz {b o:Nat} {v:Value} {a:Array Value} {e:TypeId} {fr:Nat×Nat} (h:w.heap[b]?=some (.cells a e fr)):(w.setCell ⟨b,o,none⟩ v).heap[b]?=some (.cells (a.setIfInBounds o v) e fr):=by
 show (w.heap.modify b _)[b]?=_
 rw [Array.getElem?_modify,if_pos rfl,h]
 rfl
theorem vT {b c o:Nat} {v:Value} (h:c≠b):(w.setCell ⟨b,o,none⟩ v).heap[c]?=w.heap[c]?:=by
 show (w.heap.modify b _)[c]?=_
 rw [Array.getElem?_modify,if_neg (fun e=>h e.symm)]
structure JH (w w':World) (b:Nat) (a a':Array Value) (e:TypeId):Prop where
 here:w'.heap[b]?=some (.cells a' e (0,0))
 size:a'.size=a.size
 there:∀c,c≠b→w'.heap[c]?=w.heap[c]?
 heap:w'.heap.size=w.heap.size
 os:w'.os=w.os
 tape:w'.tape=w.tape
 output:w'.output=w.output
theorem e8 {b:Nat} {e:TypeId}:∀(vs:List Value) (o:Nat) (w:World) (a:Array Value),w.heap[b]?=some (.cells a e (0,0))→∃a',JH w (w.setCells b o vs) b a a' e∧
  ∀j,a'[j]?=if o≤j∧j < o + vs.length∧j < a.size then vs[j - o]? else a[j]?:=by
 intro vs
 induction vs with
 | nil=>
  intro o w a h
  refine ⟨a,⟨h,rfl,fun _ _=>rfl,rfl,rfl,rfl,rfl⟩,fun j=>?_⟩
  rw [if_neg (by simp;omega)]
 | cons v vs ih=>
  intro o w a h
  obtain ⟨a',h1,h2⟩:=ih (o + 1) (w.setCell ⟨b,o,none⟩ v) (a.setIfInBounds o v) (yz h)
  refine ⟨a',⟨h1.here,by rw [h1.size];simp,fun c hc=>(h1.there c hc).trans (vT hc),by rw [World.setCells,h1.heap];simp [World.setCell],h1.os,h1.tape,h1.output⟩,fun j=>?_⟩
  rw [h2]
  simp only [Array.size_setIfInBounds,List.length_cons]
  by_cases h3:o + 1≤j∧j < o + 1 + vs.length∧j < a.size
  ·rw [if_pos h3,if_pos (by omega)]
   have:j - o=(j - (o + 1)) + 1:=by omega
   rw [this,List.getElem?_cons_succ]
  ·rw [if_neg h3,Array.getElem?_setIfInBounds]
   by_cases h4:o=j
   ·subst h4
    by_cases h5:o < a.size
    ·rw [if_pos rfl,if_pos h5,if_pos (by omega)]
     simp
    ·rw [if_pos rfl,if_neg h5,if_neg (by omega)]
     rw [Array.getElem?_eq_none (by omega)]
   ·rw [if_neg h4,if_neg (by omega)]
theorem mE {b o n p c':Nat} {s:Ref} {cs old:List Value} (hH:HR ρ H nx w.heap) (hb:ak H (at_ b)=some (.cells cs)) (hs:ρ b=some s) (hold:take? (n * 1) (dH cs o)=some old) (hn:n≤c') (hp:c'=0∨(p=s.sh + o∧p + c' * 1≤s.size)) :
  ∃a e olds,w.heap[s.blk]?=some (.cells a e (0,0))∧a.size=s.size∧cL ρ old olds∧old.length=n∧∀j u,olds[j]?=some u→a[p + j]?=some u:=by
 obtain ⟨s',eK,a,e,ha,lG,bC⟩:=hH.blk b _ hb
 rw [hs] at eK;cases eK
 obtain ⟨t1,t2⟩:=take?_get hold
 rw [Nat.mul_one] at t1 t2
 have key:∀j v,old[j]?=some v→∃u,a[p + j]?=some u∧VR ρ v u:=by
  intro j v hv
  have hj:j < n:=by rw [← t1];exact (List.getElem?_eq_some_iff.1 hv).1
  rw [t2 j hj,du,List.getElem?_drop] at hv
  obtain ⟨u,hu,hr⟩:=bC (o + j) v hv
  refine ⟨u,?_,hr⟩
  rcases hp with h0|⟨h1,_⟩
  ·omega
  ·rw [h1,Nat.add_assoc];exact hu
 have hlen:((a.toList.drop p).take n).length=n:=by
  rcases Nat.eq_zero_or_pos n with h0|h0
  ·rw [h0];simp
  ·rcases hp with h1|⟨_,h2⟩
   ·omega
   ·simp;omega
 refine ⟨a,e,(a.toList.drop p).take n,ha,lG,cL.tg (by rw [hlen,t1]) fun j v hv=>?_,t1,fun j u hu=>?_⟩
 ·obtain ⟨u,hu,hr⟩:=key j v hv
  have hj:j < n:=by rw [← t1];exact (List.getElem?_eq_some_iff.1 hv).1
  refine ⟨u,?_,hr⟩
  rw [List.getElem?_take,if_pos hj,List.getElem?_drop]
  simpa using hu
 ·rw [List.getElem?_take] at hu
  split at hu
  ·rw [List.getElem?_drop] at hu
   simpa using hu
  ·cases hu
theorem sG {b j:Nat} {a:Array Value} {e:TypeId} {v:Value} (h:w.heap[b]?=some (.cells a e (0,0))) (hj:a[j]?=some v):w.cell? ⟨b,j,none⟩=some v:=by
 unfold World.cell?
 rw [h]
 exact hj
theorem la {b j:Nat} {a:Array Value} {e:TypeId} (h:w.heap[b]?=some (.cells a e (0,0))):w.frozen? ⟨b,j,none⟩=false:=by
 unfold World.frozen?
 rw [h]
 simp
theorem Be {b:Nat} {a:Array Value} {e:TypeId} (h:w.heap[b]?=some (.cells a e (0,0))):w.shape? b=some (e,a.size):=by
 unfold World.shape?
 rw [h]
theorem JI {old new:List Value} {olds news:List Value} {i q:Nat} {v:Value} (ho:cL ρ old olds) (hn:cL ρ new news) (hi:i≤old.length) (h:(old.take i++(new++old.drop i))[q]?=some v) :
  (q < i∧∃u,olds[q]?=some u∧VR ρ v u)∨(i≤q∧q < i + new.length∧∃u,news[q - i]?=some u∧VR ρ v u)∨(i + new.length≤q∧q < old.length + new.length∧∃u,olds[q - new.length]?=some u∧VR ρ v u):=by
 have ht:(old.take i).length=i:=by rw [List.length_take];omega
 rw [List.getElem?_append] at h
 split at h
 ·rename_i h1
  rw [ht] at h1
  rw [List.getElem?_take,if_pos h1] at h
  exact .inl ⟨h1,ho.get h⟩
 ·rename_i h1
  rw [ht] at h1
  rw [ht,List.getElem?_append] at h
  split at h
  ·rename_i h2
   exact .inr (.inl ⟨by omega,by omega,hn.get h⟩)
  ·rename_i h2
   rw [List.getElem?_drop] at h
   have e:i + (q - i - new.length)=q - new.length:=by omega
   rw [e] at h
   have:=(List.getElem?_eq_some_iff.1 h).1
   exact .inr (.inr ⟨by omega,by omega,ho.get h⟩)
end Go.Eng

namespace Go.Eng
open Go.Shelf Go.Proofs
variable {P:Program} {ρ:bB} {H:Heap} {nx:Nat} {w w':World} {sF:Ren}
theorem yA {b p:Nat} {s:Ref} {cs fin:List Value} {a a':Array Value} {e:TypeId} (hH:HR ρ H nx w.heap) (hb:ak H (at_ b)=some (.cells cs)) (hs:ρ b=some s) (hw:JH w w' s.blk a a' e) (lG:a.size=s.size)
  (nZ:∀(j:Nat) (v:Value),fin[j]?=some v→∃u,a'[p + j]?=some u∧VR ρ v u):jv ρ H nx w (ρ.with nx ⟨s.blk,p,s.size⟩) (bD (at_ nx) (bD (at_ b) H none) (some (.cells fin))) (nx + 1) w':=by
 have nU:jM ρ H s.blk:=⟨b,_,s,hb,rfl,hs,rfl⟩
 have ext:=hH.eM ⟨s.blk,p,s.size⟩
 refine ⟨?_,⟨ext,fun j hj=>?_,(Cg.put _ _ _).trans (.forget _ _),fun j hj hn=>?_,by rw [hw.heap];exact Nat.le_refl _,hw.os,hw.tape,hw.output⟩,Nat.le_succ _,fun c hc=>bB.fP _ _ (by omega)⟩
 ·refine (hH.forget b).make (r:=⟨s.blk,p,s.size⟩) (fun b1 y s1 dB a7=>?_) ⟨a',e,hw.here,by rw [hw.size,lG],fun j v hj=>?_⟩
  ·have cy:b1≠b:=by
    intro e';subst e'
    rw [bk] at dB;cases dB
   rw [aO _ _ _ _ (fun e'=>cy (dO e'))] at dB
   have vJ:s1.blk≠s.blk:=fun e'=>cy (hH.inj b b1 _ y s s1 hb dB rfl hs a7 e'.symm).symm
   exact ⟨hw.there _ vJ,vJ⟩
  ·obtain ⟨u,h1,h2⟩:=nZ j v hj
   exact ⟨u,h1,h2.mono ext⟩
 ·rcases jM.so hj with rfl|ho
  ·exact .inl nU
  ·exact .inl ho.mS
 ·exact hw.there j fun e'=>hn (e' ▸ nU)
theorem Bg {b:Nat} {fin:List Value} {a':Array Value} {e:TypeId} (hH:HR ρ H nx w.heap) (here:w'.heap[w.heap.size]?=some (.cells a' e (0,0))) (old:∀c,c < w.heap.size→w'.heap[c]?=w.heap[c]?) (lG:w.heap.size≤w'.heap.size)
  (Pt:w'.os=w.os) (ht:w'.tape=w.tape) (lP:w'.output=w.output) (nZ:∀(j:Nat) (v:Value),fin[j]?=some v→∃u,a'[j]?=some u∧VR ρ v u) :
  jv ρ H nx w (ρ.with nx ⟨w.heap.size,0,a'.size⟩) (bD (at_ nx) (bD (at_ b) H none) (some (.cells fin))) (nx + 1) w':=by
 have ext:=hH.eM ⟨w.heap.size,0,a'.size⟩
 have cf:∀b1 y s1,ak (bD (at_ b) H none) (at_ b1)=some y→ρ b1=some s1→s1.blk < w.heap.size:=by
  intro b1 y s1 dB a7
  obtain ⟨s2,q1,q2⟩:=(hH.forget b).blk b1 y dB
  rw [a7] at q1
  cases q1
  exact q2.lt
 refine ⟨?_,⟨ext,fun j hj=>?_,(Cg.put _ _ _).trans (.forget _ _),fun j hj hn=>old j hj,lG,Pt,ht,lP⟩,Nat.le_succ _,fun c hc=>bB.fP _ _ (by omega)⟩
 ·refine (hH.forget b).make (r:=⟨w.heap.size,0,a'.size⟩) (fun b1 y s1 dB a7=>?_) ⟨a',e,here,rfl,fun j v hj=>?_⟩
  ·have:=cf b1 y s1 dB a7
   exact ⟨old _ this,by show s1.blk≠w.heap.size;omega⟩
  ·obtain ⟨u,h1,h2⟩:=nZ j v hj
   exact ⟨u,by rw [Nat.zero_add];exact h1,h2.mono ext⟩
 ·rcases jM.so hj with rfl|ho
  ·exact .inr (Nat.le_refl _)
  ·exact .inl ho.mS
theorem MW {g:FuncId} (L:Lays2.n21 P sF) (hg:sF.f 21=g) (np:er P g) {o:Oper} {s i v:Operand} {d:Call} (ho:o.op=.call d) (hd:d.callee=.value (.func g)) (bQ:d.args.toList=[s,i,v])
  {n0 c0 ii:Nat} {vv:Value} {c:_root_.Go.Act} (hs:VR ρ (.slice none n0 c0) (c.eval s)) (hi:VR ρ (.int .i64 (.ofNat ii)) (c.eval i)) (hv:VR ρ vv (c.eval v)) (hH:HR ρ H nx w.heap) {k:KA} {r:Ex×St} (h1:nN vv (Me 1 8 H nx k ii)=some r) :
  ∃g us,(execOp c.eval o).run P w=.ok (.enter g us) w∧Calls P g us w fun e w'=>∃x H' nx' u ρ',k x H' nx'=some r∧e=.returned u∧VR ρ' x u∧jv ρ H nx w ρ' H' nx' w':=by
 obtain ⟨b2,o2,z2,m,c2,rfl,h3⟩:=kz h1
 unfold Me at h3
 obtain ⟨tA,h4⟩:=bI h3
 simp only [Bool.and_eq_true] at tA
 obtain ⟨rR,_,hm,HN⟩:=tA
 have Qf:=Nat.eq_of_beq_eq_true rR
 subst Qf
 have zH:0 < m:=by simpa [Nat.blt_eq] using hm
 have Zw:=Nat.eq_of_beq_eq_true HN
 subst Zw
 obtain ⟨gR,GD,h6⟩:=en h4
 obtain ⟨new,k6,h7⟩:=aL h6
 obtain ⟨Bh,UT⟩:=bI h7
 rw [bN] at UT
 obtain ⟨Qg,ml,hk⟩:=jV UT
 have xO:c.eval i=.int .i64 (((0:Nat):Int)):=hi.gE
 generalize Xj:c.eval s=su at hs
 generalize Zx:c.eval v=vu at hv
 cases hs with
 | sc h=>simp [scalar] at h
 | jL=>
 cases hv with
 | sc h=>simp [scalar] at h
 | @sl _ _ _ _ _ p2 I5 r2 zT lR Zy T5 B3=>
 obtain ⟨a2,e2,news,Ou,Zz,vf,nF,Iv⟩:=mE hH GD zT k6 lR.1 B3
 have lI:news.length=m:=by rw [vf.length,nF]
 have SN:=vf.one Bh
 have Cv:∀j u,news[j]?=some u→w.cell? ⟨r2.blk,p2 + j,none⟩=some u:=fun j u hj=>sG Ou (Iv j u hj)
 have EK:(0 + m) * 8≤140737488355328:=by unfold small at Qg;omega
 have eN:(execOp c.eval o).run P w=.ok (.enter g #[.slice none 0 0,.int .i64 ((0:Nat):Int),.slice (some ⟨r2.blk,p2,none⟩) m I5]) w:=by
  have cF:(execOp c.eval o).run P w=(callFunc g #[c.eval s,c.eval i,c.eval v]).run P w:=by
   have pX:c.eval (.func g)=.func (.func g) #[] #[]:=rfl
   simp only [execOp,ho,resolve,hd,pX,Deferred.ofValue,Sem.run_bind,Sem.run_pure,Result.andThen_ok,invoke]
   congr 2
   apply Array.ext'
   simp [bQ]
  rw [cF,np.run,Xj,xO,Zx]
 refine ⟨g,_,eN,?_⟩
 have EL:grownCap w (0 + m) 0 (sF.t 3)≤dA:=grownCap_le_maxLen w (0 + m) 0 (sF.t 3) (by unfold maxLen;omega)
 have EM:0 + m≤grownCap w (0 + m) 0 (sF.t 3):=grownCap_ge w (0 + m) 0 (sF.t 3)
 subst hg
 refine (Any2.slices_Insert_int_end_grow L none 0 0 r2.blk p2 m I5 [] news w zH (Nat.le_refl _) (by omega) EK rfl lI (fun _=>rfl) (fun a ha=>by cases ha) Cv SN).mono ?_
 rintro e' w1 ⟨rfl,rfl⟩
 generalize Ov:grownCap w (0 + m) 0 (sF.t 3)=cap at *
 have ri:∀n,(Builtin.zeroCells (Value.int .i64 0).cells n).size=n:=fun n=>by rw [size_zeroCells];show n * 1=n;omega
 have UU:(([]++news).toArray++Builtin.zeroCells (Value.int .i64 0).cells (cap - (0 + m))).size=cap:=by
  simp only [Array.size_append,List.size_toArray,List.length_append,ri,List.length_nil,lI]
  omega
 refine ⟨_,_,_,_,ρ.with nx ⟨w.heap.size,0,cap⟩,hk,rfl,oZ (rf:=⟨w.heap.size,0,cap⟩) ⟨EM,EL⟩ ⟨rfl,by show 0 + cap * 1≤cap;omega⟩,?_⟩
 have:=Bg (b:=nx) (fin:=[]++new) (a':=([]++news).toArray++Builtin.zeroCells (Value.int .i64 0).cells (cap - (0 + m))) (e:=sF.t 3) (w':=w.drew.alloc (.cells (([]++news).toArray++Builtin.zeroCells (Value.int .i64 0).cells (cap - (0 + m))) (sF.t 3))) hH
  (by show (w.heap.push _)[w.heap.size]?=_;simp) (fun c hc=>by show (w.heap.push _)[c]?=w.heap[c]?;rw [Array.getElem?_push,if_neg (by omega)]) (by show _≤(w.heap.push _).size;simp) rfl rfl rfl (fun q x hq=>by
   obtain ⟨u,g1,g2⟩:=vf.get (by simpa using hq)
   refine ⟨u,?_,g2⟩
   have cf:=(List.getElem?_eq_some_iff.1 g1).1
   rw [Array.getElem?_append_left (by simpa using cf)]
   simpa using g1)
 rw [UU] at this
 exact this
theorem Pf {g:FuncId} (L:Lays2.n21 P sF) (hg:sF.f 21=g) (np:er P g):nz P [g]:=by
 intro o z bytes s i v hc ρ H nx w sv iv vv c hs hi hv hH k r h
 obtain ⟨rfl,rfl,d,ho,hd,bQ⟩:=JG hc
 obtain ⟨ii,rfl,h1⟩:=tF h
 unfold xK at h1
 split at h1
 ·exact MW L hg np ho hd bQ hs hi hv hH h1
 obtain ⟨b,off,z1,len,cp,rfl,h2⟩:=kz h1
 obtain ⟨b2,o2,z2,m,c2,rfl,h3⟩:=kz h2
 unfold Pk at h3
 obtain ⟨tA,h4⟩:=bI h3
 simp only [Bool.and_eq_true,Bool.not_eq_true'] at tA
 obtain ⟨oS,rR,_,hm,tO,je⟩:=tA
 have ZA:=Nat.eq_of_beq_eq_true oS
 have Qf:=Nat.eq_of_beq_eq_true rR
 subst ZA;subst Qf
 have zH:0 < m:=by simpa [Nat.blt_eq] using hm
 have abH:ii≤len:=Nat.le_of_ble_eq_true tO
 have cy:b≠b2:=Nat.ne_of_beq_eq_false je
 obtain ⟨cs,nj,h5⟩:=en h4
 obtain ⟨gR,GD,h6⟩:=en h5
 obtain ⟨old,hold,h7⟩:=aL h6
 obtain ⟨new,k6,h8⟩:=aL h7
 obtain ⟨front,Qh,h9⟩:=aL h8
 obtain ⟨Bh,UT⟩:=bI h9
 simp only [Bool.and_eq_true] at Bh
 rw [bN] at UT
 obtain ⟨Qg,ml,hk⟩:=jV UT
 have xO:c.eval i=.int .i64 (ii:Int):=hi.gE
 generalize Xj:c.eval s=su at hs
 generalize Zx:c.eval v=vu at hv
 cases hs with
 | sc h=>simp [scalar] at h
 | @sl _ _ _ _ _ p c' rs Uw hl lE he hp=>
 cases hv with
 | sc h=>simp [scalar] at h
 | @sl _ _ _ _ _ p2 I5 r2 zT lR Zy T5 B3=>
 obtain ⟨a,e,olds,ha,lG,j7,Ud,JJ⟩:=mE hH nj Uw hold hl.1 hp
 obtain ⟨a2,e2,news,Ou,Zz,vf,nF,Iv⟩:=mE hH GD zT k6 lR.1 B3
 have vJ:r2.blk≠rs.blk:=fun e'=>cy (hH.inj b b2 _ _ rs r2 nj GD rfl Uw zT e'.symm)
 have iR:front=old.take ii:=by
  have:=take?_eq _ _ _ (show take? (ii * 1) old=some front from Qh)
  rw [Nat.mul_one] at this
  exact this.1
 have MX:dH old (Nat.mul ii 1)=old.drop ii:=by rw [du];congr 1;exact Nat.mul_one ii
 rw [iR,MX] at hk
 have holds:olds.length=len:=by rw [j7.length,Ud]
 have lI:news.length=m:=by rw [vf.length,nF]
 have N4:=j7.one Bh.1
 have SN:=vf.one Bh.2
 have AQ:∀j u,olds[j]?=some u→w.cell? ⟨rs.blk,p + j,none⟩=some u:=fun j u hj=>sG ha (JJ j u hj)
 have Cv:∀j u,news[j]?=some u→w.cell? ⟨r2.blk,p2 + j,none⟩=some u:=fun j u hj=>sG Ou (Iv j u hj)
 have EK:(len + m) * 8≤140737488355328:=by unfold small at Qg;omega
 have eN:(execOp c.eval o).run P w=.ok (.enter g #[.slice (some ⟨rs.blk,p,none⟩) len c',.int .i64 (ii:Int),.slice (some ⟨r2.blk,p2,none⟩) m I5]) w:=by
  have cF:(execOp c.eval o).run P w=(callFunc g #[c.eval s,c.eval i,c.eval v]).run P w:=by
   have pX:c.eval (.func g)=.func (.func g) #[] #[]:=rfl
   simp only [execOp,ho,resolve,hd,pX,Deferred.ofValue,Sem.run_bind,Sem.run_pure,Result.andThen_ok,invoke]
   congr 2
   apply Array.ext'
   simp [bQ]
  rw [cF,np.run,Xj,xO,Zx]
 refine ⟨g,_,eN,?_⟩
 have sH:∀(q:Nat) (v:Value),(old.take ii++(new++old.drop ii))[q]?=some v→_:=fun q v hq=>JI (q:=q) j7 vf (by omega) hq
 have JK:len + m≤c'→p=rs.sh + off∧p + c'≤rs.size:=by
  intro hr
  rcases hp with h0|⟨q1,q2⟩
  ·omega
  ·exact ⟨q1,by omega⟩
 have Ow:∀(w1:World) (a':Array Value),len + m≤c'→JH w w1 rs.blk a a' e→(∀(q:Nat) (v:Value),(old.take ii++(new++old.drop ii))[q]?=some v→∃u,a'[p + q]?=some u∧VR ρ v u)→
   ∃x H' nx' u ρ',k x H' nx'=some r∧Ending.returned (.slice (some ⟨rs.blk,p,none⟩) (len + m) c')=.returned u∧VR ρ' x u∧jv ρ H nx w ρ' H' nx' w1:=by
  intro w1 a' hr hw hf
  exact ⟨_,_,_,_,_,hk,rfl,oZ (rf:=⟨rs.blk,p,rs.size⟩) ⟨hr,hl.2⟩ ⟨rfl,by show p + c' * 1≤rs.size;have:=(JK hr).2;omega⟩,yA hH nj Uw hw lG hf⟩
 have JL:∀(w1:World) (a':Array Value) (cap:Nat),len + m≤cap→cap≤dA→a'.size=cap→w1.heap[w.heap.size]?=some (.cells a' (sF.t 3) (0,0))→(∀c,c < w.heap.size→w1.heap[c]?=w.heap[c]?)→w.heap.size≤w1.heap.size→w1.os=w.os→w1.tape=w.tape→w1.output=w.output→
   (∀(q:Nat) (v:Value),(old.take ii++(new++old.drop ii))[q]?=some v→∃u,a'[q]?=some u∧VR ρ v u)→
   ∃x H' nx' u ρ',k x H' nx'=some r∧Ending.returned (.slice (some ⟨w.heap.size,0,none⟩) (len + m) cap)=.returned u∧VR ρ' x u∧jv ρ H nx w ρ' H' nx' w1:=by
  intro w1 a' cap hr W3 abI here Eo hle Pt ht lP hf
  exact ⟨_,_,_,_,_,hk,rfl,oZ (rf:=⟨w.heap.size,0,a'.size⟩) ⟨hr,W3⟩ ⟨rfl,by show 0 + cap * 1≤a'.size;omega⟩,Bg hH here Eo hle Pt ht lP hf⟩
 have EL:grownCap w (len + m) c' (sF.t 3)≤dA:=grownCap_le_maxLen w (len + m) c' (sF.t 3) (by unfold maxLen;omega)
 have EM:len + m≤grownCap w (len + m) c' (sF.t 3):=grownCap_ge w (len + m) c' (sF.t 3)
 subst hg
 by_cases fq:len + m≤c'
 ·obtain ⟨LO,Ox⟩:=JK fq
  have ym:∀j,j < len + m→(w.cell? ⟨rs.blk,p + j,none⟩).isSome=true:=by
   intro j hj
   rw [sG ha (Array.getElem?_eq_getElem (by omega))]
   rfl
  by_cases fA:ii < len
  ·refine (Any2.slices_Insert_int_shift L rs.blk p len c' ii r2.blk p2 m I5 olds news w fA zH fq hl.2 vJ holds lI AQ ym (fun j _=>la ha) Cv N4 SN e2 e a2.size a.size (Be Ou) (Be ha) (by omega) (la Ou) (la Ou)).mono ?_
   rintro e' w1 ⟨rfl,rfl⟩
   obtain ⟨a',q1,q2⟩:=e8 (olds.drop ii) (p + (ii + m)) w.drew a ha
   obtain ⟨ZB,q3,q4⟩:=e8 news (p + ii) (w.drew.setCells rs.blk (p + (ii + m)) (olds.drop ii)) a' q1.here
   refine Ow _ ZB fq ⟨q3.here,by rw [q3.size,q1.size],fun c hc=>(q3.there c hc).trans (q1.there c hc),q3.heap.trans q1.heap,q3.os.trans q1.os,q3.tape.trans q1.tape,q3.output.trans q1.output⟩ fun q x hq=>?_
   rcases sH q x hq with ⟨g1,u,g2,g3⟩|⟨g1,g2,u,g3,g4⟩|⟨g1,g2,u,g3,g4⟩
   ·refine ⟨u,?_,g3⟩
    rw [q4,if_neg (by omega),q2,if_neg (by omega)]
    exact JJ q u g2
   ·refine ⟨u,?_,g4⟩
    rw [nF] at g2
    rw [q4,if_pos (by rw [q1.size];omega)]
    have:p + q - (p + ii)=q - ii:=by omega
    rw [this]
    exact g3
   ·refine ⟨u,?_,g4⟩
    rw [nF] at g1 g2 g3
    rw [q4,if_neg (by omega),q2,if_pos (by rw [List.length_drop];omega),List.getElem?_drop]
    have:ii + (p + q - (p + (ii + m)))=q - m:=by omega
    rw [this]
    exact g3
  ·have ZC:ii=len:=by omega
   subst ZC
   refine (Any2.slices_Insert_int_end_room L rs.blk p ii c' r2.blk p2 m I5 news w zH fq hl.2 lI (fun j hj=>by rw [Nat.add_assoc];exact ym _ (by omega)) (fun j _=>la ha) Cv SN).mono ?_
   rintro e' w1 ⟨rfl,rfl⟩
   obtain ⟨a',q1,q2⟩:=e8 news (p + ii) w a ha
   refine Ow _ a' fq q1 fun q x hq=>?_
   rcases sH q x hq with ⟨g1,u,g2,g3⟩|⟨g1,g2,u,g3,g4⟩|⟨g1,g2,u,g3,g4⟩
   ·refine ⟨u,?_,g3⟩
    rw [q2,if_neg (by omega)]
    exact JJ q u g2
   ·refine ⟨u,?_,g4⟩
    rw [nF] at g2
    rw [q2,if_pos (by omega)]
    have:p + q - (p + ii)=q - ii:=by omega
    rw [this]
    exact g3
   ·omega
 ·by_cases fA:ii < len
  ·refine (Any2.slices_Insert_int_grow L rs.blk p len c' ii r2.blk p2 m I5 olds news w fA zH hl.1 (by omega) EK holds lI AQ Cv N4 SN).mono ?_
   rintro e' w1 ⟨rfl,rfl⟩
   generalize Ov:grownCap w (len + m) c' (sF.t 3)=cap at *
   generalize dY:(olds.take ii).toArray++Builtin.zeroCells (Value.int .i64 0).cells (len + m - ii)++Builtin.zeroCells (Value.int .i64 0).cells (cap - (len + m))=a0
   have cf:(olds.take ii).length=ii:=by rw [List.length_take];omega
   have ri:∀n,(Builtin.zeroCells (Value.int .i64 0).cells n).size=n:=fun n=>by rw [size_zeroCells];show n * 1=n;omega
   have bM:a0.size=cap:=by
    rw [← dY]
    simp only [Array.size_append,List.size_toArray,ri,cf]
    omega
   have h0:(w.alloc (.cells a0 (sF.t 3))).heap[w.heap.size]?=some (.cells a0 (sF.t 3) (0,0)):=by
    show (w.heap.push _)[w.heap.size]?=_
    simp
   obtain ⟨a',q1,q2⟩:=e8 news ii (w.alloc (.cells a0 (sF.t 3))).drew a0 h0
   obtain ⟨ZB,q3,q4⟩:=e8 (olds.drop ii) (ii + m) ((w.alloc (.cells a0 (sF.t 3))).drew.setCells w.heap.size ii news).drew a' q1.here
   refine JL _ ZB cap EM EL (by rw [q3.size,q1.size,bM]) q3.here (fun c hc=>?_) ?_ (q3.os.trans q1.os) (q3.tape.trans q1.tape) (q3.output.trans q1.output) fun q x hq=>?_
   ·have ZD:c≠w.heap.size:=by omega
    refine (q3.there c ZD).trans ((q1.there c ZD).trans ?_)
    show (w.heap.push _)[c]?=w.heap[c]?
    rw [Array.getElem?_push,if_neg ZD]
   ·rw [q3.heap]
    show _≤((w.alloc (.cells a0 (sF.t 3))).drew.setCells w.heap.size ii news).heap.size
    rw [q1.heap]
    show _≤(w.heap.push _).size
    simp
   ·rcases sH q x hq with ⟨g1,u,g2,g3⟩|⟨g1,g2,u,g3,g4⟩|⟨g1,g2,u,g3,g4⟩
    ·refine ⟨u,?_,g3⟩
     rw [q4,if_neg (by omega),q2,if_neg (by omega),← dY]
     rw [Array.append_assoc,Array.getElem?_append_left (by simp [cf];omega)]
     simp only [List.getElem?_toArray,List.getElem?_take,if_pos g1]
     exact g2
    ·refine ⟨u,?_,g4⟩
     rw [nF] at g2
     rw [q4,if_neg (by omega),q2,if_pos (by omega)]
     exact g3
    ·refine ⟨u,?_,g4⟩
     rw [nF] at g1 g2 g3
     rw [q4,if_pos (by rw [q1.size,List.length_drop];omega),List.getElem?_drop]
     have:ii + (q - (ii + m))=q - m:=by omega
     rw [this]
     exact g3
  ·have ZC:ii=len:=by omega
   subst ZC
   refine (Any2.slices_Insert_int_end_grow L (some ⟨rs.blk,p,none⟩) ii c' r2.blk p2 m I5 olds news w zH hl.1 (by omega) EK holds lI (fun h=>by cases h) (fun a ha j v hj=>by cases ha;rw [Addr.add_lit];exact AQ j v hj) Cv SN).mono ?_
   rintro e' w1 ⟨rfl,rfl⟩
   generalize Ov:grownCap w (ii + m) c' (sF.t 3)=cap at *
   have ri:∀n,(Builtin.zeroCells (Value.int .i64 0).cells n).size=n:=fun n=>by rw [size_zeroCells];show n * 1=n;omega
   refine JL _ ((olds++news).toArray++Builtin.zeroCells (Value.int .i64 0).cells (cap - (ii + m))) cap EM EL ?_ ?_ (fun c hc=>?_) ?_ rfl rfl rfl fun q x hq=>?_
   ·simp only [Array.size_append,List.size_toArray,List.length_append,ri,holds,lI]
    omega
   ·show (w.heap.push _)[w.heap.size]?=_
    simp
   ·show (w.heap.push _)[c]?=w.heap[c]?
    rw [Array.getElem?_push,if_neg (by omega)]
   ·show _≤(w.heap.push _).size
    simp
   ·have cf:q < (olds++news).length:=by
     have:=(List.getElem?_eq_some_iff.1 hq).1
     simp only [List.length_append,List.length_take,List.length_drop] at this
     rw [List.length_append,holds,lI]
     omega
    rw [Array.getElem?_append_left (by simpa using cf)]
    simp only [List.getElem?_toArray]
    rcases sH q x hq with ⟨g1,u,g2,g3⟩|⟨g1,g2,u,g3,g4⟩|⟨g1,g2,u,g3,g4⟩
    ·exact ⟨u,by rw [List.getElem?_append_left (by omega)];exact g2,g3⟩
    ·exact ⟨u,by rw [List.getElem?_append_right (by omega),holds];exact g3,g4⟩
    ·omega
end Go.Eng
