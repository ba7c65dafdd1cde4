import Derived.Test.YthbaplapbfbnoaaGreatEd
import Derived.Shelf.Spec.SlicesInsert
import Derived.Shelf.Spec.SlicesInsertGrow
/- An interpreter of the model's code that follows one order and is proved right for all: part 6. -/

set_option maxRecDepth 100000
namespace Go.Eng
section
open Go.Shelf
variable {P:Program}{ρ:bY}{H:Heap}{nx:Nat}{w:World}{xf:Ren}
theorem PF{o:Oper}{g:FuncId}{z bytes:Nat}{s i v:Operand}(h:ar P [g] o=some (.ins z bytes s i v)):z=1/\bytes=8/\∃d,o.op=.call d/\d.callee=.value (.func g)/\d.args.toList=[s,i,v]:=by
 cases ho:o.op with
 | call d=>
  simp only[ar,ho]at h;cases hd:d.callee with
  | value f=>
   rw[hd]at h;cases f with
   | func g'=>
    simp only at h;cases hg:eI [g] g' with
    | true=>
     rw[hg]at h;simp only[cond_true]at h;have hgg:g'=g:=by
      have:=ju.1 hg
      simpa using this
     subst hgg;split at h
     ·rename_i s' i' v' t ts cF _;split at h
      ·split at h
       ·cases h;exact⟨rfl,rfl,d,rfl,hd,cF⟩
       ·cases h
      ·cases h
     ·cases h
    | false=>rw[hg]at h;cases h
   | _=>simp only at h;cases h
  | builtin b=>
   exfalso;rw[hd]at h;simp only at h;unfold dh at h
   repeat' split at h
   all_goals first
    | (cases h;done)
    | (replace h:=ey h;cases h;done)
  | invoke x name=>rw[hd]at h;cases h
 | binOp op t x y b=>
  exfalso;simp only[ar,ho]at h;unfold jK at h
  repeat' split at h
  all_goals first
   | (cases h;done)
   | (replace h:=ey h;cases h;done)
 | makeFunc f a b=>exfalso;cases f<;>simp only[ar,ho]at h<;>cases h
 | next x q=>exfalso;cases q<;>simp only[ar,ho]at h<;>cases h
 | _=>
  exfalso;simp only[ar,ho]at h
  repeat' split at h
  all_goals first
   | (cases h;done)
   | (obtain⟨z,_,h⟩:=Option.map_eq_some_iff.1 (ey h);cases h;done)
   | (replace h:=ey h;cases h;done)
   | (obtain⟨z,_,h⟩:=Option.map_eq_some_iff.1 h;cases h;done)
theorem CW{b o:Nat}{v:Value}{a:Array Value}{e:TypeId}{fr:Nat×Nat}(h:w.heap[b]?=some (.cells a e fr)):(w.setCell ⟨b,o,none⟩ v).heap[b]?=some (.cells (a.setIfInBounds o v) e fr):=by
 show (w.heap.modify b _)[b]?=_;rw[Array.getElem?_modify,aJ rfl,h];rfl
theorem AG{b c o:Nat}{v:Value}(h:c≠b):(w.setCell ⟨b,o,none⟩ v).heap[c]?=w.heap[c]?:=by
 show (w.heap.modify b _)[c]?=_;rw[Array.getElem?_modify,aw (λe=>h e.symm)]
structure PG(w w':World)(b:Nat)(a a':Array Value)(e:TypeId):Prop where
 here:w'.heap[b]?=some (.cells a' e (0,0))
 size:a'.size=a.size
 there:∀c,c≠b->w'.heap[c]?=w.heap[c]?
 heap:w'.heap.size=w.heap.size
 os:w'.os=w.os
 tape:w'.tape=w.tape
 output:w'.output=w.output
theorem gE{b:Nat}{e:TypeId}:∀(vs:List Value) (o:Nat) (w:World) (a:Array Value),w.heap[b]?=some (.cells a e (0,0))->∃a',PG w (w.setCells b o vs) b a a' e/\
  ∀j,a'[j]?=if o<=j/\j<o+vs.length/\j<a.size then vs[j-o]? else a[j]?:=by
 intro vs
 induction vs with
 | nil=>
  intro o w a h;refine⟨a,⟨h,rfl,λ_ _=>rfl,rfl,rfl,rfl,rfl⟩,λj=>?_⟩;rw[aw (by simp;omega)]
 | cons v vs ih=>
  intro o w a h;obtain⟨a',h1,h2⟩:=ih (o+1) (w.setCell ⟨b,o,none⟩ v) (a.setIfInBounds o v) (CW h);refine⟨a',⟨h1.here,by rw[h1.size];simp,λc hc=>(h1.there c hc).trans (AG hc),by rw[World.setCells,h1.heap];simp[World.setCell],h1.os,h1.tape,h1.output⟩,λj=>?_⟩;rw[h2];simp only[Array.size_setIfInBounds,hO];by_cases h3:o+1<=j/\j<o+1+vs.length/\j<a.size
  ·rw[aJ h3,aJ V];have:j-o=(j-(o+1))+1:=V;rw[this,DV]
  ·rw[aw h3,Array.getElem?_setIfInBounds];by_cases h4:o=j
   ·subst h4;by_cases h5:o<a.size
    ·rw[aJ rfl,aJ h5,aJ V];simp
    ·rw[aJ rfl,aw h5,aw V];rw[Array.getElem?_eq_none V]
   ·rw[aw h4,aw V]
theorem pO{b o n p c':Nat}{s:Ref}{cs old:List Value}(hH:HR ρ H nx w.heap)(hb:ah H (at_ b)=some (.cells cs))(hs:ρ b=some s)(hold:take? (n*1) (fq cs o)=some old)(hn:n<=c')(hp:c'=0\/(p=s.sh+o/\p+c'*1<=s.size)) :
  ∃a e olds,w.heap[s.blk]?=some (.cells a e (0,0))/\a.size=s.size/\dJ ρ old olds/\old.length=n/\∀j u,olds[j]?=some u->a[p+j]?=some u:=by
 obtain⟨s',fD,a,e,ha,m7,bH⟩:=hH.blk b _ hb;rw[hs]at fD;cases fD
 obtain⟨t1,t2⟩:=take?_get hold;rw[Nat.mul_one]at t1 t2;have key:∀j v,old[j]?=some v->∃u,a[p+j]?=some u/\VR ρ v u:=by
  intro j v hv;have hj:j<n:=by rw[<-t1];exact(cS.1 hv).1
  rw[t2 j hj,fw,List.getElem?_drop]at hv;obtain⟨u,hu,hr⟩:=bH (o+j) v hv;refine⟨u,?_,hr⟩;rcases hp with h0|⟨h1,_⟩
  ·omega
  ·rw[h1,Nat.add_assoc];exact hu
 have hlen:((a.toList.drop p).take n).length=n:=by
  rcases Nat.eq_zero_or_pos n with h0|h0
  ·rw[h0];simp
  ·rcases hp with h1|⟨_,h2⟩
   ·omega
   ·simp;omega
 refine⟨a,e,(a.toList.drop p).take n,ha,m7,dJ.xM (by rw[hlen,t1]) λj v hv=>?_,t1,λj u hu=>?_⟩
 ·obtain⟨u,hu,hr⟩:=key j v hv;have hj:j<n:=by rw[<-t1];exact(cS.1 hv).1
  refine⟨u,?_,hr⟩;rw[wA,aJ hj,List.getElem?_drop]
  simpa using hu
 ·rw[wA]at hu;split at hu
  ·rw[List.getElem?_drop]at hu
   simpa using hu
  ·cases hu
theorem xg{b j:Nat}{a:Array Value}{e:TypeId}{v:Value}(h:w.heap[b]?=some (.cells a e (0,0)))(hj:a[j]?=some v):w.cell? ⟨b,j,none⟩=some v:=by
 unfold World.cell?;rw[h];exact hj
theorem oo{b j:Nat}{a:Array Value}{e:TypeId}(h:w.heap[b]?=some (.cells a e (0,0))):w.frozen? ⟨b,j,none⟩=false:=by
 unfold World.frozen?;rw[h];simp
theorem Fx{b:Nat}{a:Array Value}{e:TypeId}(h:w.heap[b]?=some (.cells a e (0,0))):w.shape? b=some (e,a.size):=by
 unfold World.shape?;rw[h]
theorem PH{old new:List Value}{olds news:List Value}{i q:Nat}{v:Value}(ho:dJ ρ old olds)(hn:dJ ρ new news)(hi:i<=old.length)(h:(old.take i++(new++old.drop i))[q]?=some v) :
  (q<i/\∃u,olds[q]?=some u/\VR ρ v u)\/(i<=q/\q<i+new.length/\∃u,news[q-i]?=some u/\VR ρ v u)\/(i+new.length<=q/\q<old.length+new.length/\∃u,olds[q-new.length]?=some u/\VR ρ v u):=by
 have ht:(old.take i).length=i:=by rw[iZ];omega
 rw[List.getElem?_append]at h;split at h
 ·rename_i h1;rw[ht]at h1;rw[wA,aJ h1]at h;exact .inl ⟨h1,ho.get h⟩
 ·rename_i h1;rw[ht]at h1;rw[ht,List.getElem?_append]at h;split at h
  ·rename_i h2;exact .inr (.inl ⟨V,V,hn.get h⟩)
  ·rename_i h2;rw[List.getElem?_drop]at h;have e:i+(q-i-new.length)=q-new.length:=V;rw[e]at h;have:=(cS.1 h).1;exact .inr (.inr ⟨V,V,ho.get h⟩)
end
section
open Go.Shelf Go.Proofs
variable {P:Program}{ρ:bY}{H:Heap}{nx:Nat}{w w':World}{xf:Ren}
theorem CX{b p:Nat}{s:Ref}{cs fin:List Value}{a a':Array Value}{e:TypeId}(hH:HR ρ H nx w.heap)(hb:ah H (at_ b)=some (.cells cs))(hs:ρ b=some s)(hw:PG w w' s.blk a a' e)(m7:a.size=s.size)(ny:∀(j:Nat) (v:Value),fin[j]?=some v->∃u,a'[p+j]?=some u/\VR ρ v u):lJ ρ H nx w (ρ.with nx ⟨s.blk,p,s.size⟩) (cA (at_ nx) (cA (at_ b) H none) (some (.cells fin))) (nx+1) w':=by
 have mT:mf ρ H s.blk:=⟨b,_,s,hb,rfl,hs,rfl⟩;have ext:=hH.gz ⟨s.blk,p,s.size⟩;refine⟨?_,⟨ext,λj hj=>?_,(Hl.put _ _ _).trans (.forget _ _),λj hj hn=>?_,by rw[hw.heap];exact au _,hw.os,hw.tape,hw.output⟩,cE _,λc hc=>bY.iD _ _ V⟩
 ·refine(hH.forget b).make (r:=⟨s.blk,p,s.size⟩) (λb1 y s1 dS bt=>?_) ⟨a',e,hw.here,by rw[hw.size,m7],λj v hj=>?_⟩
  ·have cG:b1≠b:=by
    intro e';subst e'
    rw[cB]at dS;cases dS
   rw[bz _ _ _ _ (λe'=>cG (gy e'))]at dS;have As:s1.blk≠s.blk:=λe'=>cG (hH.inj b b1 _ y s s1 hb dS rfl hs bt e'.symm).symm
   exact⟨hw.there _ As,As⟩
  ·obtain⟨u,h1,h2⟩:=ny j v hj;exact⟨u,h1,h2.mono ext⟩
 ·rcases mf.wY hj with rfl|ho
  ·exact .inl mT
  ·exact .inl ho.qh
 ·exact hw.there j λe'=>hn (e' ▸ mT)
theorem Fy{b:Nat}{fin:List Value}{a':Array Value}{e:TypeId}(hH:HR ρ H nx w.heap)(here:w'.heap[w.heap.size]?=some (.cells a' e (0,0)))(old:∀c,c<w.heap.size->w'.heap[c]?=w.heap[c]?)(m7:w.heap.size<=w'.heap.size)(WV:w'.os=w.os)(ht:w'.tape=w.tape)(oU:w'.output=w.output)(ny:∀(j:Nat) (v:Value),fin[j]?=some v->∃u,a'[j]?=some u/\VR ρ v u) :
  lJ ρ H nx w (ρ.with nx ⟨w.heap.size,0,a'.size⟩) (cA (at_ nx) (cA (at_ b) H none) (some (.cells fin))) (nx+1) w':=by
 have ext:=hH.gz ⟨w.heap.size,0,a'.size⟩;have cg:∀b1 y s1,ah (cA (at_ b) H none) (at_ b1)=some y->ρ b1=some s1->s1.blk<w.heap.size:=by
  intro b1 y s1 dS bt;obtain⟨s2,q1,q2⟩:=(hH.forget b).blk b1 y dS;rw[bt]at q1;cases q1;exact q2.lt
 refine⟨?_,⟨ext,λj hj=>?_,(Hl.put _ _ _).trans (.forget _ _),λj hj hn=>old j hj,m7,WV,ht,oU⟩,cE _,λc hc=>bY.iD _ _ V⟩
 ·refine(hH.forget b).make (r:=⟨w.heap.size,0,a'.size⟩) (λb1 y s1 dS bt=>?_) ⟨a',e,here,rfl,λj v hj=>?_⟩
  ·have:=cg b1 y s1 dS bt;exact⟨old _ this,by show s1.blk≠w.heap.size;omega⟩
  ·obtain⟨u,h1,h2⟩:=ny j v hj;exact⟨u,by rw[Nat.zero_add];exact h1,h2.mono ext⟩
 ·rcases mf.wY hj with rfl|ho
  ·exact .inr (au _)
  ·exact .inl ho.qh
theorem TP{g:FuncId}(L:Lays2.n21 P xf)(hg:xf.f 21=g)(qU:fI P g){o:Oper}{s i v:Operand}{d:Call}(ho:o.op=.call d)(hd:d.callee=.value (.func g))(cF:d.args.toList=[s,i,v]){n0 c0 ii:Nat}{vv:Value}{c:_root_.Go.Act}(hs:VR ρ (.slice none n0 c0) (c.eval s))(hi:VR ρ (.int .i64 (.ofNat ii)) (c.eval i))(hv:VR ρ vv (c.eval v))(hH:HR ρ H nx w.heap){k:KA}{r:Ex×St}(h1:wD vv (Tb 1 8 H nx k ii)=some r) :
  ∃g us,(execOp c.eval o).run P w=.ok (.enter g us) w/\Calls P g us w λe w'=>∃x H' nx' u ρ',k x H' nx'=some r/\e=.returned u/\VR ρ' x u/\lJ ρ H nx w ρ' H' nx' w':=by
 obtain⟨b2,o2,z2,m,c2,rfl,h3⟩:=nq h1;unfold Tb at h3;obtain⟨yb,h4⟩:=ct h3;simp only[gd]at yb;obtain⟨uE,_,hm,BA⟩:=yb;have XD:=dB uE;subst XD;have wZ:0<m:=by simpa[Nat.blt_eq]using hm
 have ae3:=dB BA;subst ae3;obtain⟨kf,Mn,h6⟩:=fG h4;obtain⟨new,gQ,h7⟩:=bn h6;obtain⟨Fz,h10⟩:=ct h7;rw[cL]at h10;obtain⟨PI,pB,hk⟩:=my h10;have zR:c.eval i=.int .i64 (((0:Nat):Int)):=hi.jr;generalize hsu:c.eval s=su at hs;generalize hvu:c.eval v=vu at hv;cases hs with
 | sc h=>simp[scalar]at h
 | mP=>
 cases hv with
 | sc h=>simp[scalar]at h
 | @sl _ _ _ _ _ p2 O1 r2 Ek nc ae4 he2 G0=>
 obtain⟨a2,e2,news,VN,ae5,vJ,gg,Oj⟩:=pO hH Mn Ek gQ nc.1 G0;have oI:news.length=m:=by rw[vJ.length,gg]
 have h1v:=vJ.one Fz;have HH:∀j u,news[j]?=some u->w.cell? ⟨r2.blk,p2+j,none⟩=some u:=λj u hj=>xg VN (Oj j u hj)
 have J5:(0+m)*8<=140737488355328:=by unfold small at PI;omega
 have fT:(execOp c.eval o).run P w=.ok (.enter g #[.slice none 0 0,.int .i64 ((0:Nat):Int),.slice (some ⟨r2.blk,p2,none⟩) m O1]) w:=by
  have dt:(execOp c.eval o).run P w=(callFunc g #[c.eval s,c.eval i,c.eval v]).run P w:=by
   have yh:c.eval (.func g)=.func (.func g) #[] #[]:=rfl;simp only[execOp,ho,resolve,hd,yh,Deferred.ofValue,Sem.run_bind,Sem.run_pure,Result.andThen_ok,invoke]
   congr 2
   apply Array.ext';simp[cF]
  rw[dt,qU.run,hsu,zR,hvu]
 refine⟨g,_,fT,?_⟩;have J6:grownCap w (0+m) 0 (xf.t 3)<=ft:=grownCap_le_maxLen w (0+m) 0 (xf.t 3) (by unfold maxLen;omega);have J7:0+m<=grownCap w (0+m) 0 (xf.t 3):=grownCap_ge w (0+m) 0 (xf.t 3);subst hg;refine(Any2.slices_Insert_int_end_grow L none 0 0 r2.blk p2 m O1 [] news w wZ (au _) V J5 rfl oI (λ_=>rfl) (λa ha=>by cases ha) HH h1v).mono ?_;rintro e' w1 ⟨rfl,rfl⟩;generalize VO:grownCap w (0+m) 0 (xf.t 3)=cap at *
 have zT:∀n,(Builtin.zeroCells (Value.int .i64 0).cells n).size=n:=λn=>by rw[size_zeroCells];show n*1=n;omega
 have abw:(([]++news).toArray++Builtin.zeroCells (Value.int .i64 0).cells (cap-(0+m))).size=cap:=by
  simp only[Array.size_append,List.size_toArray,cm,zT,gp,oI];omega
 refine⟨_,_,_,_,ρ.with nx ⟨w.heap.size,0,cap⟩,hk,rfl,s5 (rf:=⟨w.heap.size,0,cap⟩) ⟨J7,J6⟩ ⟨rfl,by show 0+cap*1<=cap;omega⟩,?_⟩;have:=Fy (b:=nx) (fin:=[]++new) (a':=([]++news).toArray++Builtin.zeroCells (Value.int .i64 0).cells (cap-(0+m))) (e:=xf.t 3) (w':=w.drew.alloc (.cells (([]++news).toArray++Builtin.zeroCells (Value.int .i64 0).cells (cap-(0+m))) (xf.t 3))) hH
  (by show (w.heap.push _)[w.heap.size]?=_;simp) (λc hc=>by show (w.heap.push _)[c]?=w.heap[c]?;rw[Array.getElem?_push,aw V]) (by show _<=(w.heap.push _).size;simp) rfl rfl rfl (λq x hq=>by
   obtain⟨u,g1,g2⟩:=vJ.get (by simpa using hq);refine⟨u,?_,g2⟩;have cg:=(cS.1 g1).1;rw[Array.getElem?_append_left (by simpa using cg)]
   simpa using g1)
 rw[abw]at this;exact this
theorem WH{g:FuncId}(L:Lays2.n21 P xf)(hg:xf.f 21=g)(qU:fI P g):ri P [g]:=by
 intro o z bytes s i v hc ρ H nx w sv iv vv c hs hi hv hH k r h;obtain⟨rfl,rfl,d,ho,hd,cF⟩:=PF hc;obtain⟨ii,rfl,h1⟩:=yi h;unfold Hi at h1;split at h1
 ·exact TP L hg qU ho hd cF hs hi hv hH h1
 obtain⟨b,off,z1,len,cp,rfl,h2⟩:=nq h1;obtain⟨b2,o2,z2,m,c2,rfl,h3⟩:=nq h2;unfold WM at h3;obtain⟨yb,h4⟩:=ct h3;simp only[gd,Bool.not_eq_true']at yb;obtain⟨sU,uE,_,hm,jT,iy⟩:=yb;have ae6:=dB sU;have XD:=dB uE;subst ae6;subst XD
 have wZ:0<m:=by simpa[Nat.blt_eq]using hm
 have ahQ:ii<=len:=lu jT;have cG:b≠b2:=Ab iy;obtain⟨cs,oG,h5⟩:=fG h4;obtain⟨kf,Mn,h6⟩:=fG h5;obtain⟨old,hold,h7⟩:=bn h6;obtain⟨new,gQ,h8⟩:=bn h7;obtain⟨front,XE,h9⟩:=bn h8;obtain⟨Fz,h10⟩:=ct h9;simp only[gd]at Fz;rw[cL]at h10;obtain⟨PI,pB,hk⟩:=my h10;have zR:c.eval i=.int .i64 (ii:Int):=hi.jr;generalize hsu:c.eval s=su at hs;generalize hvu:c.eval v=vu at hv;cases hs with
 | sc h=>simp[scalar]at h
 | @sl _ _ _ _ _ p c' rs hrs hl qj he hp=>
 cases hv with
 | sc h=>simp[scalar]at h
 | @sl _ _ _ _ _ p2 O1 r2 Ek nc ae4 he2 G0=>
 obtain⟨a,e,olds,ha,m7,o8,qo,uj⟩:=pO hH oG hrs hold hl.1 hp;obtain⟨a2,e2,news,VN,ae5,vJ,gg,Oj⟩:=pO hH Mn Ek gQ nc.1 G0;have As:r2.blk≠rs.blk:=λe'=>cG (hH.inj b b2 _ _ rs r2 oG Mn rfl hrs Ek e'.symm)
 have jP:front=old.take ii:=by
  have:=take?_eq _ _ _ (show take? (ii*1) old=some front from XE);rw[Nat.mul_one]at this;exact this.1
 have PJ:fq old (Nat.mul ii 1)=old.drop ii:=by rw[fw];congr 1;exact Nat.mul_one ii
 rw[jP,PJ]at hk;have holds:olds.length=len:=by rw[o8.length,qo]
 have oI:news.length=m:=by rw[vJ.length,gg]
 have Vz:=o8.one Fz.1;have h1v:=vJ.one Fz.2;have DQ:∀j u,olds[j]?=some u->w.cell? ⟨rs.blk,p+j,none⟩=some u:=λj u hj=>xg ha (uj j u hj)
 have HH:∀j u,news[j]?=some u->w.cell? ⟨r2.blk,p2+j,none⟩=some u:=λj u hj=>xg VN (Oj j u hj)
 have J5:(len+m)*8<=140737488355328:=by unfold small at PI;omega
 have fT:(execOp c.eval o).run P w=.ok (.enter g #[.slice (some ⟨rs.blk,p,none⟩) len c',.int .i64 (ii:Int),.slice (some ⟨r2.blk,p2,none⟩) m O1]) w:=by
  have dt:(execOp c.eval o).run P w=(callFunc g #[c.eval s,c.eval i,c.eval v]).run P w:=by
   have yh:c.eval (.func g)=.func (.func g) #[] #[]:=rfl;simp only[execOp,ho,resolve,hd,yh,Deferred.ofValue,Sem.run_bind,Sem.run_pure,Result.andThen_ok,invoke]
   congr 2
   apply Array.ext';simp[cF]
  rw[dt,qU.run,hsu,zR,hvu]
 refine⟨g,_,fT,?_⟩;have xh:∀(q:Nat) (v:Value),(old.take ii++(new++old.drop ii))[q]?=some v->_:=λq v hq=>PH (q:=q) o8 vJ V hq
 have PL:len+m<=c'->p=rs.sh+off/\p+c'<=rs.size:=by
  intro hr;rcases hp with h0|⟨q1,q2⟩
  ·omega
  ·exact⟨q1,V⟩
 have VP:∀(w1:World) (a':Array Value),len+m<=c'->PG w w1 rs.blk a a' e->(∀(q:Nat) (v:Value),(old.take ii++(new++old.drop ii))[q]?=some v->∃u,a'[p+q]?=some u/\VR ρ v u)->
   ∃x H' nx' u ρ',k x H' nx'=some r/\Ending.returned (.slice (some ⟨rs.blk,p,none⟩) (len+m) c')=.returned u/\VR ρ' x u/\lJ ρ H nx w ρ' H' nx' w1:=by
  intro w1 a' hr hw hf;exact⟨_,_,_,_,_,hk,rfl,s5 (rf:=⟨rs.blk,p,rs.size⟩) ⟨hr,hl.2⟩ ⟨rfl,by show p+c'*1<=rs.size;have:=(PL hr).2;omega⟩,CX hH oG hrs hw m7 hf⟩
 have PM:∀(w1:World) (a':Array Value) (cap:Nat),len+m<=cap->cap<=ft->a'.size=cap->w1.heap[w.heap.size]?=some (.cells a' (xf.t 3) (0,0))->(∀c,c<w.heap.size->w1.heap[c]?=w.heap[c]?)->w.heap.size<=w1.heap.size->w1.os=w.os->w1.tape=w.tape->w1.output=w.output->
   (∀(q:Nat) (v:Value),(old.take ii++(new++old.drop ii))[q]?=some v->∃u,a'[q]?=some u/\VR ρ v u)->
   ∃x H' nx' u ρ',k x H' nx'=some r/\Ending.returned (.slice (some ⟨w.heap.size,0,none⟩) (len+m) cap)=.returned u/\VR ρ' x u/\lJ ρ H nx w ρ' H' nx' w1:=by
  intro w1 a' cap hr hcm ahR here JI hle WV ht oU hf;exact⟨_,_,_,_,_,hk,rfl,s5 (rf:=⟨w.heap.size,0,a'.size⟩) ⟨hr,hcm⟩ ⟨rfl,by show 0+cap*1<=a'.size;omega⟩,Fy hH here JI hle WV ht oU hf⟩
 have J6:grownCap w (len+m) c' (xf.t 3)<=ft:=grownCap_le_maxLen w (len+m) c' (xf.t 3) (by unfold maxLen;omega);have J7:len+m<=grownCap w (len+m) c' (xf.t 3):=grownCap_ge w (len+m) c' (xf.t 3);subst hg;by_cases gX:len+m<=c'
 ·obtain⟨GY,XF⟩:=PL gX;have AF:∀j,j<len+m->(w.cell? ⟨rs.blk,p+j,none⟩).isSome=true:=by
   intro j hj;rw[xg ha (Array.getElem?_eq_getElem V)];rfl
  by_cases ie:ii<len
  ·refine(Any2.slices_Insert_int_shift L rs.blk p len c' ii r2.blk p2 m O1 olds news w ie wZ gX hl.2 As holds oI DQ AF (λj _=>oo ha) HH Vz h1v e2 e a2.size a.size (Fx VN) (Fx ha) V (oo VN) (oo VN)).mono ?_;rintro e' w1 ⟨rfl,rfl⟩;obtain⟨a',q1,q2⟩:=gE (olds.drop ii) (p+(ii+m)) w.drew a ha;obtain⟨a'',q3,q4⟩:=gE news (p+ii) (w.drew.setCells rs.blk (p+(ii+m)) (olds.drop ii)) a' q1.here;refine VP _ a'' gX ⟨q3.here,by rw[q3.size,q1.size],λc hc=>(q3.there c hc).trans (q1.there c hc),q3.heap.trans q1.heap,q3.os.trans q1.os,q3.tape.trans q1.tape,q3.output.trans q1.output⟩ λq x hq=>?_
   rcases xh q x hq with⟨g1,u,g2,g3⟩|⟨g1,g2,u,g3,g4⟩|⟨g1,g2,u,g3,g4⟩
   ·refine⟨u,?_,g3⟩;rw[q4,aw V,q2,aw V];exact uj q u g2
   ·refine⟨u,?_,g4⟩;rw[gg]at g2;rw[q4,aJ (by rw[q1.size];omega)];have:p+q-(p+ii)=q-ii:=V;rw[this];exact g3
   ·refine⟨u,?_,g4⟩;rw[gg]at g1 g2 g3;rw[q4,aw V,q2,aJ (by rw[pf];omega),List.getElem?_drop];have:ii+(p+q-(p+(ii+m)))=q-m:=V;rw[this];exact g3
  ·have hie:ii=len:=V;subst hie;refine(Any2.slices_Insert_int_end_room L rs.blk p ii c' r2.blk p2 m O1 news w wZ gX hl.2 oI (λj hj=>by rw[Nat.add_assoc];exact AF _ V) (λj _=>oo ha) HH h1v).mono ?_;rintro e' w1 ⟨rfl,rfl⟩;obtain⟨a',q1,q2⟩:=gE news (p+ii) w a ha;refine VP _ a' gX q1 λq x hq=>?_
   rcases xh q x hq with⟨g1,u,g2,g3⟩|⟨g1,g2,u,g3,g4⟩|⟨g1,g2,u,g3,g4⟩
   ·refine⟨u,?_,g3⟩;rw[q2,aw V];exact uj q u g2
   ·refine⟨u,?_,g4⟩;rw[gg]at g2;rw[q2,aJ V];have:p+q-(p+ii)=q-ii:=V;rw[this];exact g3
   ·omega
 ·by_cases ie:ii<len
  ·refine(Any2.slices_Insert_int_grow L rs.blk p len c' ii r2.blk p2 m O1 olds news w ie wZ hl.1 V J5 holds oI DQ HH Vz h1v).mono ?_;rintro e' w1 ⟨rfl,rfl⟩;generalize VO:grownCap w (len+m) c' (xf.t 3)=cap at *
   generalize dv:(olds.take ii).toArray++Builtin.zeroCells (Value.int .i64 0).cells (len+m-ii)++Builtin.zeroCells (Value.int .i64 0).cells (cap-(len+m))=a0;have cg:(olds.take ii).length=ii:=by rw[iZ];omega
   have zT:∀n,(Builtin.zeroCells (Value.int .i64 0).cells n).size=n:=λn=>by rw[size_zeroCells];show n*1=n;omega
   have bF:a0.size=cap:=by
    rw[<-dv];simp only[Array.size_append,List.size_toArray,zT,cg];omega
   have h0:(w.alloc (.cells a0 (xf.t 3))).heap[w.heap.size]?=some (.cells a0 (xf.t 3) (0,0)):=by
    show (w.heap.push _)[w.heap.size]?=_;simp
   obtain⟨a',q1,q2⟩:=gE news ii (w.alloc (.cells a0 (xf.t 3))).drew a0 h0;obtain⟨a'',q3,q4⟩:=gE (olds.drop ii) (ii+m) ((w.alloc (.cells a0 (xf.t 3))).drew.setCells w.heap.size ii news).drew a' q1.here;refine PM _ a'' cap J7 J6 (by rw[q3.size,q1.size,bF]) q3.here (λc hc=>?_) ?_ (q3.os.trans q1.os) (q3.tape.trans q1.tape) (q3.output.trans q1.output) λq x hq=>?_
   ·have hcn:c≠w.heap.size:=V;refine(q3.there c hcn).trans ((q1.there c hcn).trans ?_);show (w.heap.push _)[c]?=w.heap[c]?;rw[Array.getElem?_push,aw hcn]
   ·rw[q3.heap];show _<=((w.alloc (.cells a0 (xf.t 3))).drew.setCells w.heap.size ii news).heap.size;rw[q1.heap];show _<=(w.heap.push _).size;simp
   ·rcases xh q x hq with⟨g1,u,g2,g3⟩|⟨g1,g2,u,g3,g4⟩|⟨g1,g2,u,g3,g4⟩
    ·refine⟨u,?_,g3⟩;rw[q4,aw V,q2,aw V,<-dv];rw[Array.append_assoc,Array.getElem?_append_left (by simp[cg];omega)];simp only[List.getElem?_toArray,wA,aJ g1];exact g2
    ·refine⟨u,?_,g4⟩;rw[gg]at g2;rw[q4,aw V,q2,aJ V];exact g3
    ·refine⟨u,?_,g4⟩;rw[gg]at g1 g2 g3;rw[q4,aJ (by rw[q1.size,pf];omega),List.getElem?_drop];have:ii+(q-(ii+m))=q-m:=V;rw[this];exact g3
  ·have hie:ii=len:=V;subst hie;refine(Any2.slices_Insert_int_end_grow L (some ⟨rs.blk,p,none⟩) ii c' r2.blk p2 m O1 olds news w wZ hl.1 V J5 holds oI (λh=>by cases h) (λa ha j v hj=>by cases ha;rw[Addr.add_lit];exact DQ j v hj) HH h1v).mono ?_;rintro e' w1 ⟨rfl,rfl⟩;generalize VO:grownCap w (ii+m) c' (xf.t 3)=cap at *
   have zT:∀n,(Builtin.zeroCells (Value.int .i64 0).cells n).size=n:=λn=>by rw[size_zeroCells];show n*1=n;omega
   refine PM _ ((olds++news).toArray++Builtin.zeroCells (Value.int .i64 0).cells (cap-(ii+m))) cap J7 J6 ?_ ?_ (λc hc=>?_) ?_ rfl rfl rfl λq x hq=>?_
   ·simp only[Array.size_append,List.size_toArray,cm,zT,holds,oI];omega
   ·show (w.heap.push _)[w.heap.size]?=_;simp
   ·show (w.heap.push _)[c]?=w.heap[c]?;rw[Array.getElem?_push,aw V]
   ·show _<=(w.heap.push _).size;simp
   ·have cg:q<(olds++news).length:=by
     have:=(cS.1 hq).1;simp only[cm,iZ,pf]at this;rw[cm,holds,oI];omega
    rw[Array.getElem?_append_left (by simpa using cg)];simp only[List.getElem?_toArray];rcases xh q x hq with⟨g1,u,g2,g3⟩|⟨g1,g2,u,g3,g4⟩|⟨g1,g2,u,g3,g4⟩
    ·exact⟨u,by rw[eC V];exact g2,g3⟩
    ·exact⟨u,by rw[aiQ V,holds];exact g3,g4⟩
    ·omega
end
end Go.Eng
