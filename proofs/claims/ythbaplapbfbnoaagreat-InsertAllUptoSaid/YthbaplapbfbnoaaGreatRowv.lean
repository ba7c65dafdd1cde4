/-
  Routes, costs, and the net and rotation with the edge brought in, are the document's, or are refused as it says: 'tracerylaw19.InsertAll' gives true for every net, rotation and two nodes whose reading is of bulk at most 1048576, and they read as they did.
  'begun' is computed by an interpreter of the model's code that is proved right for every draw; all else is shown for every input by a program logic over that interpreter.
-/
import Derived.Test.YthbaplapbfbnoaaGreatRows
import Derived.WalkKit
import Derived.ProofKit
import Derived.OpenShut
import Derived.SizedLaws
import Derived.JoinedCond
import Derived.Test.YthbaplapbfbnoaaGreatEe
import Derived.Test.YthbaplapbfbnoaaGreatWh
import Derived.Test.YthbaplapbfbnoaaGreatBo
namespace Go.Proofs.YthbaplapbfbnoaaGreat.insertAll
open Go.Eng
open Go.ChangeShapes Go.WideShapes Go.ChangeAt Go.RowKit
set_option linter.unusedVariables false
set_option maxRecDepth 100000

/-- what was there is what it was -/
def Kept(w w':World):Prop:=w'.os=w.os/\w'.output=w.output/\∀i:Nat,i<w.heap.size->w'.heap[i]?=w.heap[i]?

theorem Kept.vX{w w':World}(h:Kept w w')(may:MemPlace->Prop):w.keptBut w' may:=by
 refine⟨h.1,h.2.1,λi hi=>?_⟩;rw[h.2.2 i hi];cases w.heap[i]? with
 | none=>rfl
 | some o=>
  cases o<;>first|rfl|exact⟨rfl,rfl,rfl,λ_ _=>rfl⟩|exact .inr ⟨rfl,rfl⟩

theorem Um{ρ ρ':bY}{H H':Heap}{w w':World}(o8:∀b k,ah H (at_ b)=some k->k.kj=false)(h:Hm ρ H w ρ' H' w'):Kept w w':=
 ⟨h.os,h.output,λi hi=>h.frame i hi (λ⟨b,x,s,hb,hm,_⟩=>by rw[o8 b x hb]at hm;cases hm)⟩

theorem Ms:fI Tryz.prog 21:=⟨Tryz.f21,Tryz.func21,O,O⟩
theorem Mt:fI Tryz.prog 22:=⟨Tryz.f22,Tryz.func22,O,O⟩
open Classical in
noncomputable def lR(g:FuncId)(vs:List Value)(H:Heap)(nx:Nat):Option eF:=
 if g=4/\vs=[]then some (.ok (.bool true) H nx)else if g=22/\FD vs H nx then some (.ok (.bool true) .e nx)else if h:g=21/\∃b,yJ vs H b then some (.ok (.tuple #[]) (kill H (Classical.choose h.2)) nx)else Option.none
theorem Mu{g:FuncId}{vs:List Value}{H:Heap}{nx:Nat}{c:eF}(h:lR g vs H nx=some c):dX Tryz.prog g vs H nx c:=by
 unfold lR at h;split at h
 ·rename_i hg;obtain⟨rfl,rfl⟩:=hg;cases h;exact dX.anywhere (H2:=rY fo.post) (nx2:=fo.nx') oko rfl H nx
 ·split at h
  ·rename_i hg;obtain⟨rfl,hp⟩:=hg;cases h;exact Iw aok Mt O O (λ_ _ _=>rfl) (λ_ _ _=>rfl) hp
  ·split at h
   ·rename_i hg;obtain⟨rfl,hp⟩:=id hg;cases h;exact Ix aok Ms O O (λ_ _ _=>rfl) (λ_ _ _=>rfl) (Classical.choose_spec hg.2)
   ·cases h

noncomputable def mW:aN:=⟨Tryz.prog,λg=>ah all (at_ g),lR⟩
theorem Mv:GR Tryz.prog [96] mW:=⟨rfl,insert,mixed,(λg vs H nx c h=>Mu h),λg af h=>DT NU g af h⟩
theorem Mw(g:FuncId)(h4:g≠4)(h16:g≠21)(h17:g≠22)(vs:List Value)(H:Heap)(nx:Nat):mW.aS g vs H nx=Option.none:=by
 show lR g vs H nx=Option.none;unfold lR;rw[if_neg (λh=>h4 h.1),if_neg (λh=>h17 h.1),dif_neg (λh=>h16 h.1)]
theorem ab8(H:Heap)(nx:Nat):mW.aS 4 [] H nx=some (.ok (.bool true) H nx):=by
 show lR 4 [] H nx=_;unfold lR;rw[if_pos ⟨rfl,rfl⟩]
theorem YA(vs:List Value)(H:Heap)(nx:Nat)(h:FD vs H nx):mW.aS 22 vs H nx=some (.ok (.bool true) .e nx):=by
 show lR 22 vs H nx=_;unfold lR;rw[if_neg (λh=>absurd h.1 (by decide)),if_pos ⟨rfl,h⟩]
theorem YB{vs:List Value}{H:Heap}{b b':Nat}(h:yJ vs H b)(h':yJ vs H b'):b=b':=by
 obtain⟨n,l,c,cs,rfl,_⟩:=h;obtain⟨n',l',c',cs',e,_⟩:=h';have e1:=congrArg Array.toList (Value.agg.inj (List.cons.inj e).1);have e2:=(List.cons.inj (List.cons.inj e1).2).1;have e3:=(Value.slice.inj e2).1;exact(Addr.mk.inj (Option.some.inj e3)).1
theorem YC(vs:List Value)(H:Heap)(nx b:Nat)(h:yJ vs H b):mW.aS 21 vs H nx=some (.ok (.tuple #[]) (kill H b) nx):=by
 show lR 21 vs H nx=_;unfold lR;have hx:(21:Nat)=21/\∃b,yJ vs H b:=⟨rfl,b,h⟩;rw[if_neg (λh=>absurd h.1 (by decide)),if_neg (λh=>absurd h.1 (by decide)),dif_pos hx,YB (Classical.choose_spec hx.2) h]
theorem ab9:abu Tryz.prog 61:=⟨3,_,Tryz.underlying61,O,O,Tryz.underlying3⟩
theorem known:eA mW where
 hk:=Mw
 hb:=ab8
 hs:=YC
 ha:=YA
 q49:=TO.arr O ab9
 q57:=⟨O,λa0 a1 b0 b1=>Fw Tryz.underlying72 O (by decide) (by decide) rfl rfl Tryz.underlying3 Tryz.underlying3 O O 9998⟩
 Qo:=O
 FE:=O
 VW:=O
 Qp:=O
 Qq:=O
 J9:=O
 VX:=O
 Qr:=O
 yK:=O
 Qs:=O
 Qt:=O
 Ka:=O
 Kb:=O
 Qu:=O
 Qv:=O
 Kc:=O
 Ke:=O
 Kf:=O
 Kg:=O
 Qw:=O
 Qx:=O
 Kh:=O
 FF:=O
 aca:=O
 Qy:=O
 VY:=O
 acb:=O
 VZ:=O
 FG:=O
 V0:=O
 Ki:=O
 Kj:=O
 acd:=O
 Kk:=O
 FH:=O
 V1:=O
 ace:=O
 V2:=O
 Qz:=O
 Kl:=O
 V3:=O
 Km:=O
 QA:=O
 Kn:=O
 QB:=O
 Ko:=O
 QC:=O
 V4:=O
 acf:=O
 Kp:=O
 FI:=O
 Kq:=O
 acg:=O
 QD:=O
 BE:=O
 ach:=O
 QE:=O
 yL:=O
 tJ:=O
 V5:=O
 QF:=O
 fTo:=O
 FJ:=O
 Kr:=O
 C4:=O
 C5:=O
 xl:=O
 BF:=O
 fOf:=O
 aci:=O
 Iy:=O
 QG:=O
 C6:=O
 C7:=O
 YD:=O
 C8:=O
 yM:=O
 YE:=O
 QH:=O
 QI:=O
 QJ:=O
 Ks:=O
 Kt:=O
 Ku:=O
 Kv:=O
 Kw:=O

/-! ### what the bound gives -/
theorem one_le{H:Type}(d:DataW H):1<=Rows.uptoBulk d:=by
 cases d with
 | lit l=>cases l<;>simp[Rows.uptoBulk]
 | _=>simp[Rows.uptoBulk]
theorem Kx{H:Type}{d:DataW H}{l:List (DataW H)}(h:d∈l):Rows.uptoBulk d<=Rows.uptoBulkAll l:=by
 induction l with
 | nil=>cases h
 | cons x r ih=>
  simp only[Rows.uptoBulkAll];rcases List.mem_cons.1 h with e|e
  ·subst e;omega
  ·have:=ih e;omega
theorem length_le{H:Type}(l:List (DataW H)):l.length<=Rows.uptoBulkAll l:=by
 induction l with
 | nil=>simp[Rows.uptoBulkAll]
 | cons x r ih=>have:=one_le x;simp only[Rows.uptoBulkAll,List.length_cons];omega
theorem QK{H:Type}{d:DataW H}{B:Nat}(h:Rows.uptoBulk d<=B):CU d B:=by
 rintro elems spare rfl;have:=length_le elems;simp only[Rows.uptoBulk]at h;omega
theorem Un{H:Type}{d:DataW H}{B:Nat}(h:Rows.uptoBulk d<=B):∀elems spare,d=.slice elems spare->∀x∈elems,CU x B:=by
 rintro elems spare rfl x hx;have:=Kx hx;simp only[Rows.uptoBulk]at h;exact QK (by omega)

/-! ### the arguments -/
section
variable {X:Type}{enc:TypeId×Value->X}{W:World}{base:Nat}
theorem Iz:Tryz.prog.cellsOf 3=1:=O
theorem Ky:Tryz.prog.cellsOf 61=2:=O
theorem Uo:Tryz.prog.cellsOf 22=1:=O
theorem Uq:Tryz.prog.cellsOf 36=1:=O
theorem Ur:Tryz.prog.underlying 61=some (.array 2 3):=O

theorem yN{fuel:Nat}{c:List Value}{y:DataW X×List MemPlace}(h:DataW.trod enc Tryz.prog W 0 (λ_=>true) true fuel 3 c=some y):∃a,c=aZ a:=
 let ⟨n,h1,_⟩:=DataW.trod_int Tryz.underlying3 h
 ⟨n,h1⟩
theorem Us{fuel:Nat}{c:List Value}{y:DataW X×List MemPlace}(h:DataW.trod enc Tryz.prog W 0 (λ_=>true) true fuel 61 c=some y):∃a,c=aW a:=by
 obtain⟨xs,m,_,_,hl,hx,hi⟩:=DataW.trod_array Ur h;rw[Ky]at hl;rw[Iz]at hi
 match c,hl with
 | [u,v],_=>
  have h0:=hi 0 (by omega);have h1:=hi 1 (by omega);rw[List.getElem?_eq_getElem (by omega)]at h0 h1;obtain⟨a,ha⟩:=yN h0;obtain⟨b,hb⟩:=yN h1;simp[aZ]at ha hb;exact⟨(a,b),by rw[ha,hb];rfl⟩

theorem FK{t e:TypeId}{v:Value}(ht:Tryz.prog.underlying t=some (.slice e))(h:Cell.okWide Tryz.prog W .any base t v):∀a len cap,v=.slice (some a) len cap->a.spot=Option.none/\∃row cells,W.shape? a.block=some (row,cells):=by
 rintro a len cap rfl;unfold Cell.okWide at h;rw[ht]at h;have h':Cell.ok Tryz.prog W .any base t (.slice (some a) len cap):=h;unfold Cell.ok at h';rw[ht]at h';obtain⟨_,_,_,h2,row,cells,h3,_⟩:=h';exact⟨h2,row,cells,h3⟩

theorem Kz{v:Value}{d:DataW X}{p:List MemPlace}(hv:Value.okWide Tryz.prog W .any base 3 v)(h:DataW.Trod enc Tryz.prog W 0 (λ_=>true) true 3 v d p):∃a:Int,v=.int .i64 a:=by
 obtain⟨f,hf⟩:=h;obtain⟨a,ha⟩:=yN hf;simp only[aZ]at ha;cases v with
 | agg cs=>
  unfold Value.okWide at hv;rw[Tryz.underlying3]at hv;unfold Cell.okWide Cell.ok at hv;simp[Tryz.underlying3]at hv
 | _=>
  have:[_]=[Value.int .i64 a]:=ha;exact⟨a,(List.cons.inj this).1⟩
theorem YF{l:List Value}(h:l.length=2):∃a b,l=[a,b]:=by
 match l,h with
 | [a,b],_=>exact⟨a,b,rfl⟩
theorem Ut{v0 v1 v2 v3:Value}{d0 d1 d2 d3:DataW X}{p0 p1 p2 p3:List MemPlace}(YG:Value.okWide Tryz.prog W .any base 24 v0)(Fv:Value.okWide Tryz.prog W .any base 26 v1)(J4:Value.okWide Tryz.prog W .any base 3 v2)(hv3:Value.okWide Tryz.prog W .any base 3 v3)(h0:DataW.Trod enc Tryz.prog W 0 (λ_=>true) true 24 v0 d0 p0)(h1:DataW.Trod enc Tryz.prog W 0 (λ_=>true) true 26 v1 d1 p1)(h2:DataW.Trod enc Tryz.prog W 0 (λ_=>true) true 3 v2 d2 p2)(h3:DataW.Trod enc Tryz.prog W 0 (λ_=>true) true 3 v3 d3 p3)(m7:Rows.uptoBulkAll [d0,d1,d2,d3]<=1048576) :
  ∃ρ H nx n ev rv,∃es:List (Int×Int),∃r:List (List Int),∃u v:Int,Ro ρ H nx W.heap/\dJ ρ [.agg #[.int .i64 n,ev],rv,.int .i64 u,.int .i64 v] [v0,v1,v2,v3]/\
   bL H nx 2 aW ev es/\er H nx 1 aZ rv r/\cR r:=by
 unfold Value.okWide at YG Fv;rw[Tryz.underlying24]at YG;rw[Tryz.underlying26]at Fv;obtain⟨cs,rfl,afB,ts,Bj,_,oG⟩:=YG;have afC:ts=[3,22]:=by
  have:Tryz.prog.cellTypes Tryz.prog.depth 24=some [3,22]:=O;rw[this]at Bj;exact(Option.some.inj Bj).symm
 subst afC;have acj:cs.size=2:=by rw[afB];kernel_rfl
 obtain⟨f0,hf0⟩:=h0;obtain⟨f1,jP⟩:=h1;obtain⟨xs,m,_,hd0,_,V6,AH⟩:=DataW.trod_struct Tryz.underlying24 hf0;have q0:=AH 0 _ rfl;have q1:=AH 1 _ rfl;have ahS:xs.length=2:=V6;rw[List.getElem?_eq_getElem (by omega)]at q0 q1;obtain⟨cl⟩:=cs;obtain rfl:d0=.agg (xs.map (·.1)):=congrArg Prod.fst hd0;have b1:Rows.uptoBulk d1<=1048576:=by
  have:=Kx (d:=d1) (l:=[.agg (xs.map (·.1)),d1,d2,d3]) (by simp);omega
 obtain⟨c0,c1,rfl⟩:=YF (l:=cl) acj;have q0':DataW.trod enc Tryz.prog W 0 (λ_=>true) true m 3 (List.take (Tryz.prog.cellsOf 3) [c0,c1])=some xs[0]:=q0;have q1':DataW.trod enc Tryz.prog W 0 (λ_=>true) true m 22 (List.take (Tryz.prog.cellsOf 22) (List.drop 1 [c0,c1]))=some xs[1]:=q1;rw[Iz]at q0';rw[Uo]at q1';have q1:DataW.trod enc Tryz.prog W 0 (λ_=>true) true m 22 [c1]=some xs[1]:=q1';have q0:DataW.trod enc Tryz.prog W 0 (λ_=>true) true m 3 [c0]=some xs[0]:=q0';clear q0' q1';obtain⟨n,hn⟩:=yN q0;simp[aZ]at hn;subst hn;have afD:DataW.trod enc Tryz.prog W 0 (λ_=>true) true f1 26 [v1]=some (d1,p1):=by
  have:v1.cells.toList=[v1]:=by
   cases v1<;>first|rfl|(unfold Cell.okWide Cell.ok at Fv;simp[Tryz.underlying26]at Fv)
  rw[this]at jP;exact jP
 have okc:∀a len cap,c1=.slice (some a) len cap->a.spot=Option.none/\∃row cells,W.shape? a.block=some (row,cells):=by
  obtain⟨u,h3,h4⟩:=oG 1 c1 rfl;obtain rfl:u=22:=by simpa using h3.symm
  exact FK Tryz.underlying22 h4
 obtain⟨ρ1,H1,ev,es,e1',afE,_,YH,CC⟩:=yB (encα:=aW) (z:=2) Tryz.underlying22 Ky (by omega) (λ_=>rfl) (λ_=>rfl) (λ_ _ _ h=>Us h) okc q1 (Ro.empty W.heap);obtain⟨ρ2,H2,n2,rv,r,e2',afF,fg,bN,Mx,um,lr,lr'⟩:=CV (B:=1048576) (encα:=aZ) (z:=1) Tryz.underlying26 Tryz.underlying36 Uq Iz (by omega) (λ_=>rfl) (λ_=>rfl) (λ_ _ _ h=>yN h) (FK Tryz.underlying26 Fv) afD (QK b1) (Un b1) afE;obtain⟨u,rfl⟩:=Kz J4 h2;obtain⟨v,rfl⟩:=Kz hv3 h3;exact⟨ρ2,H2,n2,n,ev,rv,es,r,u,v,afF,.cons (.agg (.cons (.sc rfl) (.cons (YH.mono e2') .nil))) (.cons Mx (.cons (.sc rfl) (.cons (.sc rfl) .nil))),(CC.same bN).up fg,um,⟨lr,lr'⟩⟩
end

theorem walk{X:Type}{enc:TypeId×Value->X}{W:World}{base:Nat}{v0 v1 v2 v3:Value}{d0 d1 d2 d3:DataW X}{p0 p1 p2 p3:List MemPlace}(YG:Value.okWide Tryz.prog W .any base 24 v0)(Fv:Value.okWide Tryz.prog W .any base 26 v1)(J4:Value.okWide Tryz.prog W .any base 3 v2)(hv3:Value.okWide Tryz.prog W .any base 3 v3)(h0:DataW.Trod enc Tryz.prog W 0 (λ_=>true) true 24 v0 d0 p0)(h1:DataW.Trod enc Tryz.prog W 0 (λ_=>true) true 26 v1 d1 p1)(h2:DataW.Trod enc Tryz.prog W 0 (λ_=>true) true 3 v2 d2 p2)(h3:DataW.Trod enc Tryz.prog W 0 (λ_=>true) true 3 v3 d3 p3)(m7:Rows.uptoBulkAll [d0,d1,d2,d3]<=1048576) :
  Calls Tryz.prog 3 #[v0,v1,v2,v3] W λe w'=>e=.returned (.bool true)/\Kept W w':=by
 obtain⟨ρ,H,nx,n,ev,rv,es,r,u0,w0,o8,mS,he,hr,um⟩:=Ut YG Fv J4 hv3 h0 h1 h2 h3 m7;obtain⟨m,v,H',nx',fT,rfl⟩:=(IA known (n:=n) (u:=u0) (v:=w0) he hr um).out;refine(((CO Mv m).1 3 _ H nx _ fT).2 ρ [v0,v1,v2,v3] W mS o8.hr).mono λe w' hr=>?_
 obtain⟨u,ρ',g1,g2,g3⟩:=hr;exact⟨by rw[g1,g2.eM rfl],Um o8.ro g3.iw⟩

theorem own:ownKnob Tryz.prog.godebug=Option.none:=O
theorem laid:laidOutB Tryz.prog=true:=O

theorem C9{H:Type}{enc:TypeId×Value->H}{P:Program}{f:Func}{s:ChangeSpec}{apart fresh handsOn:Bool}{W W':World}{args:Array Value}{v:Value}{ds gs:List (DataW H)}{before pa pv:List MemPlace}(hW:DataW.Whole enc P f.params.toList s.vars apart W args.toList ds gs before)(Fi:∀(b:Nat) (sp:Nat->Bool) (hd:Bool),DataW.TrodAll enc P W' b sp hd f.resultTypes.toList (v.resultList f.resultTypes.size) (s.fn H (ds++gs)).results [])(cF:∀sp:Nat->Bool,(∀p∈before,sp p.block=true)->DataW.TrodAll enc P W' 0 sp true f.params.toList args.toList (s.fn H (ds++gs)).args pa)(ack:∀sp:Nat->Bool,(∀p∈before,sp p.block=true)->DataW.TrodVars enc P W' sp s.vars (s.fn H (ds++gs)).vars pv)(hk:Kept W W'):s.post enc P f apart fresh handsOn false W args v W':=by
 have hold:∀p∈before,(λb=>decide (b<W.heap.size)) p.block=true:=λp hp=>by simpa using hW.lt p hp
 exact⟨ds,gs,before,[],pa,pv,hW,Fi _ _ _,cF _ hold,ack _ hold,hk.vX _,λh=>by cases h⟩

/-- what is kept reads the same -/
theorem Uu{W W':World}{p:MemPlace}(h:Kept W W')(hp:p.block<W.heap.size):W.sameAt W' p:=by
 cases p with
 | cell b o=>exact World.cell?_of_block (w:=W) (h.2.2 b hp)
 | map b=>exact h.2.2 b hp

/-! ### the row -/
theorem QL(H:Type)(enc:TypeId×Value->H)(W:World)(base:Nat)(args:Array Value)(ds gs:List (DataW H))(before:List MemPlace)(V7:∀(j:Nat) t v,Tryz.f3.params[j]?=some t->args[j]?=some v->Value.okWide Tryz.prog W .any base t v)(hW:DataW.Whole enc Tryz.prog Tryz.f3.params.toList Rows.insertAllSpec.vars false W args.toList ds gs before)(hk:Rows.uptoSmall H (ds++gs)=true) :
  Calls Tryz.prog 3 args W λe W'=>∃v,e=.returned v/\Rows.insertAllSpec.post enc Tryz.prog Tryz.f3 false true false false W args v W':=by
 have yf:∀(j:Nat) t v,Tryz.f3.params[j]?=some t->args[j]?=some v->Value.okWide Tryz.prog W .any base t v:=V7;have hW':=hW;have cg:=λp hp=>hW.lt p hp
 obtain⟨p,q,hA0,hV,rfl,hfz,Fb⟩:=hW;have hA:DataW.TrodAll enc Tryz.prog W 0 (λ_=>true) true Tryz.f3.params.toList args.toList ds p:=hA0;rw[Tryz.params3]at hA yf;obtain⟨v0,vs0,d0,ds0,p0,q0,cF,rfl,rfl,h0,r0⟩:=trodAll_cons hA;obtain⟨v1,vs1,d1,ds1,p1,q1,rfl,rfl,rfl,h1,r1⟩:=trodAll_cons r0;obtain⟨v2,GZ,d2,ds2,p2,q2,rfl,rfl,rfl,h2,r2⟩:=trodAll_cons r1;obtain⟨v3,vs3,d3,ds3,p3,q3,rfl,rfl,rfl,h3,r3⟩:=trodAll_cons r2;obtain⟨rfl,rfl,rfl⟩:=trodAll_nil r3;obtain rfl:args=#[v0,v1,v2,v3]:=by cases args;simp_all
 obtain⟨rfl,rfl⟩:=trodVars_none hV;have k0:=yf 0 24 v0 rfl rfl;have k1:=yf 1 26 v1 rfl rfl;have k2:=yf 2 3 v2 rfl rfl;have k3:=yf 3 3 v3 rfl rfl;clear hA0 V7;simp only[List.append_nil]at hW' cg hk;have hbk:Rows.uptoBulkAll [d0,d1,d2,d3]<=1048576:=of_decide_eq_true hk;refine(walk k0 k1 k2 k3 h0 h1 h2 h3 hbk).mono λe W' ⟨he,hg⟩=>?_
 subst he;refine⟨_,rfl,C9 (pa:=p0++(p1++(p2++(p3++[])))) (pv:=[]) hW' (λ_ _ _=>(trodAll_cons_mk (shut_bool Tryz.underlying4 _) trodAll_mk0)) (λsp AF=>?_) (λ_ _=>rfl) hg⟩;rw[Tryz.params3];have key:∀x∈p0++(p1++(p2++p3)),W.sameAt W' x:=λx hx=>Uu hg (cg x (by simpa using hx))
 refine trodAll_cons_mk (WideElems.Trod_stays laid O (of_decide_eq_true O) h0 (λx hx=>key x (by simp[hx])) (λx hx=>AF x (by simp[hx])))
  (trodAll_cons_mk (WideElems.Trod_stays laid O (of_decide_eq_true O) h1 (λx hx=>key x (by simp[hx])) (λx hx=>AF x (by simp[hx])))
  (trodAll_cons_mk (WideElems.Trod_stays laid O (of_decide_eq_true O) h2 (λx hx=>key x (by simp[hx])) (λx hx=>AF x (by simp[hx])))
  (trodAll_cons_mk (WideElems.Trod_stays laid O (of_decide_eq_true O) h3 (λx hx=>key x (by simp[hx])) (λx hx=>AF x (by simp[hx]))) trodAll_mk0)))

theorem lifted(os:Os)(started:os.Started)(H:Type)(enc:TypeId×Value->H)(F:Stop.Interp) :
  ReturnsInHanded {} Tryz.checked os 3 .any ((Rows.OpenSpec.upto Rows.insertAllSpec).pre6 enc Tryz.prog Tryz.f3 Rows.insertAllUptoRow.domain false) (((Rows.OpenSpec.upto Rows.insertAllSpec).at F).post enc Tryz.prog Tryz.f3 false true false false):=by
 refine returnsInHanded_of_cond (C:=Tryz.checked) (s:=Rows.OpenSpec.upto Rows.insertAllSpec) (k:=Rows.uptoSmall) rfl own started O Tryz.func3
  (OpenSpec.witness (enc:=enc) (C:=Tryz.checked) (s:=Rows.OpenSpec.upto Rows.insertAllSpec) (k:=Rows.uptoSmall) rfl false ⟨#[],#[.agg #[.int .i64 0,.slice Option.none 0 0],.slice Option.none 0 0,.int .i64 0,.int .i64 0],[]⟩ 8 O O O
   (x:=([.agg [.lit (.int .i64 0),.nil],.nil,.lit (.int .i64 0),.lit (.int .i64 0)],[],[])) O rfl O) ?_
 intro W base args ds gs before yf hW _ hk _;exact QL H enc W base args ds gs before yf hW hk

theorem jc:Rows.insertAllUptoRow.holds Tryz.pinned (Rows.OpenSpec.upto Rows.insertAllSpec):=
 OpenClaim.holds_of_cond 3 Tryz.f3 rfl rfl rfl rfl rfl rfl rfl ⟨rfl,rfl,rfl,rfl,rfl⟩ rfl rfl rfl rfl rfl O Tryz.func3 O
  (of_decide_eq_true O) (by unfold Func.isWrapper;first|(rw[if_pos (by decide +kernel)];kernel_rfl)|(rw[if_neg (by decide +kernel)];exact⟨rfl,rfl⟩))
  (λos started H enc _ F=>lifted os started H enc F)

theorem proved:Rows.InsertAllUptoSaid:=
 jc
#print axioms proved
end Go.Proofs.YthbaplapbfbnoaaGreat.insertAll
