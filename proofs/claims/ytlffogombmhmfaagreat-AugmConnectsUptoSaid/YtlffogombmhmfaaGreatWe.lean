import Derived.Test.YtlffogombmhmfaaGreatWd
/- Walks over the program: part 5. -/

namespace Go.Eng
variable {A:aG} {H H':Heap} {nx nx':Nat} {σ:aP} {L:List Value} {Q:ct}
set_option maxRecDepth 100000
structure Bx (H:Heap) (nx:Nat) (a b c d:List Value):Prop where
 r4:ak H (at_ nx)=some (.cells a)
 r6:ak H (at_ (nx + 1))=some (.cells b)
 r7:ak H (at_ (nx + 1 + 1))=some (.cells c)
 r8:ak H (at_ (nx + 1 + 1 + 1))=some (.cells d)
theorem Bx.of {a b c d:List Value}:Bx (aw (aw (aw (aw H nx a) (nx + 1) b) (nx + 1 + 1) c) (nx + 1 + 1 + 1) d) nx a b c d:=
 ⟨bz (by omega) (bz (by omega) (bz (by omega) aq)),bz (by omega) (bz (by omega) aq),bz (by omega) aq,aq⟩
theorem Bx.same {a b c d:List Value} (h:Bx H nx a b c d) (hs:an H H' nx') (hn:nx + 1 + 1 + 1 + 1≤nx'):Bx H' nx a b c d:=
 ⟨(hs _ (by omega)).trans h.r4,(hs _ (by omega)).trans h.r6,(hs _ (by omega)).trans h.r7,(hs _ (by omega)).trans h.r8⟩
theorem y7 {c:List Int} {m v:Nat} (hl:c.length=m) (hv:v < m):∃x,c[v]?=some x:=⟨_,List.getElem?_eq_getElem (by omega)⟩
theorem bA.edf {nx0:Nat} {v:Value} {es:List Ed} (h:bA H nx0 nx 2 v es.length (es.flatMap a5)) (h0:0 < es.length):BO H nx0 nx v es:=by
 obtain ⟨_,⟨_,e⟩|⟨b,rfl,h1,h2,h3⟩⟩:=h
 ·omega
 ·exact ⟨b,_,rfl,by rw [bK];exact Nat.le_refl _,h1,h2,h3⟩
theorem bA.more {nx0 by_:Nat} {zero:List Value} {s x:Od} {v xv:Value} {l m:List Ed} {K:Value→Heap→Nat→Prop} (hs:ev σ L s=some v) (hx:ev σ L x=some xv) (hg:bA H nx0 nx 2 v l.length (l.flatMap a5)) (eF:nt H 2 xv m.length (m.flatMap a5)) (vS:nx0≤nx) (Ub:by_≤16) (hb:l.length + m.length≤1048576)
  (h:∀v' H' nx',nx≤nx'→bA H' nx0 nx' 2 v' (l++m).length ((l++m).flatMap a5)→an H H' nx0→K v' H' nx'):aH A (.app 2 by_ zero s x false) σ L H nx K:=by
 have h16:(l.length + m.length) * by_≤(l.length + m.length) * 16:=Nat.mul_le_mul_left _ Ub
 refine .C2 hs hx hg eF (by omega) (m8 _) (mR _) vS (by unfold small;omega) (by unfold small;omega) (fun v' H' nx' h1 h2 h3 _=>h v' H' nx' h1 ?_ h3)
 rw [← List.flatMap_append] at h2
 rw [List.length_append]
 exact h2
theorem pS {b:Nat} {c:Nat} {x y:Int} (h:Rd H b [.int .i64 x,.int .i64 y]):nt H 2 (.slice (some ⟨b,0,some 2⟩) 1 c) [(x,y)].length ([(x,y)].flatMap a5):=dT h rfl
theorem a6.off {L:List Value} {op:bE Od} {w d:Nat} {want:Bool} {ag:List bx} (hw:L[w]?=some (.bool (!want))) (CE:a6 A σ L H ag):a6 A σ L H (⟨some (w,want),op,d⟩::ag):=by
 refine ⟨fun T hT X=>?_⟩
 have h1:wanted L (some (w,want))=false:=by
  show wo want (Cd L w)=false
  rw [oO,hw]
  cases want<;>rfl
 show cond (wanted L (some (w,want))) _ (fT A.P T L H ag X)=X
 rw [h1]
 exact CE.reads T hT X
theorem WO.aa1 {L:List Value} {op:bE Od} {g:Nat} {want:Bool} {ag:List bx} {l:List (AO×List bx)} (hg:L[g]?=some (.bool (!want))) (CE:a6 A σ (undef::L) H ag) (h:WO A l σ (undef::L) H nx Q):WO A ((⟨none,some (g,want),op⟩,ag)::l) σ L H nx Q:=
 .guard hg (fun e=>by cases want<;>cases e) (fun _=>⟨CE,h⟩)
set_option maxHeartbeats 1000000 in
theorem Lp (E:fG A) {n:Int} {m v w:Nat} {ev rv:Value} {es:List Ed} {r:List (List Int)} (h0:aQ n es r=0) (fB:n=(m:Int)) (he:bS H nx 2 a5 ev es) (hr:eY H nx 1 bq rv r) (hv:v < m) (hw:w < m) (RK:¬Reach es v w) (dP:es.length < 3072) :
  WF A 68 [.agg #[.int .i64 n,ev],rv,.agg #[.int .i64 (v:Int),.int .i64 (cg (r.getD v []))],.agg #[.int .i64 (w:Int),.int .i64 (cg (r.getD w []))]] H nx fun x H' nx'=>an H H' nx∧nx≤nx'∧∃pR b c us,x=oneOf [.agg #[.int .i64 n,pR],.slice (some ⟨b,0,some 1⟩) r.length c,.int .i64 0]∧r.length≤au c∧BO H' nx nx' pR (es++[((v:Int),(w:Int))])∧dR H' nx nx' b us (uT es.length r v w)∧RD b us pR:=by
 obtain ⟨base,ec,rfl⟩:=he.form
 obtain ⟨rb,rc,rfl⟩:=hr.form
 have cj:=eP h0
 obtain ⟨hm,hl,_⟩:=dU h0
 have zt:=hm.2.1
 have ok:=hX h0
 subst fB
 have zq:r.length=m:=by omega
 refine WF.enter (E.h rfl _ _ _) E.Vz ?_
 generalize pX:cg (r.getD v [])=fv
 generalize L2:cg (r.getD w [])=fw
 have bM:an H (aw (aw (aw (aw H nx [.int .i64 (m:Int),.slice base es.length ec]) (nx + 1) [.int .i64 (v:Int),.int .i64 fv]) (nx + 1 + 1) [.int .i64 (w:Int),.int .i64 fw]) (nx + 1 + 1 + 1) [.int .i64 0,.slice none 0 0]) nx:=(((an.refl.set (Nat.le_refl _)).set (by omega)).set (by omega)).set (by omega)
 have Wg:=Bx.of (H:=H) (nx:=nx) (a:=[.int .i64 (m:Int),.slice base es.length ec]) (b:=[.int .i64 (v:Int),.int .i64 fv]) (c:=[.int .i64 (w:Int),.int .i64 fw]) (d:=[.int .i64 0,.slice none 0 0])
 repeat' (first|((first|refine WO.n rfl ?_|refine WO.k rfl ?_);(first|refine aK ?_|refine jN ?_|refine sE ?_|refine aJ ?_))|with_reducible (first|refine WO.nil ?_|refine WC.aa ?_|refine WC.seq ?_|refine aC ?_))
 refine WO.cn rfl ?_
 refine (E.Ll (n:=(m:Int)) h0 ((he.same bM).up (by omega)) ((hr.same bM).up (by omega)) cj).of ?_
 rintro _ H1 aT ⟨fcv,nf,rfl,iR,nk,hL,a7⟩
 have RM:=Wg.same a7 (by omega)
 have bp:=bM.trans a7 (by omega)
 obtain ⟨r4,r6,r7,r8⟩:=id RM
 obtain ⟨fb,fc,rfl⟩:=hL.form
 repeat' (first|((first|refine WO.n rfl ?_|refine WO.k rfl ?_);(first|refine aK ?_|refine w6 ?_|refine r9 ?_|refine aJ ?_|refine fL ?_|(refine om (fun h=>?_) (fun h=>?_)<;>(try simp only [Int.ofNat_eq_natCast] at h))))|with_reducible (first|refine WO.nil ?_|refine WC.aa ?_|refine WC.seq ?_|refine WC.ret ?_|refine WC.block ?_)|refine WC.aB rfl ?_|refine WC.ax rfl ?_|with_reducible (first|refine aC ?_|refine gM ?_|refine pZ ?_))
 ·omega
 refine WO.cn rfl ?_
 rw [← pX]
 refine (rN E (v:=v) ((hr.same bp).up (by omega)) cj hl (by omega)).of ?_
 rw [pX]
 rintro _ H2 nx2 ⟨bL,eW,rfl⟩
 have RN:=RM.same bL (by omega)
 have df:=bp.trans bL (by omega)
 have G1:=hL.vh (fun b _ hb=>bL b hb) eW
 clear r4 r6 r7 r8
 obtain ⟨r4,r6,r7,r8⟩:=id RN
 repeat' (first|(refine WO.n rfl ?_;(first|refine aK ?_|refine pA ?_|refine aJ ?_))|refine WO.dC rfl ?_)
 refine WO.cn rfl ?_
 rw [← L2]
 refine (rN E (v:=w) ((hr.same df).up (by omega)) cj hl (by omega)).of ?_
 rw [L2]
 rintro _ H3 nx3 ⟨fH,mG,rfl⟩
 have RO:=RN.same fH (by omega)
 have lk:=df.trans fH (by omega)
 have Fa:=G1.vh (fun b _ hb=>fH b hb) mG
 clear r4 r6 r7 r8
 obtain ⟨r4,r6,r7,r8⟩:=id RO
 repeat' (first|((first|refine WO.n rfl ?_|refine WO.k rfl ?_);(first|refine aK ?_|refine dD ?_|refine cM ?_|refine pA ?_|refine r9 ?_|refine kg ?_|refine aJ ?_|refine fL ?_|(refine C9 (fun h=>?_) (fun h=>?_)<;>(try simp only [Int.ofNat_eq_natCast] at h))))|refine WO.dC rfl ?_|with_reducible (first|refine WO.nil ?_|refine WC.aa ?_|refine WC.seq ?_|refine WC.skip ?_|refine WC.ret ?_)|refine WC.aB rfl ?_|refine WC.ax rfl ?_|with_reducible (first|refine aC ?_|refine gM ?_|refine eT ?_|refine pZ ?_))
 ·omega
 refine WO.cn rfl ?_
 refine (E.Wf (n:=(m:Int)) h0 ((he.same lk).up (by omega)) ((hr.same lk).up (by omega)) cj).of ?_
 rintro _ H4 fZ ⟨ofb,ofc,rfl,_,Nx,ho2,_,lU,xl⟩
 have RP:=RO.same lU (by omega)
 have we:=lk.trans lU (by omega)
 have LY:=Fa.vh (fun b _ hb=>lU b hb) xl
 clear r4 r6 r7 r8
 obtain ⟨r4,r6,r7,r8⟩:=id RP
 repeat' (first|((first|refine WO.n rfl ?_|refine WO.k rfl ?_);(first|refine aK ?_|refine w6 ?_|refine aJ ?_))|with_reducible (first|refine WO.nil ?_|refine WC.aa ?_|refine WC.seq ?_|refine aC ?_))
 refine WO.cn rfl ?_
 refine (E.Lj (n:=(m:Int)) hm rfl ((he.same we).up (by omega))).of ?_
 rintro _ H5 xz ⟨pb,pc,c,rfl,Ox,LO,B3,iP,mP,xA,O6⟩
 have S0:=RP.same xA (by omega)
 have Hh:=we.trans xA (by omega)
 have hL5:=LY.vh (fun b _ hb=>xA b hb) O6
 clear r4 r6 r7 r8
 obtain ⟨r4,r6,r7,r8⟩:=id S0
 have hb5:nx + 1 + 1 + 1 + 1≤xz:=by omega
 clear bM Wg a7 RM bp bL RN df fH RO lk lU RP we hL G1 Fa LY iR nk eW mG Nx ho2 xl O6 LO xA
 obtain ⟨x,hx⟩:=y7 mP.len hv
 obtain ⟨y,hy⟩:=y7 mP.len hw
 have oR:x≠y:=mP.apart hx hy RK
 have AQ:=ay.cell hx
 have XA:=ay.cell hy
 have XC:ak H5 (at_ pb)=some (.cells (c.map (.int .i64))):=iP
 repeat' (first|((first|refine WO.n rfl ?_|refine WO.k rfl ?_);(first|refine aK ?_|refine w6 ?_))|with_reducible (first|refine WO.nil ?_|refine WC.aa ?_|refine WC.seq ?_|refine aC ?_))
 refine WO.cn rfl ?_
 refine (y6 E hL5.E7 (by have:=ok.Rh;omega) (fun k=>by have:=ok.row k;omega)).of ?_
 rintro _ H5' abZ ⟨e1,e2,fk,rfl⟩
 rw [e1,e2]
 repeat' (first|((first|refine WO.n rfl ?_|refine WO.k rfl ?_);(first|refine aK ?_|refine dD ?_|refine aJ ?_|refine bu ?_|refine aZ ?_|(refine zl (fun h=>?_) (fun h=>?_)<;>(try simp only [Int.ofNat_eq_natCast] at h))))|refine WO.dC rfl ?_|refine WO.nI rfl ?_|with_reducible (first|refine WO.nil ?_|refine WC.drawn ?_|refine WC.seq ?_|refine aC ?_))
 ·exact absurd (by assumption) oR
 refine WO.aa1 rfl (a6.off rfl .nil) ?_
 repeat' (first|((first|refine WO.n rfl ?_|refine WO.k rfl ?_);(first|refine dD ?_|refine r9 ?_|refine kg ?_|refine aJ ?_))|refine WO.nI rfl ?_|with_reducible (first|refine WO.nil ?_|refine WC.drawn ?_|refine WC.seq ?_|refine WC.skip ?_)|refine WC.ax rfl ?_|with_reducible (first|refine aC ?_|refine kf ?_))
 have he5:=(he.same Hh).up (show nx≤xz by omega)
 refine WO.na rfl ?_
 refine bA.more (l:=[]) (m:=es) rfl rfl .nil (he5.src (fun _=>rfl)) (Nat.le_refl _) (by omega) (by simp only [List.length_nil];omega) ?_
 intro v6 H6 XD XE hg6 NF
 have RQ:=S0.same NF (by omega)
 have Hi:=Hh.trans NF (by omega)
 clear r4 r6 r7 r8
 obtain ⟨r4,r6,r7,r8⟩:=id RQ
 have q4:=Rd.own r4
 have q6:=Rd.own r6
 have q7:=Rd.own r7
 rw [List.nil_append] at hg6
 refine ⟨a6.look rfl q7 rfl rfl (by simp [jK,ey]) (a6.look rfl q6 rfl rfl (by simp [jK,ey]) (a6.look rfl q4 rfl rfl (by simp [jK,ey]) .nil)),?_⟩
 repeat' (refine WO.n rfl ?_;refine gx ?_)
 refine WO.na rfl ?_
 have Wh:=hg6.same (an.refl.set (cs:=[.int .i64 (v:Int),.int .i64 (w:Int)]) (Nat.le_refl XD)) (Nat.le_succ XD)
 refine bA.more (l:=es) (m:=[((v:Int),(w:Int))]) rfl rfl Wh (pS Rd.self) (by omega) (by omega) (by show es.length + 1≤_;omega) ?_
 intro v7 H7 kj Ta hg7 Lq
 have RR:an H6 H7 xz:=(an.refl.set (by omega)).trans Lq (Nat.le_refl _)
 have RS:=RQ.same RR (by omega)
 have Hj:=Hi.trans RR (by omega)
 have ed7:=hg7.edf (by rw [List.length_append];show 0 < _ + 1;omega)
 clear r4 r6 r7 r8 q4 q6 q7
 obtain ⟨r4,r6,r7,r8⟩:=id RS
 have q4:=Rd.own r4
 refine ⟨a6.look rfl q4 rfl rfl (by simp [jK,ey]) .nil,?_⟩
 obtain ⟨eb,XF,rfl,hec,Wi,RT,NG⟩:=id ed7
 repeat' (first|((first|refine WO.n rfl ?_|refine WO.k rfl ?_);(first|refine aK ?_|refine dD ?_|refine cM ?_|refine sE ?_|refine r9 ?_|refine aJ ?_|refine fL ?_|refine qL ?_))|with_reducible (first|refine WO.nil ?_|refine WC.aa ?_|refine WC.seq ?_|refine aC ?_|refine kf ?_))
 have y8:an H7 (aw (aw H7 kj [.int .i64 0,.slice none 0 0]) kj [.int .i64 (m:Int),.slice (some ⟨eb,0,some 2⟩) (es++[((v:Int),(w:Int))]).length XF]) kj:=(an.refl.set (Nat.le_refl _)).set (Nat.le_refl _)
 have DT:=Hj.trans y8 (by omega)
 refine WO.cn rfl ?_
 refine (BM E ((hr.same DT).up (by omega)) cj).of ?_
 rintro _ H9 Hk ⟨O7,hn9,cb,cc,us,rfl,ss,hu⟩
 have Tb:=(RS.same y8 (by omega)).same O7 (by omega)
 have NH:=DT.trans O7 (by omega)
 have n9:ak H9 (at_ kj)=some (.cells [.int .i64 (m:Int),.slice (some ⟨eb,0,some 2⟩) (es++[((v:Int),(w:Int))]).length XF]):=(O7 kj (by omega)).trans aq
 have ed9:ak H9 (at_ eb)=some (.cells ((es++[((v:Int),(w:Int))]).flatMap a5)):=(O7 eb (by omega)).trans ((y8 eb RT).trans NG)
 clear r4 r6 r7 r8 q4
 obtain ⟨r4,r6,r7,r8⟩:=id Tb
 have cy:v≠w:=fun e=>RK (by rw [e];exact .here)
 have hb7:xz≤kj:=by omega
 clear NF RQ Hi hg6 Wh Lq RR RS Hj hg7 ed7 NG y8 DT O7 iP mP hx hy AQ XA XC he5 hL5 ok S0 Hh XE Ta B3
 repeat' (first|((first|refine WO.n rfl ?_|refine WO.k rfl ?_);(first|refine aK ?_|refine aJ ?_))|with_reducible (first|refine WO.nil ?_|refine WC.aa ?_|refine WC.seq ?_|refine aC ?_))
 refine WO.k rfl ?_
 refine aH.of (Act.Qd E.q57 rfl rfl) ?_
 rw [decide_eq_false (fun e=>cy (by
  have:=congrArg Prod.fst e
  simp only at this
  omega))]
 repeat' (first|(refine WO.n rfl ?_;(first|refine aJ ?_|refine gx ?_))|with_reducible (first|refine WO.nil ?_|refine WC.aa ?_|refine WC.seq ?_)|refine WC.ax rfl ?_)
 have hub:=hu.h1
 have aa2:=hu.h2
 have RU:an H9 (aw H9 Hk [.int .i64 ((2 * es.length:Nat):Int)]) Hk:=an.refl.set (Nat.le_refl _)
 refine WO.cn rfl ?_
 rw [← pX]
 refine (BP E (v:=v) (h:=((2 * es.length:Nat):Int)) (hu.same RU (Nat.le_succ _)) cj ss (by omega) (Nat.lt_succ_self _) aq (hu.off (ev:=.slice (some ⟨Hk,0,some 1⟩) 1 3) (fun d hd=>by cases hd;exact .inr (Nat.le_refl _)) _ rfl).2 (by omega)).of ?_
 rw [pX]
 rintro _ NI Hl ⟨BQ,aa3,O8,mJ⟩
 have lL:an H9 NI (kj + 1):=(RU.low (by omega)).trans BQ (Nat.le_refl _)
 have Lr:=Tb.same lL (by omega)
 have O9:=NH.trans lL (by omega)
 have n10:=(lL kj (by omega)).trans n9
 have Wj:=(lL eb (by omega)).trans ed9
 clear r4 r6 r7 r8 RU BQ Tb NH n9 ed9 hu lL
 obtain ⟨r4,r6,r7,r8⟩:=id Lr
 have Wk:(gJ r v ((2 * es.length:Nat):Int)).getD w []=r.getD w []:=by rw [lp (by omega),if_neg (fun e=>cy e.symm)]
 have sq:=dx r v ((2 * es.length:Nat):Int)
 have Wl:b8 (gJ r v ((2 * es.length:Nat):Int)):=by
  refine ⟨by omega,fun l lD=>?_⟩
  obtain ⟨i,hi,rfl⟩:=List.getElem_of_mem lD
  have h1:=lp (r:=r) (v:=v) (u:=i) (h:=((2 * es.length:Nat):Int)) (by omega)
  rw [List.getD_eq_getElem?_getD,List.getElem?_eq_getElem hi] at h1
  simp only [Option.getD_some] at h1
  rw [h1]
  have h2:=lx h0 i
  have h3:=lx h0 v
  split
  ·rw [BK];omega
  ·omega
 repeat' (first|(refine WO.n rfl ?_;(first|refine aJ ?_|refine gx ?_|refine bO ?_))|with_reducible (first|refine WO.nil ?_|refine WC.aa ?_|refine aC ?_))
 have Ls:an NI (aw NI Hl [.int .i64 ((2 * es.length + 1:Nat):Int)]) Hl:=an.refl.set (Nat.le_refl _)
 have qi:=BP E (v:=w) (c:=cc) (hc':=2 * 1 + 1) (h:=((2 * es.length + 1:Nat):Int)) (mJ.same Ls (Nat.le_succ _)) Wl (by rw [sq];exact ss) (by omega) (Nat.lt_succ_self _) aq (mJ.off (ev:=.slice (some ⟨Hl,0,some 1⟩) 1 3) (fun d hd=>by cases hd;exact .inr (Nat.le_refl _)) _ rfl).2 (by omega)
 rw [Wk,sq,L2] at qi
 refine WO.cn rfl ?_
 refine qi.of ?_
 rintro _ H11 aa4 ⟨Wm,ab0,Tc,HW⟩
 have uZ:an NI H11 (kj + 1):=(Ls.low (by omega)).trans Wm (Nat.le_refl _)
 have NJ:=Lr.same uZ (by omega)
 have Lt:=O9.trans uZ (by omega)
 have n11:=(uZ kj (by omega)).trans n10
 have Wn:=(uZ eb (by omega)).trans Wj
 clear r4 r6 r7 r8 Ls Wm uZ Lr O9 n10 Wj mJ qi Wk Wl
 obtain ⟨r4,r6,r7,r8⟩:=id NJ
 have XG:=Fl (v:=v) (w:=w) h0 (by omega) (by omega) dP
 have si:=HW.E7 (c:=cc) (by rw [dx,sq];exact ss)
 rw [dx,sq] at si
 have xk:bS H11 aa4 2 a5 (.slice (some ⟨eb,0,some 2⟩) (es++[((v:Int),(w:Int))]).length XF) (es++[((v:Int),(w:Int))]):=.pre (rest:=[]) (.inl (by rw [List.append_nil];exact Wn)) (by omega) hec (fun _=>rfl)
 repeat' (first|(refine WO.n rfl ?_;refine aJ ?_)|with_reducible (first|refine WO.nil ?_|refine WC.aa ?_|refine WC.seq ?_|refine aC ?_))
 have nj:=uX E XG xk si (eP XG)
 refine WO.cn rfl ?_
 refine nj.of ?_
 rintro _ H12 aa5 ⟨mO,Wo,b3,c3,us3,rfl,sQ,XH⟩
 rw [dx,sq] at sQ
 have RV:=NJ.same mO (by omega)
 have Wp:=Lt.trans mO (by omega)
 have n12:=(mO kj (by omega)).trans n11
 have aa6:=(mO eb (by omega)).trans Wn
 clear r4 r6 r7 r8
 obtain ⟨r4,r6,r7,r8⟩:=id RV
 repeat' (first|((first|refine WO.n rfl ?_|refine WO.k rfl ?_);(first|refine aK ?_|refine w6 ?_|refine aJ ?_|refine fL ?_))|with_reducible (first|refine WO.nil ?_|refine WC.aa ?_|refine WC.seq ?_|refine WC.ret ?_|refine aC ?_))
 refine ji rfl aq rfl rfl rfl ⟨Wp.set (by omega),by omega,_,b3,c3,us3,by rw [dx,sq];rfl,sQ,⟨eb,XF,rfl,hec,by omega,by omega,?_⟩,(XH.frame (fun d h1 h2=>by rw [ai,if_neg (by omega)]) (Nat.le_refl _)).low (by omega),XH.off (fun d hd=>by cases hd;exact .inl (by omega))⟩
 rw [ai,if_neg (by omega)]
 exact aa6
end Go.Eng

namespace Go.Eng
variable {A:aG} {H H':Heap} {nx nx':Nat} {σ:aP} {L:List Value} {Q:ct}
set_option maxRecDepth 100000
theorem DU (E:fG A) {n:Int} {v:Nat} {ev rv:Value} {r:List (List Int)} (hr:eY H nx 1 bq rv r) (cj:b8 r) (hl:(r.length:Int)=n) (hv:v < r.length) :
  WF A 97 [.agg #[.int .i64 n,ev],rv,.agg #[.int .i64 (v:Int),.int .i64 (cg (r.getD v []))]] H nx fun x H' nx'=>an H H' nx∧nx≤nx'∧x=.int .i64 0:=by
 obtain ⟨rb,rc,rfl⟩:=hr.form
 have zq:=cj.1
 have j3:r.getD v []=r[v]:=by rw [List.getD_eq_getElem?_getD,List.getElem?_eq_getElem hv];rfl
 have y4:=cj.row v
 refine WF.enter (E.h rfl _ _ _) E.Kw ?_
 obtain ⟨bb,bo,uA,ib,ic,rfl,je,jJ,bC,hi⟩:=hr.at hv
 rw [← j3] at bC hi
 have bM:an H (aw (aw H nx [.int .i64 n,ev]) (nx + 1) [.int .i64 (v:Int),.int .i64 (cg (r.getD v []))]) nx:=(an.refl.set (Nat.le_refl _)).set (by omega)
 have RJ:=bM.rd je jJ
 have HN:=(hi.same bM).up (show nx≤nx + 1 + 1 by omega)
 generalize hg:r.getD v []=l at *
 repeat' (first|((first|refine WO.n rfl ?_|refine WO.k rfl ?_);(first|refine aK ?_|refine dD ?_|refine cM ?_|refine jN ?_|refine kg ?_|refine aJ ?_|refine bu ?_|refine aZ ?_|(refine ei (fun h=>?_) (fun h=>?_)<;>(try simp only [Int.ofNat_eq_natCast] at h))|(refine C9 (fun h=>?_) (fun h=>?_)<;>(try simp only [Int.ofNat_eq_natCast] at h))|(refine zl (fun h=>?_) (fun h=>?_)<;>(try simp only [Int.ofNat_eq_natCast] at h))))|refine WO.dC rfl ?_|refine WO.nI rfl ?_|with_reducible (first|refine WO.nil ?_|refine WC.aa ?_|refine WC.seq ?_|refine WC.skip ?_|refine WC.ret ?_|refine WC.block ?_)|refine WC.aB rfl ?_|refine WC.ax rfl ?_|with_reducible (first|refine aC ?_|refine gM ?_))
 all_goals try (exfalso;omega)
 ·exact az (vs:=[_]) rfl ⟨bM,by omega,rfl⟩
 ·have h0:l=[]:=List.eq_nil_of_length_eq_zero (by omega)
  exfalso
  rw [h0] at h
  exact h rfl
 ·have cy:l≠[]:=fun e=>by subst e;simp at *
  obtain ⟨x,t,rfl⟩:=List.exists_cons_of_ne_nil cy
  refine WC.loop (α:=Unit) (fun _=>[(S1,.slice (some ⟨bb,bo,some 1⟩) r.length rc),(S5,.pointer (some ⟨nx + 1,0,none⟩)),(S7,.int .i64 0)]) (fun _ H' nx'=>H'=aw (aw H nx [.int .i64 n,ev]) (nx + 1) [.int .i64 (v:Int),.int .i64 (cg (x::t))]∧nx'=nx + 1 + 1) (fun _=>0) ?_ () aW ⟨rfl,rfl⟩
  rintro _ H1 aT ⟨e1,e2⟩
  obtain ⟨lb,lo,lcs,e3,_,_,_,RW,LP⟩:=HN.at (by simp)
  have q0:=ft (v:=.int .i64 x) (LP 0 x rfl)
  subst e3
  have eO:Rd H1 bb uA:=by rw [e1];exact RJ
  have Wq:Rd H1 lb lcs:=by rw [e1];exact RW
  have dB:Rd H1 (nx + 1) [.int .i64 (v:Int),.int .i64 x]:=by rw [e1];exact Rd.self
  have qo:0 < (x::t).length:=by simp
  have aa7:=bC
  repeat' (first|((first|refine WO.n rfl ?_|refine WO.k rfl ?_);(first|refine aK ?_|refine dD ?_|refine cM ?_|refine aJ ?_|refine bu ?_|refine aZ ?_|(refine ei (fun h=>?_) (fun h=>?_)<;>(try simp only [Int.ofNat_eq_natCast] at h))|(refine zl (fun h=>?_) (fun h=>?_)<;>(try simp only [Int.ofNat_eq_natCast] at h))|refine Da ?_))|with_reducible (first|refine WO.nil ?_|refine WC.aa ?_|refine WC.drawn ?_|refine WC.seq ?_|refine WC.skip ?_|refine WC.ret ?_|refine WC.exit ?_|refine WC.block ?_)|refine WC.aB rfl ?_|refine WC.ax rfl ?_|with_reducible (first|refine aC ?_|refine dQ ?_|refine gM ?_|refine eT ?_|refine eh ?_|refine pZ ?_|refine kf ?_))
  ·exact az (vs:=[_]) rfl ⟨by rw [e1];exact bM,by omega,rfl⟩
  ·exact absurd trivial h
  ·exfalso;omega
def Pb (x a:Int) (t:List Int) (k:Nat):List Int:=match k with
 | 0=>[]
 | k + 1=>x::a::t.take k
theorem xB (E:fG A) {lv hv:Value} {l:List Int} {a:Int} (hl:bS H nx 1 bq lv l) (hm:l.length≤1048576) (SH:l.Nodup) (hx:bS H nx 1 bq hv [a]) :
  WF A 74 [lv,.int .i64 (cg l),hv] H nx fun v H' nx'=>an H H' nx∧nx≤nx'∧GN H' nx nx' v (fm l a):=by
 obtain ⟨lb,lc,rfl⟩:=hl.form
 refine WF.enter (E.h rfl _ _ _) E.OO ?_
 repeat' (first|((first|refine WO.n rfl ?_|refine WO.k rfl ?_);(first|refine aK ?_|refine cM ?_|(refine zl (fun h=>?_) (fun h=>?_)<;>(try simp only [Int.ofNat_eq_natCast] at h))))|with_reducible (first|refine WO.nil ?_|refine WC.aa ?_|refine WC.seq ?_|refine WC.skip ?_|refine WC.block ?_)|refine WC.aB rfl ?_|refine WC.ax rfl ?_|with_reducible refine aC ?_)
 ·have h0:l=[]:=List.eq_nil_of_length_eq_zero (by omega)
  subst h0
  refine WO.n rfl ?_
  refine aH.more (nx0:=nx) rfl rfl .nil hx (Nat.le_refl _) (by simp) (fun v4 H4 fZ xl g4 lU _=>?_)
  repeat' (first|(refine WO.k rfl ?_;refine aK ?_)|with_reducible (first|refine WO.nil ?_|refine WC.ret ?_|refine aC ?_|refine gM ?_))
  exact az (vs:=[_]) rfl ⟨lU,by omega,g4⟩
 ·have cy:l≠[]:=fun e=>by subst e;simp at *
  obtain ⟨x,t,rfl⟩:=List.exists_cons_of_ne_nil cy
  have SF:=(List.nodup_cons.1 SH).1
  refine WC.loop (α:=Nat×Value) (fun k=>[([],.slice lb (x::t).length lc),(S1,.int .i64 x),(S2,hv),(S7,k.2),(S8,.int .i64 ((k.1:Nat):Int))])
   (fun k H' nx'=>k.1≤(x::t).length∧nx≤nx'∧an H H' nx∧GN H' nx nx' k.2 (Pb x a t k.1)) (fun k=>(x::t).length - k.1)
   ?_ (0,.slice none 0 0) aW ⟨Nat.zero_le _,Nat.le_refl _,.refl,.nil⟩
  rintro ⟨k,vk⟩ H1 aT ⟨hk,cD,a7,g1⟩
  simp only at hk g1 ⊢
  repeat' (first|((first|refine WO.n rfl ?_|refine WO.k rfl ?_);(first|refine aK ?_|refine cM ?_|(refine ei (fun h=>?_) (fun h=>?_)<;>(try simp only [Int.ofNat_eq_natCast] at h))))|with_reducible (first|refine WO.nil ?_|refine WC.aa ?_|refine WC.seq ?_|refine WC.skip ?_|refine WC.ret ?_|refine WC.exit ?_|refine WC.block ?_)|refine WC.aB rfl ?_|refine WC.ax rfl ?_|with_reducible (first|refine aC ?_|refine dQ ?_|refine eh ?_))
  ·have cI:k < (x::t).length:=by omega
   obtain ⟨bb,bo,uA,rfl,je,_,_,Wr,uB⟩:=hl.at (by simp)
   have Dq:=a7.rd je Wr
   have y5:=List.getElem?_eq_getElem cI
   have q1:=ft (v:=.int .i64 (x::t)[k]) (uB k _ y5)
   generalize (x::t)[k]=y at y5 q1
   have kI:(Pb x a t k).length≤1048580:=by
    cases k with
    | zero=>exact Nat.zero_le _
    | succ k=>show (t.take k).length + 1 + 1≤_;rw [List.length_take];simp only [List.length_cons] at hm;omega
   obtain ⟨va,vc,rfl⟩:=g1.form
   repeat' (refine WO.n rfl ?_;(first|refine bu ?_|refine aZ ?_|refine gx ?_))
   refine WO.n rfl ?_
   refine aH.more (m:=[y]) rfl rfl (g1.frame (H':=aw H1 aT [.int .i64 y]) (nx':=aT + 1) (fun d _ h2=>by rw [ai,if_neg (by omega)]) (Nat.le_succ _)) (.pre (xs:=[y]) (b:=aT) (c:=2 * 1 + 1) (rest:=[]) (.inl aq) (by omega) (by show 1≤1;omega) (fun _=>rfl)) (by omega) (by simp only [List.length_cons,List.length_nil];omega) (fun v4 H4 fZ xl g4 lU _=>?_)
   have qX:an H H4 nx:=(a7.set cD).trans lU (Nat.le_refl _)
   have ab1:=qX.rd je Wr
   obtain ⟨v4a,v4c,rfl⟩:=g4.form
   repeat' (first|((first|refine WO.n rfl ?_|refine WO.k rfl ?_);(first|refine aK ?_|refine bu ?_|refine aZ ?_|(refine zl (fun h=>?_) (fun h=>?_)<;>(try simp only [Int.ofNat_eq_natCast] at h))|refine bO ?_))|with_reducible (first|refine WO.nil ?_|refine WC.aa ?_|refine WC.seq ?_|refine WC.skip ?_)|refine WC.aB rfl ?_|refine WC.ax rfl ?_|with_reducible (first|refine aC ?_|refine eT ?_))
   ·have XI:y=x:=by assumption
    have hk0:k=0:=by
     rcases Nat.eq_zero_or_pos k with h0|h0
     ·exact h0
     ·exfalso
      obtain ⟨j,rfl⟩:=Nat.exists_eq_succ_of_ne_zero (by omega:k≠0)
      rw [XI] at y5
      exact SF (List.mem_of_getElem? (by simpa using y5))
    subst hk0
    subst XI
    refine WO.n rfl ?_
    refine aH.more rfl rfl g4 ((hx.same qX).up (by omega)) (by omega) (by simp [Pb]) (fun v5 H5 xz O6 g5 xA _=>?_)
    obtain ⟨v5a,v5c,rfl⟩:=g5.form
    repeat' (first|((first|refine WO.n rfl ?_|refine WO.k rfl ?_);(first|refine aK ?_|refine bO ?_))|with_reducible (first|refine WO.nil ?_|refine WC.aa ?_|refine aC ?_|refine eT ?_))
    refine ⟨(0 + 1,_),by show (y::t).length - (0 + 1) < (y::t).length - 0;omega,aW,by show 0 + 1≤_;omega,by omega,qX.trans xA (Nat.le_refl _),g5⟩
   ·have XI:¬y=x:=by assumption
    obtain ⟨j,rfl⟩:∃j,k=j + 1:=by
     rcases Nat.eq_zero_or_pos k with h0|h0
     ·subst h0
      exfalso
      simp at y5
      exact XI y5.symm
     ·exact ⟨k - 1,by omega⟩
    have hu:Pb x a t (j + 1)++[y]=Pb x a t (j + 1 + 1):=by
     have L4:t[j]?=some y:=by simpa using y5
     obtain ⟨hj,rfl⟩:=List.getElem?_eq_some_iff.1 L4
     show x::a::t.take j++[t[j]]=x::a::t.take (j + 1)
     rw [List.take_succ_eq_append_getElem hj];rfl
    refine ⟨(j + 1 + 1,.slice v4a (Pb x a t (j + 1)++[y]).length v4c),by show (x::t).length - (j + 1 + 1) < (x::t).length - (j + 1);omega,aW,by show j + 1 + 1≤_;omega,by omega,qX,by show GN _ _ _ _ (Pb x a t (j + 1 + 1));rw [← hu];exact g4⟩
  ·have cI:k=(x::t).length:=by omega
   subst cI
   refine az (vs:=[_]) rfl ⟨a7,by omega,?_⟩
   have:Pb x a t (x::t).length=fm (x::t) a:=by
    show x::a::t.take t.length=_
    rw [List.take_length];rfl
   rw [this] at g1
   exact g1
theorem pT (E:fG A) {v:Nat} {rv:Value} {r:List (List Int)} (hr:eY H nx 1 bq rv r) (cj:b8 r) (hv:v < r.length) :
  WF A 38 [rv,.int .i64 (v:Int)] H nx fun x H' nx'=>an H H' nx∧nx≤nx'∧x=.agg #[.int .i64 (v:Int),.int .i64 (cg (r.getD v []))]:=by
 obtain ⟨rb,rc,rfl⟩:=hr.form
 have zq:=cj.1
 have j3:r.getD v []=r[v]:=by rw [List.getD_eq_getElem?_getD,List.getElem?_eq_getElem hv];rfl
 have y4:=cj.row v
 refine WF.enter (E.h rfl _ _ _) E.Bm ?_
 obtain ⟨bb,bo,uA,ib,ic,rfl,je,jJ,bC,hi⟩:=hr.at hv
 rw [← j3] at bC hi
 have bM:an H (aw H nx [.int .i64 0,.int .i64 0]) nx:=an.refl.set (Nat.le_refl _)
 have RJ:=bM.rd je jJ
 generalize hg:r.getD v []=l at *
 repeat' (first|((first|refine WO.n rfl ?_|refine WO.k rfl ?_);(first|refine cM ?_|refine sE ?_|refine r9 ?_|refine bu ?_|refine aZ ?_|refine fL ?_|(refine zl (fun h=>?_) (fun h=>?_)<;>(try simp only [Int.ofNat_eq_natCast] at h))))|with_reducible (first|refine WO.nil ?_|refine WC.aa ?_|refine WC.seq ?_|refine WC.skip ?_|refine WC.ret ?_)|refine WC.aB rfl ?_|refine WC.ax rfl ?_|with_reducible (first|refine aC ?_|refine gM ?_))
 ·have h0:l=[]:=List.eq_nil_of_length_eq_zero (by omega)
  subst h0
  refine iz rfl aq rfl ⟨bM.set (Nat.le_refl _),by omega,rfl⟩
 ·have cy:l≠[]:=fun e=>by subst e;simp at *
  obtain ⟨x,t,rfl⟩:=List.exists_cons_of_ne_nil cy
  obtain ⟨lb,lo,lcs,rfl,XJ,_,_,RW,LP⟩:=hi.at (by simp)
  have q0:=ft (v:=.int .i64 x) (LP 0 x rfl)
  have ab2:=bM.rd XJ RW
  have qo:0 < (x::t).length:=by simp
  repeat' (first|(refine WO.n rfl ?_;(first|refine r9 ?_|refine bu ?_|refine aZ ?_|refine fL ?_))|with_reducible (first|refine WO.nil ?_|refine WC.ret ?_|refine aC ?_))
  refine iz rfl aq rfl ⟨bM.set (Nat.le_refl _),by omega,rfl⟩
theorem Lu {r:List (List Int)} {v k:Nat} (hk:k < gN r v):(r.getD v [])[k]?=some (iX r v k):=by
 have iE:k < (r.getD v []).length:=hk
 unfold iX
 rw [List.getD_eq_getElem?_getD (l:=r.getD v []),List.getElem?_eq_getElem iE];rfl
theorem u0 (E:fG A) {n:Int} {m v:Nat} {ev rv:Value} {es:List Ed} {r:List (List Int)} (h0:aQ n es r=0) (fB:n=(m:Int)) (he:bS H nx 2 a5 ev es) (hr:eY H nx 1 bq rv r) (hv:v < m) :
  WF A 73 [.agg #[.int .i64 n,ev],rv,.agg #[.int .i64 (v:Int),.int .i64 (cg (r.getD v []))]] H nx fun x H' nx'=>an H H' nx∧nx≤nx'∧∃q:Int,x=oneOf [.int .i64 q,.int .i64 0]:=by
 obtain ⟨base,ec,rfl⟩:=he.form
 obtain ⟨rb,rc,rfl⟩:=hr.form
 have cj:=eP h0
 obtain ⟨hm,hl,_⟩:=dU h0
 have g:=iy h0
 obtain ⟨m0,m1,m2,_⟩:=id hm
 have ok:=hX h0
 subst fB
 have zq:r.length=m:=by omega
 have nM:v < r.length:=by omega
 have j3:r.getD v []=r[v]:=by rw [List.getD_eq_getElem?_getD,List.getElem?_eq_getElem nM];rfl
 have y4:=cj.row v
 refine WF.enter (E.h rfl _ _ _) E.Kv ?_
 obtain ⟨bb,bo,uA,ib,ic,rfl,je,jJ,bC,hi⟩:=hr.at nM
 rw [← j3] at bC hi
 generalize pX:cg (r.getD v [])=fv
 have bM:an H (aw (aw H nx [.int .i64 (m:Int),.slice base es.length ec]) (nx + 1) [.int .i64 (v:Int),.int .i64 fv]) nx:=(an.refl.set (Nat.le_refl _)).set (by omega)
 have b3:Rd (aw (aw H nx [.int .i64 (m:Int),.slice base es.length ec]) (nx + 1) [.int .i64 (v:Int),.int .i64 fv]) nx [.int .i64 (m:Int),.slice base es.length ec]:=Rd.skip (by omega) Rd.self
 have b5:Rd (aw (aw H nx [.int .i64 (m:Int),.slice base es.length ec]) (nx + 1) [.int .i64 (v:Int),.int .i64 fv]) (nx + 1) [.int .i64 (v:Int),.int .i64 fv]:=Rd.self
 repeat' (first|((first|refine WO.n rfl ?_|refine WO.k rfl ?_);(first|refine aK ?_|refine jN ?_|refine aJ ?_))|with_reducible (first|refine WO.nil ?_|refine WC.aa ?_|refine WC.seq ?_|refine aC ?_))
 refine WO.cn rfl ?_
 have qi:=DU E (n:=(m:Int)) (ev:=.slice base es.length ec) (v:=v) ((hr.same bM).up (show nx≤nx + 1 + 1 by omega)) cj hl nM
 rw [pX] at qi
 refine qi.of ?_
 rintro _ H1 aT ⟨a7,cD,rfl⟩
 have c3:=a7.rd (by omega) b3
 have c5:=a7.rd (by omega) b5
 have bp:=bM.trans a7 (by omega)
 have eO:=bp.rd je jJ
 repeat' (first|((first|refine WO.n rfl ?_|refine WO.k rfl ?_);(first|refine aK ?_|refine dD ?_|refine cM ?_|refine aJ ?_|refine bu ?_|refine aZ ?_|(refine ei (fun h=>?_) (fun h=>?_)<;>(try simp only [Int.ofNat_eq_natCast] at h))|(refine LQ (fun h=>?_) (fun h=>?_)<;>(try simp only [Int.ofNat_eq_natCast] at h))|refine Bc ?_|refine Da ?_))|with_reducible (first|refine WO.nil ?_|refine WC.aa ?_|refine WC.drawn ?_|refine WC.seq ?_|refine WC.skip ?_|refine WC.ret ?_)|refine WC.aB rfl ?_|refine WC.ax rfl ?_|with_reducible (first|refine aC ?_|refine gM ?_))
 ·omega
 ·
  have qo:0 < (r.getD v []).length:=by omega
  obtain ⟨lb,lo,lcs,rfl,XJ,_,_,RW,LP⟩:=hi.at (fun e=>by rw [e] at qo;simp at qo)
  have A6:=Nat.mod_lt (0 + 1) qo
  have y5:=Lu (r:=r) (v:=v) (k:=(0 + 1) % (r.getD v []).length) A6
  obtain ⟨g1,g2,_⟩:=g.ok v ((0 + 1) % (r.getD v []).length) nM A6
  obtain ⟨q,hq⟩:=Int.eq_ofNat_of_zero_le g1
  rw [hq] at y5 g2
  have q1:=ft (v:=.int .i64 (q:Int)) (LP _ _ y5)
  have Wq:=bp.rd XJ RW
  repeat' (refine WO.n rfl ?_;(first|refine bu ?_|refine aZ ?_))
  refine WO.ca rfl ?_
  refine (E.rof (n:=(m:Int)) h0 ((he.same bp).up (by omega)) ((hr.same bp).up (by omega)) cj).of ?_
  rintro _ H2 nx2 ⟨ob,oc,rfl,JJ,Nx,ho2,hof,bL,eW⟩
  have d5:=bL.rd (by omega) c5
  have lS:=bL.rd (by omega) eO
  have aa8:=bL.rd (by omega) Wq
  refine ⟨a6.look rfl aa8 (fX q1) rfl (by simp [jK,ey]) (a6.look rfl lS (fX bC) rfl gn (a6.look rfl d5 rfl rfl (by simp [jK,ey]) (a6.look rfl lS (fX bC) rfl gn (a6.look rfl d5 rfl rfl (by simp [jK,ey]) .nil)))),?_⟩
  have Ud:(DE es r).length=2 * es.length:=yV
  have hoq:∃z,(DE es r)[q]?=some z:=⟨_,List.getElem?_eq_getElem (by omega)⟩
  obtain ⟨z,hz⟩:=hoq
  have hoz:=ay.cell hz
  have ab3:ak H2 (at_ ob)=some (.cells ((DE es r).map (.int .i64))):=hof
  repeat' (first|((first|refine WO.n rfl ?_|refine WO.k rfl ?_);(first|refine aK ?_|refine bu ?_|refine aZ ?_))|with_reducible (first|refine WO.nil ?_|refine WC.ret ?_|refine aC ?_|refine gM ?_|refine kf ?_))
  exact az (vs:=[_,_]) rfl ⟨bp.trans bL (by omega),by omega,z,rfl⟩
 ·
  refine WO.cn rfl ?_
  refine (E.RE (n:=(m:Int)) g ((he.same bp).up (by omega)) ((hr.same bp).up (by omega)) cj (by omega)).of ?_
  rintro fcv H2 nx2 ⟨nf,iR,nk,hL,bL⟩
  have K0:=ok.Rh
  obtain ⟨fb,fc,rfl⟩:=hL.form
  have df:=bp.trans bL (by omega)
  have d3:=bL.rd (by omega) c3
  repeat' (first|((first|refine WO.n rfl ?_|refine WO.k rfl ?_);(first|refine aK ?_|refine dD ?_|refine cM ?_|refine aJ ?_|refine Bb ?_))|with_reducible (first|refine WO.nil ?_|refine WC.aa ?_|refine WC.seq ?_|refine WC.block ?_|refine aC ?_))
  rw [show ((m - 1:Nat):Int)=(m:Int) - 1 by omega]
  refine WC.loop (α:=Nat×Int) (fun k=>[(S1,.slice (some ⟨bb,bo,some 1⟩) r.length rc),(S5,.pointer (some ⟨nx + 1,0,none⟩)),(dN,.int .i64 k.2),(fE,.int .i64 ((k.1:Int) - 1))])
   (fun k H' nx'=>k.1≤m∧H'=H2∧nx'=nx2∧-20000≤k.2 + (m:Int) - (k.1:Int)∧k.2≤20000) (fun k=>k.1)
   ?_ (m,((dh es r).length:Int)) aW ⟨Nat.le_refl _,rfl,rfl,by simp only;omega,by simp only;omega⟩
  rintro ⟨k,a⟩ H3 nx3 ⟨hk,e1,e2,ha,Ou⟩
  simp only at hk ha Ou ⊢
  rw [e1,e2]
  have d5:=bL.rd (by omega) c5
  have lS:=bL.rd (by omega) eO
  repeat' (first|((first|refine WO.n rfl ?_|refine WO.k rfl ?_);(first|refine aK ?_|refine dD ?_|refine aJ ?_|(refine C9 (fun h=>?_) (fun h=>?_)<;>(try simp only [Int.ofNat_eq_natCast] at h))))|with_reducible (first|refine WO.nil ?_|refine WC.aa ?_|refine WC.seq ?_|refine WC.skip ?_|refine WC.ret ?_|refine WC.exit ?_|refine WC.block ?_)|refine WC.aB rfl ?_|refine WC.ax rfl ?_|with_reducible (first|refine aC ?_|refine dQ ?_|refine eh ?_))
  ·obtain ⟨j,rfl⟩:∃j,k=j + 1:=⟨k - 1,by omega⟩
   have hj:((j + 1:Nat):Int) - 1=(j:Int):=by omega
   rw [hj]
   have ED:j < r.length:=by omega
   have L4:r.getD j []=r[j]:=by rw [List.getD_eq_getElem?_getD,List.getElem?_eq_getElem ED];rfl
   have hrj:=cj.row j
   obtain ⟨bb',bo',ab4,ib',ic',e3,aa9,aba,DJ,xO⟩:=hr.at ED
   cases e3
   have abp:=df.rd aa9 aba
   rw [← L4] at DJ
   repeat' (first|((first|refine WO.n rfl ?_|refine WO.k rfl ?_);(first|refine aK ?_|refine cM ?_|refine bu ?_|refine aZ ?_|(refine zl (fun h=>?_) (fun h=>?_)<;>(try simp only [Int.ofNat_eq_natCast] at h))|refine Db ?_))|with_reducible (first|refine WO.nil ?_|refine WC.aa ?_|refine WC.skip ?_)|refine WC.aB rfl ?_|refine WC.ax rfl ?_|with_reducible (first|refine aC ?_|refine eT ?_))
   ·exact ⟨(j,a - 1),by show j < j + 1;omega,aW,by show j≤m;omega,rfl,rfl,by show -20000≤a - 1 + (m:Int) - (j:Int);omega,by show a - 1≤_;omega⟩
   ·exact ⟨(j,a),by show j < j + 1;omega,aW,by show j≤m;omega,rfl,rfl,by show -20000≤a + (m:Int) - (j:Int);omega,by show a≤_;omega⟩
  ·exact az (vs:=[_,_]) rfl ⟨df,by omega,a,rfl⟩
end Go.Eng

namespace Go.Eng
variable {A:aG} {H H':Heap} {nx nx':Nat} {σ:aP} {L:List Value} {Q:ct}
set_option maxRecDepth 100000
structure ly (H:Heap) (nx b:Nat) (us:List Value) (rs:List (List Int)):Prop where
 cells:ak H (at_ b)=some (.cells us)
 len:us.length=rs.length
 row:∀(i:Nat) (u:Value) (l:List Int),us[i]?=some u→rs[i]?=some l→bS H nx 1 bq u l∧bj u≠some b
theorem pU {α:Type} {z d:Nat} {enc:α→List Value} {v:Value} {xs:List α} (h:bS H nx z enc v xs) (hd:bj v=some d):d < nx:=by
 obtain ⟨base,c,rfl,h2,h3⟩:=h
 cases base with
 | none=>cases hd
 | some a=>
  rcases h3 a rfl with ⟨rfl,_,_⟩|⟨_,b,o,rfl,g,_⟩
  ·cases hd
  ·cases hd;exact g
theorem ly.same {b:Nat} {us:List Value} {rs:List (List Int)} (h:ly H nx b us rs) (hs:an H H' nx) (hn:nx≤nx') (hb:b < nx):ly H' nx' b us rs:=
 ⟨(hs b hb).trans h.cells,h.len,fun i u l hu hl=>⟨((h.row i u l hu hl).1.same hs).up hn,(h.row i u l hu hl).2⟩⟩
theorem ly.start {b n:Nat} (hc:ak H (at_ b)=some (.cells (aU [.slice none 0 0] n))):ly H nx b (List.replicate n (.slice none 0 0)) (List.replicate n []):=by
 rw [fa] at hc
 refine ⟨hc,by simp,fun i u l hu hl=>?_⟩
 rw [List.getElem?_replicate] at hu hl
 split at hu
 ·cases hu
  rename_i hi
  rw [if_pos hi] at hl
  cases hl
  exact ⟨.nil,fun e=>by cases e⟩
 ·cases hu
theorem ly.put {b v:Nat} {us:List Value} {rs:List (List Int)} {u:Value} {l:List Int} (h:ly H nx b us rs) (hv:v < rs.length) (hs:∀d,d < nx→d≠b→ak H' (at_ d)=ak H (at_ d)) (hn:nx≤nx') (hu:bS H' nx' 1 bq u l) (hb:bj u≠some b) (hc:ak H' (at_ b)=some (.cells (us.set v u))):ly H' nx' b (us.set v u) (rs.set v l):=by
 refine ⟨hc,by rw [List.length_set,List.length_set,h.len],fun i x y hx hy=>?_⟩
 rw [List.getElem?_set] at hx hy
 by_cases e:v=i
 ·subst e
  rw [if_pos rfl,if_pos (by rw [h.len];exact hv)] at hx
  rw [if_pos rfl,if_pos hv] at hy
  cases hx;cases hy
  exact ⟨hu,hb⟩
 ·rw [if_neg e] at hx hy
  obtain ⟨g1,g2⟩:=h.row i x y hx hy
  exact ⟨g1.blk (fun d hd cf=>hs d cf (fun e=>g2 (by rw [hd,e]))) hn,g2⟩
theorem ly.at {b v:Nat} {us:List Value} {rs:List (List Int)} (h:ly H nx b us rs) (hv:v < rs.length):∃u,us[0 + v * 1]?=some u∧bS H nx 1 bq u (rs.getD v [])∧bj u≠some b:=by
 have hl:v < us.length:=by rw [h.len];exact hv
 have hu:=List.getElem?_eq_getElem hl
 have hr:=List.getElem?_eq_getElem hv
 refine ⟨us[v],by rw [show 0 + v * 1=v by omega];exact hu,?_⟩
 rw [List.getD_eq_getElem?_getD,hr]
 exact h.row v _ _ hu hr
theorem ly.E7 {b c:Nat} {us:List Value} {rs:List (List Int)} (h:ly H nx b us rs) (hb:b < nx) (hc:rs.length≤au c):eY H nx 1 bq (.slice (some ⟨b,0,some 1⟩) rs.length c) rs:=by
 refine ⟨us,h.len,?_,fun i u l hu hl=>(h.row i u l hu hl).1⟩
 rw [← h.len]
 exact .pre (rest:=[]) (.inl (by rw [m5,List.append_nil];exact h.cells)) hb (by rw [h.len];exact hc) (fun _=>rfl)
theorem xC {n:Int} {es:List Ed} {r:List (List Int)} (g:cJ n es r) {v:Nat} (hv:v < r.length):(r.getD v []).Nodup:=by
 refine List.pairwise_iff_getElem.2 fun i j hi hj FT e=>?_
 have h1:iX r v i=iX r v j:=by
  unfold iX
  rw [List.getD_eq_getElem?_getD (l:=r.getD v []),List.getD_eq_getElem?_getD (l:=r.getD v []),List.getElem?_eq_getElem hi,List.getElem?_eq_getElem hj,e]
 have:=(g.inj v i v j hv hi hv hj h1).2
 omega
theorem bA.Ws {nx0 by_:Nat} {zero:List Value} {s x:Od} {v xv:Value} {l m:List Ed} {K:Value→Heap→Nat→Prop} (hs:ev σ L s=some v) (hx:ev σ L x=some xv) (hg:bA H nx0 nx 2 v l.length (l.flatMap a5)) (eF:nt H 2 xv m.length (m.flatMap a5)) (vS:nx0≤nx) (Ub:by_≤16) (hb:l.length + m.length≤1048576)
  (h:∀v' H' nx',nx≤nx'→bA H' nx0 nx' 2 v' (l++m).length ((l++m).flatMap a5)→(∀d,d < nx→bj v≠some d→ak H' (at_ d)=ak H (at_ d))→K v' H' nx'):aH A (.app 2 by_ zero s x false) σ L H nx K:=by
 have h16:(l.length + m.length) * by_≤(l.length + m.length) * 16:=Nat.mul_le_mul_left _ Ub
 refine .C2 hs hx hg eF (by omega) (m8 _) (mR _) vS (by unfold small;omega) (by unfold small;omega) (fun v' H' nx' h1 h2 _ h3=>h v' H' nx' h1 ?_ (fun d hd cy=>h3 d hd fun c z' k e=>?_))
 ·rw [← List.flatMap_append] at h2
  rw [List.length_append]
  exact h2
 ·obtain ⟨_,⟨rfl,_⟩|⟨b,rfl,_,_,_⟩⟩:=hg
  ·cases e
  ·cases e;exact cy rfl
theorem sR {m:Int} {b:Option Addr} {n c:Nat}:jK (.agg ⟨[.int .i64 m,.slice b n c]⟩) (.agg ⟨[.int .i64 m,.slice b n c]⟩)=true:=by
 show (ey (.int .i64 m) (.int .i64 m)&&(ey (.slice b n c) (.slice b n c)&&true))=true
 rw [tY]
 simp [ey]
theorem RX {m:Int} {b:Option Addr} {n c:Nat}:∀l:List Ed,[Value.int .i64 m,.slice b n c]≠l.flatMap a5:=by
 intro l h
 cases l with
 | nil=>cases h
 | cons e l=>
  have:=congrArg (fun l:List Value=>l[1]?) h
  simp [a5] at this
theorem Wt {m nb b c:Nat} {gb:List Value} {rv v6 v7 v8 v17 v4 v14:Value} {r:List (List Int)} {H0:Heap} {us:List Value} (hr:eY H0 nb 1 bq rv r) (hl:r.length=m) (bM:an H0 H nb) (hb:nb≤b) (nG:b < nx) (h4:∃q,v4=.pointer (some ⟨q,0,none⟩)∧q < b∧Rd H q (.int .i64 (m:Int)::gb)) (ho:ly H nx b us (List.replicate m []))
  (hm:m≤1048576) (hc:m≤au c)
  (aN:∀σ H' Xx,bg [(S1,rv),(S4,v4),(S6,v6),(S7,v7),(S8,v8),(nK,v14),(nw,v17),(zm,.slice (some ⟨b,0,some 1⟩) m c)] σ→(∀d,d≠b→ak H' (at_ d)=ak H (at_ d))→ly H' nx b Xx r→Q (.exit 0) σ H' nx) :
  WC A (.loop Df) [(S1,rv),(S4,v4),(S6,v6),(S7,v7),(S8,v8),(nK,v14),(nw,v17),(zm,.slice (some ⟨b,0,some 1⟩) m c),(w8,.int .i64 0)] H nx Q:=by
 obtain ⟨rb,rc,rfl⟩:=hr.form
 obtain ⟨q,rfl,hq,V6⟩:=h4
 refine WC.loop (α:=Nat) (fun k=>[(S1,.slice rb r.length rc),(S4,.pointer (some ⟨q,0,none⟩)),(S6,v6),(S7,v7),(S8,v8),(nK,v14),(nw,v17),(zm,.slice (some ⟨b,0,some 1⟩) m c),(w8,.int .i64 ((k:Nat):Int))])
  (fun k H' nx'=>k≤m∧nx'=nx∧(∀d,d≠b→ak H' (at_ d)=ak H (at_ d))∧∃us,ly H' nx b us (iJ (fun l=>l) r k)) (fun k=>m - k)
  ?_ 0 aW ⟨Nat.zero_le _,rfl,fun _ _=>rfl,us,by rw [lu,hl];exact ho⟩
 rintro k H1 aT ⟨hk,e1,hf,O8,Nx⟩
 rw [e1]
 have kI:=Nx.len
 rw [gq,hl] at kI
 have ab5:Rd H1 q (.int .i64 (m:Int)::gb):=by unfold Rd;rw [hf q (by omega)];exact V6
 unfold Df
 repeat' (first|((first|refine WO.n rfl ?_|refine WO.k rfl ?_);(first|refine dD ?_|refine aJ ?_|(refine ei (fun h=>?_) (fun h=>?_)<;>(try simp only [Int.ofNat_eq_natCast] at h))))|with_reducible (first|refine WO.nil ?_|refine WC.aa ?_|refine WC.seq ?_|refine WC.skip ?_|refine WC.exit ?_|refine WC.block ?_)|refine WC.aB rfl ?_|refine WC.ax rfl ?_|with_reducible (first|refine aC ?_|refine dQ ?_))
 ·have cI:k < r.length:=by omega
  have j3:r.getD k []=r[k]:=by rw [List.getD_eq_getElem?_getD,List.getElem?_eq_getElem cI];rfl
  obtain ⟨bb,bo,uA,ib,ic,rfl,je,jJ,bC,hi⟩:=hr.at cI
  rw [← j3] at bC hi
  have ml:∀d,d < nb→ak H1 (at_ d)=ak H0 (at_ d):=fun d hd=>(hf d (by omega)).trans (bM d hd)
  have eO:Rd H1 bb uA:=by unfold Rd;rw [ml bb je];exact jJ
  have LM:=Nx.cells
  repeat' (first|((first|refine WO.n rfl ?_|refine WO.k rfl ?_);(first|refine aK ?_|refine bu ?_|refine aZ ?_|refine fj ?_|refine bO ?_))|with_reducible (first|refine WO.nil ?_|refine WC.aa ?_|refine aC ?_|refine eT ?_))
  have qi:=nc (fun l=>l) r cI
  refine ⟨k + 1,by omega,aW,by omega,rfl,fun d hd=>by rw [ai,if_neg hd];exact hf d hd,O8.set k (.slice ib (r.getD k []).length ic),?_⟩
  rw [← qi,show 0 + k * 1=k by omega]
  refine Nx.put (by rw [gq];exact cI) (fun d _ hd=>by rw [ai,if_neg hd]) (Nat.le_refl _) ?_ (fun e=>by have:=pU hi e;omega) aq
  exact hi.blk (fun d hd cf=>by rw [ai,if_neg (by omega)];exact ml d cf) (by omega)
 ·obtain rfl:k=m:=by omega
  have qi:=m9 (fun l=>l) r
  rw [hl] at qi
  rw [qi,List.map_id'] at Nx
  exact aN _ _ O8 aW hf Nx
set_option maxHeartbeats 1000000 in
theorem Hm (E:fG A) {n:Int} {m v w:Nat} {ev rv:Value} {es:List Ed} {r:List (List Int)} (h0:aQ n es r=0) (fB:n=(m:Int)) (he:bS H nx 2 a5 ev es) (hr:eY H nx 1 bq rv r) (hv:v < m) (hw:w < m) (RK:¬Reach es v w) (dP:es.length < 3072) :
  WF A 37 [.agg #[.int .i64 n,ev],rv,.agg #[.int .i64 (v:Int),.int .i64 (cg (r.getD v []))],.agg #[.int .i64 (w:Int),.int .i64 (cg (r.getD w []))]] H nx fun x H' nx'=>an H H' nx∧nx≤nx'∧∃pR b c us,x=oneOf [.agg #[.int .i64 n,pR],.slice (some ⟨b,0,some 1⟩) r.length c,.int .i64 0]∧r.length≤au c∧bS H' nx' 2 a5 pR (es++[((v:Int),(w:Int))])∧(∀d,bj pR=some d→nx≤d)∧dR H' nx nx' b us (uT es.length r v w):=by
 obtain ⟨base,ec,rfl⟩:=he.form
 obtain ⟨rb,rc,rfl⟩:=hr.form
 have cj:=eP h0
 obtain ⟨hm,hl,_⟩:=dU h0
 have g:=iy h0
 have zt:=hm.2.1
 subst fB
 have zq:r.length=m:=by omega
 have hnv:=xC g (v:=v) (by omega)
 have hnw:=xC g (v:=w) (by omega)
 have Xc:=lx h0 v
 have XK:=lx h0 w
 refine WF.enter (E.h rfl _ _ _) E.ON ?_
 generalize pX:cg (r.getD v [])=fv
 generalize L2:cg (r.getD w [])=fw
 have bM:an H (aw (aw (aw (aw H nx [.int .i64 (m:Int),.slice base es.length ec]) (nx + 1) [.int .i64 (v:Int),.int .i64 fv]) (nx + 1 + 1) [.int .i64 (w:Int),.int .i64 fw]) (nx + 1 + 1 + 1) [.int .i64 0,.slice none 0 0]) nx:=(((an.refl.set (Nat.le_refl _)).set (by omega)).set (by omega)).set (by omega)
 have Wg:=Bx.of (H:=H) (nx:=nx) (a:=[.int .i64 (m:Int),.slice base es.length ec]) (b:=[.int .i64 (v:Int),.int .i64 fv]) (c:=[.int .i64 (w:Int),.int .i64 fw]) (d:=[.int .i64 0,.slice none 0 0])
 repeat' (first|((first|refine WO.n rfl ?_|refine WO.k rfl ?_);(first|refine aK ?_|refine jN ?_|refine sE ?_|refine aJ ?_))|with_reducible (first|refine WO.nil ?_|refine WC.aa ?_|refine WC.seq ?_|refine aC ?_))
 have qi:=u0 E (n:=(m:Int)) (v:=v) h0 rfl ((he.same bM).up (show nx≤nx + 1 + 1 + 1 + 1 by omega)) ((hr.same bM).up (by omega)) hv
 rw [pX] at qi
 refine WO.cn rfl ?_
 refine qi.of ?_
 rintro _ H1 aT ⟨a7,cD,q1,rfl⟩
 have RM:=Wg.same a7 (by omega)
 have bp:=bM.trans a7 (by omega)
 clear qi
 obtain ⟨r4,r6,r7,r8⟩:=id RM
 repeat' (first|((first|refine WO.n rfl ?_|refine WO.k rfl ?_);(first|refine aK ?_|refine w6 ?_|refine r9 ?_|refine aJ ?_|refine fL ?_|(refine om (fun h=>?_) (fun h=>?_)<;>(try simp only [Int.ofNat_eq_natCast] at h))))|with_reducible (first|refine WO.nil ?_|refine WC.aa ?_|refine WC.seq ?_|refine WC.skip ?_|refine WC.ret ?_)|refine WC.aB rfl ?_|refine WC.ax rfl ?_|with_reducible (first|refine aC ?_|refine gM ?_))
 ·omega
 have qi:=u0 E (n:=(m:Int)) (v:=w) h0 rfl ((he.same bp).up (show nx≤aT by omega)) ((hr.same bp).up (by omega)) hw
 rw [L2] at qi
 refine WO.cn rfl ?_
 refine qi.of ?_
 rintro _ H2 nx2 ⟨bL,eW,q2,rfl⟩
 have RN:=RM.same bL (by omega)
 have df:=bp.trans bL (by omega)
 clear r4 r6 r7 r8 qi
 obtain ⟨r4,r6,r7,r8⟩:=id RN
 repeat' (first|((first|refine WO.n rfl ?_|refine WO.k rfl ?_);(first|refine aK ?_|refine w6 ?_|refine r9 ?_|refine aJ ?_|refine fL ?_|(refine om (fun h=>?_) (fun h=>?_)<;>(try simp only [Int.ofNat_eq_natCast] at h))))|with_reducible (first|refine WO.nil ?_|refine WC.aa ?_|refine WC.seq ?_|refine WC.skip ?_|refine WC.ret ?_)|refine WC.aB rfl ?_|refine WC.ax rfl ?_|with_reducible (first|refine aC ?_|refine gM ?_))
 ·omega
 refine WO.cn rfl ?_
 refine (uY E (n:=(m:Int)) ((he.same df).up (show nx≤nx2 by omega)) (by omega)).of ?_
 rintro _ H3 nx3 ⟨fH,mG,ev3,rfl,O2⟩
 have RO:=RN.same fH (by omega)
 have lk:=df.trans fH (by omega)
 obtain ⟨a3,c3,rfl⟩:=(bA.sle O2 (fun _=>rfl)).form
 have HT:nx + 1 + 1 + 1 + 1≤nx2:=by omega
 clear r4 r6 r7 r8 bM Wg a7 RM bp bL RN df fH cD eW
 obtain ⟨r4,r6,r7,r8⟩:=id RO
 repeat' (first|((first|refine WO.n rfl ?_|refine WO.k rfl ?_);(first|refine dD ?_|refine sE ?_|refine r9 ?_|refine aJ ?_|refine gx ?_|refine fL ?_))|with_reducible (first|refine WO.nil ?_|refine WC.aa ?_|refine WC.seq ?_|refine aC ?_))
 have RY:an H3 (aw (aw (aw H3 nx3 [.int .i64 0,.slice none 0 0]) nx3 [.int .i64 (m:Int),.slice a3 es.length c3]) (nx3 + 1) [.int .i64 (v:Int),.int .i64 (w:Int)]) nx3:=((an.refl.set (Nat.le_refl _)).set (Nat.le_refl _)).set (by omega)
 have HX:∀d,bj (.slice a3 es.length c3)=some d→d < nx3:=fun d hd=>pU (bA.sle O2 (fun _=>rfl)) hd
 refine WO.n rfl ?_
 refine bA.Ws (l:=es) (m:=[((v:Int),(w:Int))]) rfl rfl (O2.same RY (show nx3≤nx3 + 1 + 1 by omega)) (pS Rd.self) (by omega) (by omega) (by show es.length + 1≤_;omega) ?_
 intro v4 H4 fZ xl L0 NK
 have RZ:∀d,d < nx2→ak H4 (at_ d)=ak H3 (at_ d):=fun d hd=>(NK d (by omega) (fun e=>by
  have y9:=O2
  obtain ⟨_,⟨e1,_⟩|⟨q,e1,g1,_⟩⟩:=y9
  ·rw [e1] at e;cases e
  ·rw [e1] at e;cases e;omega)).trans (RY d (by omega))
 have t4:ak H4 (at_ nx3)=some (.cells [.int .i64 (m:Int),.slice a3 es.length c3]):=(NK nx3 (by omega) (fun e=>by have:=HX _ e;omega)).trans (by rw [ai,if_neg (by omega),ai,if_pos rfl];rfl)
 have RP:=RO.same (H':=H4) (nx':=nx2) (fun d hd=>RZ d hd) (by omega)
 have we:an H H4 nx:=fun d hd=>(RZ d (by omega)).trans (lk d hd)
 have za:=bA.sle L0 (fun _=>rfl)
 obtain ⟨a4,c4,rfl⟩:=za.form
 have Np:nx2≤nx3:=by omega
 clear r4 r6 r7 r8 RY HX NK RZ O2 lk RO
 obtain ⟨r4,r6,r7,r8⟩:=id RP
 have Lv:=Fi (v:=v) (w:=w) hm (by omega) (by omega) dP
 have abq:(es++[((v:Int),(w:Int))]).length=es.length + 1:=by rw [List.length_append];rfl
 repeat' (first|(refine WO.n rfl ?_;(first|refine dD ?_|refine aJ ?_|refine fj ?_))|with_reducible (first|refine WO.nil ?_|refine WC.aa ?_|refine WC.seq ?_|refine aC ?_))
 have Hn:an H4 (aw H4 nx3 [.int .i64 (m:Int),.slice a4 (es++[((v:Int),(w:Int))]).length c4]) nx3:=an.refl.set (Nat.le_refl _)
 obtain ⟨_,⟨_,e0⟩|⟨eb,e1,eb1,eb2,ebc⟩⟩:=L0
 ·omega
 have R1:∀d,bj (.slice a4 (es++[((v:Int),(w:Int))]).length c4)=some d→nx + 1 + 1 + 1 + 1≤d:=fun d hd=>by rw [e1] at hd;cases hd;omega
 have Wu:eb≠nx3:=fun e=>by
  rw [e,t4] at ebc
  exact RX _ (gK.cells.inj (Option.some.inj ebc))
 have BS:bS (aw H4 nx3 [.int .i64 (m:Int),.slice a4 (es++[((v:Int),(w:Int))]).length c4]) fZ 2 a5 (.slice a4 (es++[((v:Int),(w:Int))]).length c4) (es++[((v:Int),(w:Int))]):=za.blk (fun d hd _=>by
  rw [e1] at hd
  cases hd
  rw [ai,if_neg Wu]) (Nat.le_refl _)
 have S0:=RP.same Hn (by omega)
 have Hh:=we.trans Hn (by omega)
 refine WO.cn rfl ?_
 refine (uu E.Nb (E.h rfl) (n:=(m:Int)) BS).of ?_
 rintro _ H6 XD ⟨rfl,NF,XE⟩
 rw [decide_eq_true Lv]
 have RQ:=S0.same NF (by omega)
 have Hi:=Hh.trans NF (by omega)
 have t6:ak H6 (at_ nx3)=some (.cells [.int .i64 (m:Int),.slice a4 (es++[((v:Int),(w:Int))]).length c4]):=(NF nx3 (by omega)).trans aq
 have NL:=(BS.same NF).up XE
 clear r4 r6 r7 r8 Hn Wu S0 RP Hh we za BS t4 e1 ebc eb2 NF
 obtain ⟨r4,r6,r7,r8⟩:=id RQ
 repeat' (first|((first|refine WO.n rfl ?_|refine WO.k rfl ?_);(first|refine pA ?_|refine aJ ?_))|with_reducible (first|refine WO.nil ?_|refine WC.aa ?_|refine WC.seq ?_|refine WC.skip ?_)|refine WC.ax rfl ?_|with_reducible refine aC ?_)
 refine WO.cn rfl ?_
 refine (E.Lk (n:=(m:Int)) hm rfl ((he.same Hi).up (show nx≤XD by omega))).of ?_
 rintro _ H7 kj ⟨pb,pc,c,rfl,Ox,LO,B3,iP,mP,Lq,Ta⟩
 have RS:=RQ.same Lq (by omega)
 have Hj:=Hi.trans Lq (by omega)
 have t7:=(Lq nx3 (by omega)).trans t6
 have R2:=(NL.same Lq).up Ta
 obtain ⟨x,hx⟩:=y7 mP.len hv
 obtain ⟨y,hy⟩:=y7 mP.len hw
 have oR:x≠y:=mP.apart hx hy RK
 have AQ:=ay.cell hx
 have XA:=ay.cell hy
 have XC:ak H7 (at_ pb)=some (.cells (c.map (.int .i64))):=iP
 have OX:∀d,bj (.slice a4 (es++[((v:Int),(w:Int))]).length c4)=some d→d≠kj:=fun d hd=>Nat.ne_of_lt (pU R2 hd)
 have hb7:nx + 1 + 1 + 1 + 1≤nx3∧nx3 < kj:=by omega
 obtain ⟨ab6,ab7⟩:=hb7
 clear r4 r6 r7 r8 RQ Hi t6 NL Lq Ta XE HT Np mG xl LO eb1
 obtain ⟨r4,r6,r7,r8⟩:=id RS
 repeat' (first|((first|refine WO.n rfl ?_|refine WO.k rfl ?_);(first|refine aK ?_|refine w6 ?_|refine dD ?_|refine cM ?_|refine r9 ?_|refine kg ?_|refine aJ ?_|refine bu ?_|refine aZ ?_|refine mD ?_|refine fL ?_|(refine zl (fun h=>?_) (fun h=>?_)<;>(try simp only [Int.ofNat_eq_natCast] at h))|(refine om (fun h=>?_) (fun h=>?_)<;>(try simp only [Int.ofNat_eq_natCast] at h))))|refine WO.dC rfl ?_|refine WO.nI rfl ?_|with_reducible (first|refine WO.nil ?_|refine WC.aa ?_|refine WC.drawn ?_|refine WC.seq ?_|refine WC.skip ?_|refine WC.ret ?_|refine WC.block ?_)|refine WC.aB rfl ?_|refine WC.ax rfl ?_|with_reducible (first|refine aC ?_|refine gM ?_|refine kf ?_))
 ·exact absurd (by assumption) oR
 ·exact absurd (by assumption) oR
 have y8:an H7 (aw H7 kj (aU [.slice none 0 0] m)) kj:=an.refl.set (Nat.le_refl _)
 clear hx hy oR AQ XA XC iP mP Ox B3
 refine WC.sub (σ':=_) aW (Wt (m:=m) (nb:=nx) (b:=kj) (c:=2 * m + 1) (gb:=[.slice base es.length ec]) (v6:=.pointer (some ⟨nx + 1,0,none⟩)) (v7:=.pointer (some ⟨nx + 1 + 1,0,none⟩)) (v8:=.pointer (some ⟨nx + 1 + 1 + 1,0,none⟩)) (v14:=.pointer (some ⟨nx3,0,none⟩)) (v17:=.int .i64 (es.length:Int)) (v4:=.pointer (some ⟨nx,0,none⟩)) hr zq (Hj.trans y8 (by omega)) (by omega) (Nat.lt_succ_self _) ⟨nx,rfl,by omega,Rd.own ((y8 nx (by omega)).trans r4)⟩ (ly.start aq) (by omega) (by rw [cw];exact Nat.le_refl _) (fun σ H8 us hσ hf8 Wv=>?_))
 refine eh (aC (WC.sub hσ ?_))
 have Ww:an H7 H8 kj:=fun d hd=>(hf8 d (by omega)).trans (y8 d hd)
 have XL:=RS.same Ww (by omega)
 have DT:=Hj.trans Ww (by omega)
 have t8:=(Ww nx3 (by omega)).trans t7
 have Wx:=(R2.same Ww).up (show kj≤kj + 1 by omega)
 have cy:v≠w:=fun e=>RK (by rw [e];exact .here)
 clear r4 r6 r7 r8 y8 hf8 Ww RS Hj t7 R2 hσ
 obtain ⟨r4,r6,r7,r8⟩:=id XL
 obtain ⟨uv,guv,G6,LZ⟩:=Wv.at (v:=v) (by omega)
 obtain ⟨ua,uc,rfl⟩:=G6.form
 have Ud:=Wv.len
 have JJ:=Wv.cells
 repeat' (first|((first|refine WO.n rfl ?_|refine WO.k rfl ?_);refine aJ ?_)|with_reducible (first|refine WC.aa ?_|refine WC.seq ?_))
 refine WO.k rfl ?_
 refine aH.of (Act.Qd E.q57 rfl rfl) ?_
 rw [decide_eq_false (fun e=>cy (by
  have:=congrArg Prod.fst e
  simp only at this
  omega))]
 repeat' (first|(refine WO.n rfl ?_;(first|refine dD ?_|refine aJ ?_|refine bu ?_|refine aZ ?_|refine gx ?_|refine qL ?_))|with_reducible (first|refine WO.nil ?_|refine WC.drawn ?_|refine WC.seq ?_)|refine WC.ax rfl ?_)
 have R3:an H8 (aw H8 (kj + 1) [.int .i64 ((2 * es.length:Nat):Int)]) (kj + 1):=an.refl.set (Nat.le_refl _)
 have CD:=xB E (a:=((2 * es.length:Nat):Int)) ((G6.same R3).up (show kj + 1≤kj + 1 + 1 by omega)) (by omega) hnv (.pre (xs:=[((2 * es.length:Nat):Int)]) (b:=kj + 1) (c:=2 * 1 + 1) (rest:=[]) (.inl aq) (by omega) (by show 1≤1;omega) (fun _=>rfl))
 rw [pX] at CD
 refine WO.ca rfl ?_
 refine CD.of ?_
 rintro v9 H9 Hk ⟨O7,hn9,g9⟩
 have BT:an H8 H9 (kj + 1):=R3.trans O7 (by omega)
 have Tb:=XL.same BT (by omega)
 have NH:=DT.trans BT (by omega)
 have t9:=(BT nx3 (by omega)).trans t8
 have Wy:=(Wx.same BT).up (show kj + 1≤Hk by omega)
 have R4:=(BT kj (by omega)).trans JJ
 obtain ⟨va,vc,rfl⟩:=g9.form
 clear CD r4 r6 r7 r8 R3 O7
 obtain ⟨r4,r6,r7,r8⟩:=id Tb
 have q6:=Rd.own r6
 refine ⟨a6.look rfl q6 rfl rfl (by simp [jK,ey]) .nil,?_⟩
 repeat' (first|(refine WO.n rfl ?_;(first|refine dD ?_|refine aJ ?_|refine aZ ?_|refine fj ?_))|with_reducible (first|refine WO.nil ?_|refine WC.drawn ?_|refine aC ?_|refine kf ?_))
 have Wk:(gJ r v ((2 * es.length:Nat):Int)).getD w []=r.getD w []:=by rw [lp (by omega),if_neg (fun e=>cy e.symm)]
 have sq:=dx r v ((2 * es.length:Nat):Int)
 have XM:ly (aw H9 kj (us.set (0 + v * 1) (.slice va (fm (r.getD v []) ((2 * es.length:Nat):Int)).length vc))) Hk kj (us.set v (.slice va (fm (r.getD v []) ((2 * es.length:Nat):Int)).length vc)) (gJ r v ((2 * es.length:Nat):Int)):=by
  rw [show 0 + v * 1=v by omega]
  refine Wv.put (by omega) (fun d hd y9=>by rw [ai,if_neg y9];exact BT d hd) (by omega) ?_ (fun e=>by have:=(g9.blk e).1;omega) aq
  exact g9.sle.blk (fun d hd _=>by rw [ai,if_neg (by have:=(g9.blk hd).1;omega)]) (Nat.le_refl _)
 have NM:an H8 (aw H9 kj (us.set (0 + v * 1) (.slice va (fm (r.getD v []) ((2 * es.length:Nat):Int)).length vc))) kj:=(BT.low (by omega)).set (Nat.le_refl _)
 have R5:=XL.same NM (by omega)
 have Wz:=DT.trans NM (by omega)
 have t9b:=(NM nx3 (by omega)).trans t8
 have WA:bS (aw H9 kj (us.set (0 + v * 1) (.slice va (fm (r.getD v []) ((2 * es.length:Nat):Int)).length vc))) Hk 2 a5 (.slice a4 (es++[((v:Int),(w:Int))]).length c4) (es++[((v:Int),(w:Int))]):=Wy.blk (fun d hd _=>by rw [ai,if_neg (OX d hd)]) (Nat.le_refl _)
 generalize hH9:aw H9 kj (us.set (0 + v * 1) (.slice va (fm (r.getD v []) ((2 * es.length:Nat):Int)).length vc))=XN at *
 clear Tb XL NH DT t9 t8 Wy Wx BT NM R4 JJ Wv G6 guv g9 r4 r6 r7 r8 q6 LZ
 obtain ⟨r4,r6,r7,r8⟩:=id R5
 obtain ⟨uw,guw,huw,ab8⟩:=XM.at (v:=w) (by omega)
 rw [Wk] at huw
 obtain ⟨wa,wc,rfl⟩:=huw.form
 have R4:=XM.cells
 have ab9:=XM.len
 repeat' (refine WO.n rfl ?_;(first|refine dD ?_|refine aJ ?_|refine bu ?_|refine gx ?_|refine bO ?_|refine qL ?_))
 have R6:an XN (aw XN Hk [.int .i64 ((2 * es.length + 1:Nat):Int)]) Hk:=an.refl.set (Nat.le_refl _)
 have CD:=xB E (a:=((2 * es.length + 1:Nat):Int)) ((huw.same R6).up (show Hk≤Hk + 1 by omega)) (by omega) hnw (.pre (xs:=[((2 * es.length + 1:Nat):Int)]) (b:=Hk) (c:=2 * 1 + 1) (rest:=[]) (.inl aq) (by omega) (by show 1≤1;omega) (fun _=>rfl))
 rw [L2] at CD
 refine WO.ca rfl ?_
 refine CD.of ?_
 rintro v10 NI Hl ⟨BQ,aa3,XO⟩
 have lL:an XN NI Hk:=R6.trans BQ (by omega)
 have Lr:=R5.same lL (by omega)
 have t10:=(lL nx3 (by omega)).trans t9b
 have abr:=(lL kj (by omega)).trans R4
 obtain ⟨xa,xc,rfl⟩:=XO.form
 clear CD r4 r6 r7 r8 R6 BQ
 obtain ⟨r4,r6,r7,r8⟩:=id Lr
 have q7:=Rd.own r7
 refine ⟨a6.look rfl q7 rfl rfl (by simp [jK,ey]) .nil,?_⟩
 repeat' (first|(refine WO.n rfl ?_;(first|refine aJ ?_|refine aZ ?_|refine fj ?_))|with_reducible (first|refine WO.nil ?_|refine WC.drawn ?_|refine WC.seq ?_|refine aC ?_|refine kf ?_))
 have Lw:an XN (aw NI kj ((us.set v (.slice va (fm (r.getD v []) ((2 * es.length:Nat):Int)).length vc)).set (0 + w * 1) (.slice xa (fm (r.getD w []) ((2 * es.length + 1:Nat):Int)).length xc))) kj:=(lL.low (by omega)).set (Nat.le_refl _)
 have abb:ly (aw NI kj ((us.set v (.slice va (fm (r.getD v []) ((2 * es.length:Nat):Int)).length vc)).set (0 + w * 1) (.slice xa (fm (r.getD w []) ((2 * es.length + 1:Nat):Int)).length xc))) Hl kj ((us.set v (.slice va (fm (r.getD v []) ((2 * es.length:Nat):Int)).length vc)).set w (.slice xa (fm (r.getD w []) ((2 * es.length + 1:Nat):Int)).length xc)) (gJ (gJ r v ((2 * es.length:Nat):Int)) w ((2 * es.length + 1:Nat):Int)):=by
  rw [show 0 + w * 1=w by omega]
  show ly _ _ _ _ ((gJ r v ((2 * es.length:Nat):Int)).set w (fm ((gJ r v ((2 * es.length:Nat):Int)).getD w []) ((2 * es.length + 1:Nat):Int)))
  rw [Wk]
  refine XM.put (by omega) (fun d hd y9=>by rw [ai,if_neg y9];exact lL d hd) (by omega) ?_ (fun e=>by have:=(XO.blk e).1;omega) aq
  exact XO.sle.blk (fun d hd _=>by rw [ai,if_neg (by have:=(XO.blk hd).1;omega)]) (Nat.le_refl _)
 have NJ:=R5.same Lw (by omega)
 have Lt:=Wz.trans Lw (by omega)
 have t11:=(Lw nx3 (by omega)).trans t9b
 have WB:=(WA.blk (fun d hd cf=>by rw [ai,if_neg (OX d hd)];exact lL d cf) (by omega):bS (aw NI kj ((us.set v (.slice va (fm (r.getD v []) ((2 * es.length:Nat):Int)).length vc)).set (0 + w * 1) (.slice xa (fm (r.getD w []) ((2 * es.length + 1:Nat):Int)).length xc))) Hl 2 a5 (.slice a4 (es++[((v:Int),(w:Int))]).length c4) (es++[((v:Int),(w:Int))]))
 have XG:=Fl (v:=v) (w:=w) h0 (by omega) (by omega) dP
 have si:=abb.E7 (c:=2 * m + 1) (by omega) (by rw [dx,sq,cw];omega)
 rw [dx,sq,zq] at si
 have nj:=rM E si (eP XG)
 rw [dx,sq,zq] at nj
 refine WO.ca rfl ?_
 refine nj.of ?_
 rintro _ H12 aa5 ⟨mO,Wo,b3,c3,us3,rfl,sQ,XH⟩
 have t12:=(mO nx3 (by omega)).trans t11
 have abc:=Rd.own t12
 have RV:=NJ.same mO (by omega)
 clear r4 r6 r7 r8 q7
 obtain ⟨r4,r6,r7,r8⟩:=id RV
 refine ⟨a6.look rfl abc rfl rfl sR .nil,?_⟩
 repeat' (first|((first|refine WO.n rfl ?_|refine WO.k rfl ?_);(first|refine aK ?_|refine fL ?_))|with_reducible (first|refine WO.nil ?_|refine WC.ret ?_|refine aC ?_|refine kf ?_))
 refine ji rfl aq rfl rfl rfl ⟨(Lt.trans mO (by omega)).set (by omega),by omega,_,b3,c3,us3,by rw [zq];rfl,by rw [zq];exact sQ,?_,(fun d hd=>by have:=R1 d hd;omega),(XH.frame (fun d h1 h2=>by rw [ai,if_neg (by omega)]) (Nat.le_refl _)).low (by omega)⟩
 exact ((WB.same mO).up Wo).blk (fun d hd _=>by rw [ai,if_neg (by have:=R1 d hd;omega)]) (Nat.le_refl _)
end Go.Eng

namespace Go.Eng
variable {A:aG} {H H':Heap} {nx nx':Nat} {σ:aP} {L:List Value} {Q:ct}
set_option maxRecDepth 100000
theorem zb (E:fG A) {n:Int} {ev rv:Value} {es:List Ed} {r:List (List Int)} (he:bS H nx 2 a5 ev es) (hr:eY H nx 1 bq rv r) (cj:b8 r) :
  WF A 27 [.agg #[.int .i64 n,ev],rv] H nx fun v H' nx'=>v=.int .i64 (cK n es r)∧an H H' nx∧nx≤nx':=by
 obtain ⟨base,ec,rfl⟩:=he.form
 obtain ⟨rb,rc,rfl⟩:=hr.form
 refine WF.enter (E.h rfl _ _ _) E.Bl ?_
 have bM:an H (aw H nx [.int .i64 n,.slice base es.length ec]) nx:=an.refl.set (Nat.le_refl _)
 repeat' (first|((first|refine WO.n rfl ?_|refine WO.k rfl ?_);(first|refine aK ?_|refine jN ?_|refine aJ ?_))|with_reducible (first|refine WO.nil ?_|refine WC.aa ?_|refine WC.seq ?_|refine aC ?_))
 refine WO.cn rfl ?_
 refine (E.We (n:=n) ((he.same bM).up (Nat.le_succ _)) ((hr.same bM).up (Nat.le_succ _)) cj).of ?_
 rintro _ H1 aT ⟨x,rfl,hx,a7,cD⟩
 have bp:=bM.trans a7 (by omega)
 by_cases h0:aQ n es r=0
 ·have Zk:=hx h0
  subst Zk
  rw [h0]
  have hp:cK n es r=if m6 es r n.toNat=0 then 0 else 5:=by unfold cK;rw [if_pos h0]
  repeat' (first|((first|refine WO.n rfl ?_|refine WO.k rfl ?_);(first|refine aK ?_|refine w6 ?_|refine kg ?_|(refine zl (fun h=>?_) (fun h=>?_)<;>(try simp only [Int.ofNat_eq_natCast] at h))|(refine om (fun h=>?_) (fun h=>?_)<;>(try simp only [Int.ofNat_eq_natCast] at h))))|refine WO.dC rfl ?_|refine WO.nI rfl ?_|with_reducible (first|refine WO.nil ?_|refine WC.aa ?_|refine WC.seq ?_|refine WC.skip ?_|refine WC.ret ?_)|refine WC.aB rfl ?_|refine WC.ax rfl ?_|with_reducible refine aC ?_)
  all_goals first
   | (refine az (vs:=[_]) rfl ⟨?_,bp,by omega⟩;rw [hp,if_pos (by omega)];rfl)
   | (refine az (vs:=[_]) rfl ⟨?_,bp,by omega⟩;rw [hp,if_neg (by omega)];rfl)
   | (exfalso;omega)
 ·have hp:cK n es r=aQ n es r:=by unfold cK;rw [if_neg h0]
  rw [hp]
  generalize aQ n es r=e at *
  repeat' (first|((first|refine WO.n rfl ?_|refine WO.k rfl ?_);(first|refine aK ?_|refine w6 ?_|refine kg ?_|(refine zl (fun h=>?_) (fun h=>?_)<;>(try simp only [Int.ofNat_eq_natCast] at h))))|refine WO.dC rfl ?_|refine WO.nI rfl ?_|with_reducible (first|refine WO.nil ?_|refine WC.aa ?_|refine WC.seq ?_|refine WC.skip ?_|refine WC.ret ?_)|refine WC.ax rfl ?_|with_reducible refine aC ?_)
  all_goals first
   | exact az (vs:=[_]) rfl ⟨rfl,bp,by omega⟩
   | (exfalso;omega)
theorem Lx (E:fG A) {n:Int} {ev rv:Value} {es:List Ed} {r:List (List Int)} (h0:aQ n es r=0) (he:bS H nx 2 a5 ev es) (hr:eY H nx 1 bq rv r) (LX:∀k c,ev≠.slice none k c) :
  WF A 28 [.agg #[.int .i64 n,ev],rv] H nx fun v H' nx'=>an H H' nx∧nx≤nx'∧∃db pR b c us,v=.pointer (some ⟨db,0,none⟩)∧nx≤db∧db < nx'∧ak H' (at_ db)=some (.cells [.int .i64 n,pR,.slice (some ⟨b,0,some 1⟩) r.length c,.int .i64 0])∧r.length≤au c∧BO H' nx nx' pR es∧dR H' nx nx' b us (gI r)∧RD b us pR∧RD b us v∧db≠b∧(∀d,bj pR=some d→d≠db)∧∀(i:Nat) (u:Value),us[i]?=some u→bj u≠some db:=by
 obtain ⟨base,ec,rfl⟩:=he.form
 obtain ⟨rb,rc,rfl⟩:=hr.form
 have cj:=eP h0
 have hm:=(dU h0).1
 have Q8:=hm.2.2.1
 refine WF.enter (E.h rfl _ _ _) E.Vy ?_
 have bM:an H (aw H nx [.int .i64 n,.slice base es.length ec]) nx:=an.refl.set (Nat.le_refl _)
 have b0:Rd (aw H nx [.int .i64 n,.slice base es.length ec]) nx [.int .i64 n,.slice base es.length ec]:=Rd.self
 repeat' (first|((first|refine WO.n rfl ?_|refine WO.k rfl ?_);(first|refine aK ?_|refine jN ?_|refine aJ ?_))|with_reducible (first|refine WO.nil ?_|refine WC.aa ?_|refine WC.seq ?_|refine aC ?_))
 refine WO.cn rfl ?_
 refine (uX E (n:=n) h0 ((he.same bM).up (show nx≤nx + 1 by omega)) ((hr.same bM).up (by omega)) cj).of ?_
 rintro _ H1 aT ⟨a7,cD,b,c,us,rfl,hc,hu⟩
 have bp:=bM.trans a7 (by omega)
 have b1:=a7.rd (by omega) b0
 repeat' (first|((first|refine WO.n rfl ?_|refine WO.k rfl ?_);(first|refine aK ?_|refine w6 ?_|refine dD ?_|refine aJ ?_))|with_reducible (first|refine WO.nil ?_|refine WC.drawn ?_|refine WC.seq ?_|refine aC ?_))
 refine WO.ca rfl ?_
 refine (DS E ((he.same bp).up (show nx≤aT by omega)) (by omega) LX).of ?_
 rintro v2 H2 nx2 ⟨bL,eW,ed2⟩
 have b2:=bL.rd (by omega) b1
 refine ⟨a6.look rfl b2 rfl rfl (by simp [jK,ey]) .nil,?_⟩
 obtain ⟨va,vc,rfl⟩:=ed2.form
 repeat' (first|((first|refine WO.n rfl ?_|refine WO.k rfl ?_);(first|refine aK ?_|refine jN ?_|refine r9 ?_))|with_reducible (first|refine WO.nil ?_|refine WC.ret ?_|refine aC ?_|refine kf ?_))
 have HW:=hu.same bL eW
 have hub:=HW.h1
 have aa2:=hu.h2
 obtain ⟨eb,ec2,Lo,T5,he3,he4,he5⟩:=id ed2
 refine az (vs:=[_]) rfl ⟨(bp.trans bL (by omega)).set (by omega),by omega,nx2,_,b,c,us,rfl,by omega,by omega,aq,hc,(ed2.frame (fun d h1 h2=>by rw [ai,if_neg (by omega)]) (by omega)).low (by omega),(HW.frame (fun d h1 h2=>by rw [ai,if_neg (by omega)]) (by omega)).low (by omega),hu.off (fun d hd=>?_),(fun d hd=>by cases hd),by omega,fun d hd=>?_,fun i u hi=>?_⟩
 ·rw [Lo] at hd;cases hd;exact .inr he3
 ·rw [Lo] at hd;cases hd;omega
 ·exact (HW.off (ev:=.slice (some ⟨nx2,0,some 1⟩) 0 0) (fun d hd=>by cases hd;exact .inr (Nat.le_refl _)) _ rfl).2 i u hi
theorem u3 (E:fG A) {v db:Nat} {n e ev rv:Value} {r:List (List Int)} (hd:ak H (at_ db)=some (.cells [n,ev,rv,e])) (hdn:db < nx) (hr:eY H nx 1 bq rv r) (cj:b8 r) (hv:v < r.length) :
  WF A 31 [.pointer (some ⟨db,0,none⟩),.int .i64 (v:Int)] H nx fun x H' nx'=>an H H' nx∧nx≤nx'∧x=.agg #[.int .i64 (v:Int),.int .i64 (cg (r.getD v []))]:=by
 obtain ⟨rb,rc,rfl⟩:=hr.form
 have zq:=cj.1
 have j3:r.getD v []=r[v]:=by rw [List.getD_eq_getElem?_getD,List.getElem?_eq_getElem hv];rfl
 have y4:=cj.row v
 refine WF.enter (E.h rfl _ _ _) E.Kq ?_
 obtain ⟨bb,bo,uA,ib,ic,rfl,je,jJ,bC,hi⟩:=hr.at hv
 rw [← j3] at bC hi
 have Td:=Rd.own hd
 generalize hg:r.getD v []=l at *
 repeat' (first|((first|refine WO.n rfl ?_|refine WO.k rfl ?_);(first|refine dD ?_|refine cM ?_|refine sE ?_|refine r9 ?_|refine aJ ?_|refine bu ?_|refine aZ ?_|refine fL ?_|(refine LQ (fun h=>?_) (fun h=>?_)<;>(try simp only [Int.ofNat_eq_natCast] at h))|refine jC ?_))|with_reducible (first|refine WO.nil ?_|refine WC.aa ?_|refine WC.seq ?_|refine WC.skip ?_|refine WC.ret ?_)|refine WC.aB rfl ?_|refine WC.ax rfl ?_|with_reducible refine aC ?_)
 ·have cy:l≠[]:=fun e=>by subst e;simp at *
  obtain ⟨x,t,rfl⟩:=List.exists_cons_of_ne_nil cy
  obtain ⟨lb,lo,lcs,rfl,XJ,_,_,RW,LP⟩:=hi.at (by simp)
  have q0:=ft (v:=.int .i64 x) (LP 0 x rfl)
  have qo:0 < (x::t).length:=by simp
  repeat' (first|(refine WO.n rfl ?_;(first|refine dD ?_|refine aJ ?_|refine bu ?_|refine aZ ?_|refine fj ?_|refine fL ?_))|with_reducible (first|refine WO.nil ?_|refine WC.aa ?_|refine WC.seq ?_|refine WC.ret ?_|refine aC ?_))
  refine iz rfl aq rfl ⟨?_,by omega,rfl⟩
  exact (((an.refl.set (Nat.le_refl _)).set (by omega)).set (by omega)).set (by omega) |>.set (by omega)
 ·have h0:l=[]:=List.eq_nil_of_length_eq_zero (by omega)
  subst h0
  refine iz rfl aq rfl ⟨?_,by omega,rfl⟩
  exact (((an.refl.set (Nat.le_refl _)).set (by omega)).set (by omega)).set (by omega)
end Go.Eng

namespace Go.Eng
variable {A:aG} {H H':Heap} {nx nx':Nat} {σ:aP} {L:List Value} {Q:ct}
set_option maxRecDepth 100000
theorem Ho (E:fG A) {db rn rc:Nat} {rb:Option Addr} {m:Int} {k:Nat} {base:Option Addr} {ec:Nat} (hd:ak H (at_ db)=some (.cells [.int .i64 m,.slice base k ec,.slice rb rn rc,.int .i64 0])) (hdn:db < nx) :
  WF A 33 [.pointer (some ⟨db,0,none⟩)] H nx fun x H' nx'=>an H H' nx∧nx≤nx'∧x=oneOf [.agg #[.int .i64 m,.slice base k ec],.slice rb rn rc,.int .i64 0]:=by
 refine WF.enter (E.h rfl _ _ _) E.OM ?_
 have Td:=Rd.own hd
 repeat' (first|((first|refine WO.n rfl ?_|refine WO.k rfl ?_);(first|refine aK ?_|refine dD ?_|refine sE ?_|refine r9 ?_|refine aJ ?_|(refine om (fun h=>?_) (fun h=>?_)<;>(try simp only [Int.ofNat_eq_natCast] at h))|refine jC ?_))|with_reducible (first|refine WO.nil ?_|refine WC.aa ?_|refine WC.drawn ?_|refine WC.seq ?_|refine WC.skip ?_)|refine WC.aB rfl ?_|refine WC.ax rfl ?_|with_reducible refine aC ?_)
 ·omega
 refine WO.na rfl ?_
 refine aH.of (Act.UL rfl rfl rfl (by omega) rfl aq (by decide)) ?_
 refine ⟨a6.look rfl (Rd.skip (by omega) (Rd.skip (by omega) Td)) rfl rfl gn .nil,?_⟩
 repeat' (first|(refine WO.k rfl ?_;refine aK ?_)|with_reducible (first|refine WO.nil ?_|refine WC.ret ?_|refine aC ?_|refine kf ?_))
 exact ji rfl aq rfl rfl rfl ⟨(an.refl.set (Nat.le_refl _)).set (Nat.le_refl _),by omega,rfl⟩
theorem Hp (E:fG A) {db m v w:Nat} {n:Int} {ev rv:Value} {es:List Ed} {r:List (List Int)} (hd:ak H (at_ db)=some (.cells [.int .i64 n,ev,rv,.int .i64 0])) (hdn:db < nx) (h0:aQ n es r=0) (fB:n=(m:Int)) (he:bS H nx 2 a5 ev es) (hr:eY H nx 1 bq rv r) (hv:v < m) (hw:w < m) (RK:¬Reach es v w) (dP:es.length < 3072) :
  WF A 30 [.pointer (some ⟨db,0,none⟩),.agg #[.int .i64 (v:Int),.int .i64 (cg (r.getD v []))],.agg #[.int .i64 (w:Int),.int .i64 (cg (r.getD w []))]] H nx fun x H' nx'=>x=.bool true∧nx≤nx'∧(∀d,d < nx→d≠db→ak H' (at_ d)=ak H (at_ d))∧∃pR b c us,ak H' (at_ db)=some (.cells [.int .i64 n,pR,.slice (some ⟨b,0,some 1⟩) r.length c,.int .i64 0])∧r.length≤au c∧BO H' nx nx' pR (es++[((v:Int),(w:Int))])∧dR H' nx nx' b us (uT es.length r v w)∧RD b us pR:=by
 obtain ⟨base,ec,rfl⟩:=he.form
 obtain ⟨rb,rc,rfl⟩:=hr.form
 refine WF.enter (E.h rfl _ _ _) E.OL ?_
 have Td:=Rd.own hd
 generalize pX:cg (r.getD v [])=fv
 generalize L2:cg (r.getD w [])=fw
 have bM:an H (aw (aw H nx [.int .i64 (v:Int),.int .i64 fv]) (nx + 1) [.int .i64 (w:Int),.int .i64 fw]) nx:=(an.refl.set (Nat.le_refl _)).set (by omega)
 repeat' (first|((first|refine WO.n rfl ?_|refine WO.k rfl ?_);(first|refine aK ?_|refine dD ?_|refine jN ?_|refine aJ ?_|refine jC ?_))|with_reducible (first|refine WO.nil ?_|refine WC.aa ?_|refine WC.drawn ?_|refine WC.seq ?_|refine aC ?_))
 have Q5:=Lp E (n:=n) (v:=v) (w:=w) h0 fB ((he.same bM).up (show nx≤nx + 1 + 1 by omega)) ((hr.same bM).up (by omega)) hv hw RK dP
 rw [pX,L2] at Q5
 refine WO.cn rfl ?_
 refine Q5.of ?_
 rintro _ H1 aT ⟨a7,cD,ev1,b,c,us,rfl,hc,ed1,mJ,ik⟩
 clear Q5
 have MX:ak H1 (at_ db)=some (.cells [.int .i64 n,.slice base es.length ec,.slice rb r.length rc,.int .i64 0]):=(a7 db (by omega)).trans ((bM db hdn).trans hd)
 have bp:=bM.trans a7 (by omega)
 obtain ⟨va,vc,rfl⟩:=ed1.form
 repeat' (first|((first|refine WO.n rfl ?_|refine WO.k rfl ?_);(first|refine aK ?_|refine w6 ?_|refine dD ?_|refine sE ?_|refine aJ ?_|refine fj ?_|refine fL ?_|(refine om (fun h=>?_) (fun h=>?_)<;>(try simp only [Int.ofNat_eq_natCast] at h))|refine jC ?_))|with_reducible (first|refine WO.nil ?_|refine WC.aa ?_|refine WC.seq ?_|refine WC.skip ?_|refine WC.ret ?_)|refine WC.aB rfl ?_|refine WC.ax rfl ?_|with_reducible (first|refine aC ?_|refine gM ?_|refine kf ?_))
 ·omega
 refine WO.n rfl ?_
 refine aH.of (Act.P6 rfl rfl rfl rfl aq (by show 2 < 4;omega)) ?_
 repeat' (first|(refine WO.k rfl ?_;refine aK ?_)|with_reducible (first|refine WO.nil ?_|refine WC.aa ?_|refine WC.seq ?_|refine WC.ret ?_|refine aC ?_))
 refine az (vs:=[_]) rfl ⟨rfl,by omega,fun d hd cy=>?_,_,b,c,us,aq,hc,(ed1.frame (fun d h1 h2=>?_) (by omega)).low (by omega),(mJ.frame (fun d h1 h2=>?_) (by omega)).low (by omega),ik⟩
 ·rw [ai,if_neg cy,ai,if_neg cy,ai,if_neg (by omega),ai,if_neg (by omega)]
  exact bp d hd
 ·rw [ai,if_neg (by omega),ai,if_neg (by omega),ai,if_neg (by omega),ai,if_neg (by omega)]
 ·rw [ai,if_neg (by omega),ai,if_neg (by omega),ai,if_neg (by omega),ai,if_neg (by omega)]
end Go.Eng

namespace Go.Eng
variable {A:aG} {H H':Heap} {nx nx':Nat} {σ:aP} {L:List Value} {Q:ct}
set_option maxRecDepth 100000
def R7 (m lo nx3 db:Nat) (H3:Heap) (c:List Int) (es:List Ed) (r:List (List Int)) (k:Nat) (H':Heap) (nx':Nat):Prop:=
 k≤aE es m - 1∧nx3≤nx'∧(∀d,d < nx3→d≠db→ak H' (at_ d)=ak H3 (at_ d))∧∃ev b cc us,ak H' (at_ db)=some (.cells [.int .i64 (m:Int),ev,.slice (some ⟨b,0,some 1⟩) r.length cc,.int .i64 0])∧r.length≤au cc∧BO H' lo nx' ev (iI c es k)∧dR H' lo nx' b us (lK c es r k)∧RD b us ev
theorem WD (E:fG A) {m lo nx3 db pb pc q:Nat} {H3:Heap} {c:List Int} {es:List Ed} {r:List (List Int)} (h0:aQ (m:Int) es r=0) (mP:ln es m m c) (dP:es.length + aE es m < 3072) (Ox:m≤au pc) (lX:pb < nx3) (hpd:pb≠db) (hdb:db < nx3) (pW:lo≤nx3) (iP:ay H3 pb c) (hF:R7 m lo nx3 db H3 c es r 0 H nx)
  (aN:∀σ H' nx',bg [(S4,.pointer (some ⟨q,0,none⟩)),(S8,.pointer (some ⟨db,0,none⟩))] σ→R7 m lo nx3 db H3 c es r (aE es m - 1) H' nx'→Q (.exit 0) σ H' nx') :
  WC A (.loop Dc) [(S4,.pointer (some ⟨q,0,none⟩)),(S8,.pointer (some ⟨db,0,none⟩)),(S9,.slice (some ⟨pb,0,some 1⟩) m pc),(dN,.int .i64 ((aE es m:Nat):Int)),(iU,.int .i64 1)] H nx Q:=by
 obtain ⟨hm,hl,_⟩:=dU h0
 have zt:=hm.2.1
 have hle:=ed (es:=es) (k:=m)
 refine WC.loop (α:=Nat) (fun k=>[(S4,.pointer (some ⟨q,0,none⟩)),(S8,.pointer (some ⟨db,0,none⟩)),(S9,.slice (some ⟨pb,0,some 1⟩) m pc),(dN,.int .i64 ((aE es m:Nat):Int)),(iU,.int .i64 ((k + 1:Nat):Int))])
  (fun k H' nx'=>R7 m lo nx3 db H3 c es r k H' nx') (fun k=>aE es m - k)
  ?_ 0 aW hF
 rintro k H1 aT Pc
 obtain ⟨hk,cD,iR,ev,b,cc,us,hd,ss,xk,hu,ik⟩:=id Pc
 unfold Dc
 repeat' (first|(refine WO.k rfl ?_;(refine ei (fun h=>?_) (fun h=>?_)<;>(try simp only [Int.ofNat_eq_natCast] at h)))|with_reducible (first|refine WO.nil ?_|refine WC.aa ?_|refine WC.seq ?_|refine WC.skip ?_|refine WC.exit ?_|refine WC.block ?_)|refine WC.aB rfl ?_|refine WC.ax rfl ?_|with_reducible (first|refine aC ?_|refine dQ ?_))
 ·have R8:k + 1 < aE es m:=by omega
  have R9:=DQ h0 rfl mP dP (show k < aE es m by omega)
  have tD:=mQ hm rfl mP R8
  have z0:c[0]?=some 0:=mP.old (w:=0) (r:=0) (by omega) (by omega) Old.zero .here
  obtain ⟨w1,w2⟩:=hY tD
  rw [mP.len] at w1
  have hpt:ay H1 pb c:=(iR pb lX hpd).trans iP
  have si:=hpt.sle (nx:=aT) (c:=pc) (by omega) (by rw [mP.len];exact Ox)
  rw [mP.len] at si
  have zp:=hu.E7 (c:=cc) (by rw [ee];exact ss)
  rw [ee] at zp
  have cj:=eP R9.RA
  have ED:=ee c es r k
  refine WO.cn rfl ?_
  refine (jI E (x:=0) si (by rw [mP.len];omega)).of ?_
  rintro _ Ha na ⟨e1,e2,⟨i,rfl,zu,KP⟩|⟨_,iQ⟩⟩
  rotate_left 1
  ·exact absurd (List.mem_of_getElem? z0) iQ
  rw [e1,e2]
  have HN:i=0:=by
   rcases Nat.eq_zero_or_pos i with h|h
   ·exact h
   ·exact absurd z0 (KP 0 h)
  subst HN
  refine WO.cn rfl ?_
  refine (u3 E (v:=0) hd (by omega) zp cj (by rw [ED];omega)).of ?_
  rintro _ H2 nx2 ⟨bL,eW,rfl⟩
  refine WO.cn rfl ?_
  refine (jI E (x:=((k + 1:Nat):Int)) ((si.same bL).up eW) (by rw [mP.len];omega)).of ?_
  rintro _ Hb nb ⟨e3,e4,⟨j,rfl,VI,hj2⟩|⟨_,iQ⟩⟩
  rotate_left 1
  ·exact absurd tD iQ
  rw [e3,e4]
  have hjw:fg c (k + 1)=j:=xy VI hj2
  subst hjw
  have y9:=(bL db (by omega)).trans hd
  refine WO.cn rfl ?_
  refine (u3 E (v:=fg c (k + 1)) y9 (by omega) ((zp.same bL).up eW) cj (by rw [ED];omega)).of ?_
  rintro _ H4 fZ ⟨lU,xl,rfl⟩
  have Te:=(lU db (by omega)).trans y9
  have qX:an H1 H4 aT:=bL.trans lU eW
  refine WO.cn rfl ?_
  refine (Hp E (m:=m) (v:=0) (w:=fg c (k + 1)) Te (by omega) R9.RA rfl ((xk.sle.same qX).up (by omega)) ((zp.same qX).up (by omega)) (by omega) w1 (R9.apart z0 tD) (by rw [jh];omega)).of ?_
  rintro _ H5 xz ⟨rfl,O6,WE,XP,b5,XQ,us5,hd5,Ly,BS,hu5,WG⟩
  rw [ED] at hd5 Ly
  repeat' (first|((first|refine WO.n rfl ?_|refine WO.k rfl ?_);(first|refine aK ?_|refine pA ?_|refine bO ?_))|with_reducible (first|refine WO.nil ?_|refine WC.aa ?_|refine WC.skip ?_)|refine WC.ax rfl ?_|with_reducible (first|refine aC ?_|refine eT ?_))
  exact ⟨k + 1,by omega,aW,by omega,by omega,fun d h1 h2=>(WE d (by omega) h2).trans ((qX d (by omega)).trans (iR d h1 h2)),XP,b5,XQ,us5,hd5,Ly,BS.low (by omega),hu5.low (by omega),WG⟩
 ·have R8:k=aE es m - 1:=by omega
  rw [R8] at Pc
  exact aN _ _ _ aW Pc
theorem xD (E:fG A) {n:Int} {ev rv:Value} {es:List Ed} {r:List (List Int)} (he:bS H nx 2 a5 ev es) (hr:eY H nx 1 bq rv r) (cj:b8 r) (LX:∀k c,ev≠.slice none k c) (dP:aQ n es r=0→es.length + aE es n.toNat < 3072) :
  WF A 9 [.agg #[.int .i64 n,ev],rv] H nx fun x H' nx'=>an H H' nx∧nx≤nx'∧(cK n es r≠0→x=oneOf [.agg #[.int .i64 0,.slice none 0 0],.slice none 0 0,.int .i64 (cK n es r)])∧
   (cK n es r=0→∃c pR b cc us,ln es n.toNat n.toNat c∧x=oneOf [.agg #[.int .i64 n,pR],.slice (some ⟨b,0,some 1⟩) r.length cc,.int .i64 0]∧r.length≤au cc∧BO H' nx nx' pR (iI c es (aE es n.toNat - 1))∧dR H' nx nx' b us (lK c es r (aE es n.toNat - 1))∧RD b us pR):=by
 obtain ⟨base,ec,rfl⟩:=he.form
 obtain ⟨rb,rc,rfl⟩:=hr.form
 refine WF.enter (E.h rfl _ _ _) E.OJ ?_
 have bM:an H (aw (aw H nx [.int .i64 n,.slice base es.length ec]) (nx + 1) [.int .i64 0,.slice none 0 0]) nx:=(an.refl.set (Nat.le_refl _)).set (by omega)
 have b0:Rd (aw (aw H nx [.int .i64 n,.slice base es.length ec]) (nx + 1) [.int .i64 0,.slice none 0 0]) nx [.int .i64 n,.slice base es.length ec]:=Rd.skip (by omega) Rd.self
 have t0:ak (aw (aw H nx [.int .i64 n,.slice base es.length ec]) (nx + 1) [.int .i64 0,.slice none 0 0]) (at_ (nx + 1))=some (.cells [.int .i64 0,.slice none 0 0]):=aq
 repeat' (first|((first|refine WO.n rfl ?_|refine WO.k rfl ?_);(first|refine aK ?_|refine jN ?_|refine sE ?_|refine aJ ?_))|with_reducible (first|refine WO.nil ?_|refine WC.aa ?_|refine WC.seq ?_|refine aC ?_))
 refine WO.cn rfl ?_
 refine (zb E (n:=n) ((he.same bM).up (show nx≤nx + 1 + 1 by omega)) ((hr.same bM).up (by omega)) cj).of ?_
 rintro _ H1 aT ⟨rfl,a7,cD⟩
 have bp:=bM.trans a7 (by omega)
 have b1:=a7.rd (by omega) b0
 have t1:=(a7 (nx + 1) (by omega)).trans t0
 by_cases hp:cK n es r=0
 rotate_left 1
 ·generalize cK n es r=e at *
  repeat' (first|((first|refine WO.n rfl ?_|refine WO.k rfl ?_);(first|refine aK ?_|refine r9 ?_|refine aJ ?_|refine fL ?_|(refine om (fun h=>?_) (fun h=>?_)<;>(try simp only [Int.ofNat_eq_natCast] at h))))|with_reducible (first|refine WO.nil ?_|refine WC.aa ?_|refine WC.seq ?_|refine WC.skip ?_|refine WC.ret ?_)|refine WC.aB rfl ?_|refine WC.ax rfl ?_|with_reducible (first|refine aC ?_|refine gM ?_))
  ·exact ji rfl aq rfl rfl rfl ⟨bp.set (by omega),by omega,fun _=>rfl,fun h=>absurd h hp⟩
  ·exfalso;omega
 rw [hp]
 have h0:aQ n es r=0:=by
  apply Classical.byContradiction
  intro h
  unfold cK at hp
  rw [if_neg h] at hp
  exact h hp
 have hm:=(dU h0).1
 obtain ⟨m,rfl⟩:=Int.eq_ofNat_of_zero_le hm.1
 have Hq:=dP h0
 rw [Int.toNat_natCast] at Hq ⊢
 repeat' (first|((first|refine WO.n rfl ?_|refine WO.k rfl ?_);(first|refine aK ?_|refine r9 ?_|refine aJ ?_|refine fL ?_|(refine om (fun h=>?_) (fun h=>?_)<;>(try simp only [Int.ofNat_eq_natCast] at h))))|with_reducible (first|refine WO.nil ?_|refine WC.aa ?_|refine WC.seq ?_|refine WC.skip ?_|refine WC.ret ?_)|refine WC.aB rfl ?_|refine WC.ax rfl ?_|with_reducible (first|refine aC ?_|refine gM ?_))
 ·omega
 refine WO.cn rfl ?_
 refine (Lx E h0 ((he.same bp).up (show nx≤aT by omega)) ((hr.same bp).up (by omega)) LX).of ?_
 rintro _ H2 nx2 ⟨bL,eW,db,ev2,b,cc,us,rfl,aca,acb,y9,ss,abd,HW,WH,_,_,_,_⟩
 have df:=bp.trans bL (by omega)
 have b2:=bL.rd (by omega) b1
 have t2:=(bL (nx + 1) (by omega)).trans t1
 repeat' (first|((first|refine WO.n rfl ?_|refine WO.k rfl ?_);(first|refine aK ?_|refine aJ ?_))|with_reducible (first|refine WO.nil ?_|refine WC.aa ?_|refine WC.seq ?_|refine aC ?_))
 refine WO.cn rfl ?_
 refine (E.Lj (n:=(m:Int)) hm rfl ((he.same df).up (show nx≤nx2 by omega))).of ?_
 rintro _ H3 nx3 ⟨pb,pc,c,rfl,Ox,LO,B3,iP,mP,fH,mG⟩
 have lk:=df.trans fH (by omega)
 have t3:=(fH (nx + 1) (by omega)).trans t2
 repeat' (first|((first|refine WO.n rfl ?_|refine WO.k rfl ?_);(first|refine aK ?_|refine w6 ?_))|with_reducible (first|refine WO.nil ?_|refine WC.aa ?_|refine WC.seq ?_|refine WC.block ?_|refine aC ?_))
 refine WC.sub (σ':=_) aW (WD E (lo:=aT) (nx3:=nx3) (db:=db) (H3:=H3) (q:=nx + 1) h0 mP Hq Ox B3 (by omega) (by omega) (by omega) iP ⟨Nat.zero_le _,Nat.le_refl _,fun _ _ _=>rfl,ev2,b,cc,us,(fH db (by omega)).trans y9,ss,abd.frame (fun d _ hd=>fH d hd) mG,HW.same fH mG,WH⟩ (fun σ H4 fZ hσ hF=>?_))
 refine eh (aC (WC.sub hσ ?_))
 obtain ⟨_,xl,NK,ev4,b4,XR,us4,Te,NN,za,XS,WI⟩:=hF
 obtain ⟨va,vc,rfl⟩:=za.form
 have t4:=(NK (nx + 1) (by omega) (by omega)).trans t3
 repeat' (first|with_reducible (first|refine WC.aa ?_|refine WC.seq ?_))
 refine WO.cn rfl ?_
 refine (Ho E Te (by omega)).of ?_
 rintro _ H5 xz ⟨xA,O6,rfl⟩
 have t5:=(xA (nx + 1) (by omega)).trans t4
 repeat' (first|((first|refine WO.n rfl ?_|refine WO.k rfl ?_);(first|refine aK ?_|refine w6 ?_|refine fL ?_))|with_reducible (first|refine WO.nil ?_|refine WC.ret ?_|refine aC ?_))
 refine ji rfl aq rfl rfl rfl ⟨fun d hd=>?_,by omega,fun h=>absurd rfl h,fun _=>⟨c,_,b4,XR,us4,mP,rfl,NN,(za.frame (fun d h1 h2=>?_) (by omega)).low (by omega),(XS.frame (fun d h1 h2=>?_) (by omega)).low (by omega),WI⟩⟩
 ·rw [ai,if_neg (by omega),xA d (by omega),NK d (by omega) (by omega)]
  exact lk d hd
 ·rw [ai,if_neg (by omega)];exact xA d h2
 ·rw [ai,if_neg (by omega)];exact xA d h2
end Go.Eng

namespace Go.Eng
variable {A:aG} {H H':Heap} {nx nx':Nat} {σ:aP} {L:List Value} {Q:ct}
set_option maxRecDepth 100000
theorem Sa {m pb pc k:Nat} {v2 v4 v9 v10 v8:Value} {c:List Int} (hl:c.length=m) (hm:m≤1024) (hp:Rd H pb (c.map (.int .i64))) (hk:((k:Nat):Int)∈c)
  (aN:∀σ,bg [(S4,v4),(S7,.slice (some ⟨pb,0,some 1⟩) m pc),(S8,v8),(S9,v9),(dN,v10),(fE,.int .i64 (k:Int)),(iU,.int .i64 ((fg c k:Nat):Int))] σ→Q (.exit 2) σ H nx) :
  WC A (.loop yC) [(S4,v4),(S7,.slice (some ⟨pb,0,some 1⟩) m pc),(S8,v8),(S9,v9),(dN,v10),(fE,.int .i64 (k:Int)),(iU,.int .i64 0)] H nx Q:=by
 obtain ⟨w1,w2⟩:=hY hk
 refine WC.loop (α:=Nat) (fun j=>[(S4,v4),(S7,.slice (some ⟨pb,0,some 1⟩) m pc),(S8,v8),(S9,v9),(dN,v10),(fE,.int .i64 (k:Int)),(iU,.int .i64 ((j:Nat):Int))])
  (fun j H' nx'=>j≤fg c k∧H'=H∧nx'=nx∧∀i,i < j→c[i]?≠some (k:Int)) (fun j=>m - j)
  ?_ 0 aW ⟨Nat.zero_le _,rfl,rfl,fun i hi=>by omega⟩
 rintro j H1 aT ⟨hj,e1,e2,iQ⟩
 rw [e1,e2]
 have ED:j < c.length:=by omega
 have L4:=List.getElem?_eq_getElem ED
 generalize c[j]=x at L4
 have AQ:=ay.cell L4
 unfold yC
 repeat' (first|((first|refine WO.n rfl ?_|refine WO.k rfl ?_);(first|refine aK ?_|refine bu ?_|refine aZ ?_|(refine om (fun h=>?_) (fun h=>?_)<;>(try simp only [Int.ofNat_eq_natCast] at h))|refine bO ?_))|with_reducible (first|refine WO.nil ?_|refine WC.aa ?_|refine WC.seq ?_|refine WC.skip ?_|refine WC.exit ?_|refine WC.block ?_)|refine WC.aB rfl ?_|refine WC.ax rfl ?_|with_reducible (first|refine aC ?_|refine dQ ?_|refine eT ?_))
 ·have XT:x≠(k:Int):=by assumption
  have hjn:j≠fg c k:=fun e=>by
   rw [e,w2] at L4
   cases L4
   exact XT rfl
  refine ⟨j + 1,by omega,aW,by omega,rfl,rfl,fun i hi he=>?_⟩
  rcases (show i < j∨i=j by omega) with h1|rfl
  ·exact iQ i h1 he
  ·rw [L4] at he;cases he;exact XT rfl
 ·have XT:x=(k:Int):=by omega
  have hjw:fg c k=j:=xy (by rw [L4,XT]) iQ
  rw [hjw] at aN
  exact aN _ aW
def LA (m lo0 nx3 tb:Nat) (H3:Heap) (c:List Int) (es:List Ed) (r:List (List Int)) (k:Nat) (rv:Value) (H':Heap) (nx':Nat):Prop:=
 k≤aE es m - 1∧nx3≤nx'∧(∀d,d < nx3→d≠tb→ak H' (at_ d)=ak H3 (at_ d))∧∃ev b cc us lo hi,rv=.slice (some ⟨b,0,some 1⟩) r.length cc∧r.length≤au cc∧ak H' (at_ tb)=some (.cells [.int .i64 (m:Int),ev])∧bS H' nx' 2 a5 ev (iI c es k)∧(∀d,bj ev=some d→d≠tb)∧dR H' lo hi b us (lK c es r k)∧hi≤nx'∧lo0≤lo
theorem Sb (E:fG A) {m lo0 nx3 pb pc q tb:Nat} {H3:Heap} {c:List Int} {es:List Ed} {r:List (List Int)} {rv0:Value} (h0:aQ (m:Int) es r=0) (mP:ln es m m c) (dP:es.length + aE es m < 3072) (lX:pb < nx3) (hpd:pb≠tb) (htb:tb < nx3) (acd:lo0≤nx3) (iP:ay H3 pb c) (hF:LA m lo0 nx3 tb H3 c es r 0 rv0 H nx)
  (aN:∀σ H' nx' rv,bg [(S4,.pointer (some ⟨q,0,none⟩)),(S9,.pointer (some ⟨tb,0,none⟩)),(dN,rv)] σ→LA m lo0 nx3 tb H3 c es r (aE es m - 1) rv H' nx'→Q (.exit 0) σ H' nx') :
  WC A (.loop yD) [(S4,.pointer (some ⟨q,0,none⟩)),(S7,.slice (some ⟨pb,0,some 1⟩) m pc),(S8,.int .i64 ((aE es m:Nat):Int)),(S9,.pointer (some ⟨tb,0,none⟩)),(dN,rv0),(fE,.int .i64 1)] H nx Q:=by
 obtain ⟨hm,hl,_⟩:=dU h0
 have zt:=hm.2.1
 have hle:=ed (es:=es) (k:=m)
 refine WC.loop (α:=Nat×Value) (fun k=>[(S4,.pointer (some ⟨q,0,none⟩)),(S7,.slice (some ⟨pb,0,some 1⟩) m pc),(S8,.int .i64 ((aE es m:Nat):Int)),(S9,.pointer (some ⟨tb,0,none⟩)),(dN,k.2),(fE,.int .i64 ((k.1 + 1:Nat):Int))])
  (fun k H' nx'=>LA m lo0 nx3 tb H3 c es r k.1 k.2 H' nx') (fun k=>aE es m - k.1)
  ?_ (0,rv0) aW hF
 rintro ⟨k,rv⟩ H1 aT Pc
 simp only at Pc ⊢
 obtain ⟨hk,cD,iR,ev,b,cc,us,lo,hi,rfl,ss,hd,xk,R1,hu,zO,pW⟩:=id Pc
 unfold yD
 repeat' (first|(refine WO.k rfl ?_;(first|refine aK ?_|(refine ei (fun h=>?_) (fun h=>?_)<;>(try simp only [Int.ofNat_eq_natCast] at h))))|with_reducible (first|refine WO.nil ?_|refine WC.aa ?_|refine WC.seq ?_|refine WC.skip ?_|refine WC.exit ?_|refine WC.block ?_)|refine WC.aB rfl ?_|refine WC.ax rfl ?_|with_reducible (first|refine aC ?_|refine dQ ?_))
 ·have R8:k + 1 < aE es m:=by omega
  have R9:=DQ h0 rfl mP dP (show k < aE es m by omega)
  have tD:=mQ hm rfl mP R8
  have z0:c[0]?=some 0:=mP.old (w:=0) (r:=0) (by omega) (by omega) Old.zero .here
  obtain ⟨w1,w2⟩:=hY tD
  rw [mP.len] at w1
  have hpt:ay H1 pb c:=(iR pb lX hpd).trans iP
  have zp:=(hu.E7 (c:=cc) (by rw [ee];exact ss)).up zO
  rw [ee] at zp
  have cj:=eP R9.RA
  have ED:=ee c es r k
  obtain ⟨eb,ec,rfl⟩:=xk.form
  refine WC.sub (σ':=_) aW (Sa (m:=m) (k:=k + 1) (v4:=.pointer (some ⟨q,0,none⟩)) (v8:=.int .i64 ((aE es m:Nat):Int)) (v9:=.pointer (some ⟨tb,0,none⟩)) (v10:=.slice (some ⟨b,0,some 1⟩) r.length cc) (v2:=.int .i64 0) mP.len (by omega) (Rd.own hpt) tD (fun σ hσ=>?_))
  refine eh (aC (WC.sub hσ ?_))
  have Td:=Rd.own hd
  repeat' (first|(refine WO.n rfl ?_;refine aJ ?_)|with_reducible (first|refine WC.drawn ?_|refine WC.seq ?_))
  refine WO.ca rfl ?_
  refine (pT E (v:=0) zp cj (by rw [ED];omega)).of ?_
  rintro _ H2 nx2 ⟨bL,eW,rfl⟩
  have y9:=bL.rd (by omega) Td
  refine ⟨a6.look rfl y9 rfl rfl sR .nil,?_⟩
  refine WO.ca rfl ?_
  refine (pT E (v:=fg c (k + 1)) ((zp.same bL).up eW) cj (by rw [ED];omega)).of ?_
  rintro _ H4 fZ ⟨lU,xl,rfl⟩
  have Te:=lU.rd (by omega) y9
  refine ⟨a6.look rfl Te rfl rfl sR .nil,?_⟩
  have qX:an H1 H4 aT:=bL.trans lU eW
  refine WO.cn rfl ?_
  refine (Hm E (m:=m) (v:=0) (w:=fg c (k + 1)) R9.RA rfl ((xk.same qX).up (by omega)) ((zp.same qX).up (by omega)) (by omega) w1 (R9.apart z0 tD) (by rw [jh];omega)).of ?_
  rintro _ H5 xz ⟨xA,O6,XP,b5,XQ,us5,rfl,Ly,BS,Pd,hu5⟩
  rw [ED] at Ly ⊢
  have hd5:ak H5 (at_ tb)=some (.cells [.int .i64 (m:Int),.slice eb (iI c es k).length ec]):=(xA tb (by omega)).trans ((qX tb (by omega)).trans hd)
  obtain ⟨ea,eac,rfl⟩:=BS.form
  repeat' (first|((first|refine WO.n rfl ?_|refine WO.k rfl ?_);(first|refine aK ?_|refine w6 ?_|refine sE ?_|refine r9 ?_|refine aJ ?_|refine fL ?_|(refine om (fun h=>?_) (fun h=>?_)<;>(try simp only [Int.ofNat_eq_natCast] at h))|refine bO ?_))|with_reducible (first|refine WO.nil ?_|refine WC.aa ?_|refine WC.seq ?_|refine WC.skip ?_)|refine WC.aB rfl ?_|refine WC.ax rfl ?_|with_reducible (first|refine aC ?_|refine eT ?_|refine kf ?_))
  ·omega
  refine ⟨(k + 1,.slice (some ⟨b5,0,some 1⟩) r.length XQ),by show aE es m - (k + 1) < aE es m - k;omega,aW,by show k + 1≤_;omega,by omega,fun d h1 h2=>?_,_,b5,XQ,us5,fZ,xz,rfl,Ly,aq,?_,fun d hd=>?_,hu5.frame (fun d h1 h2=>?_) (Nat.le_refl _),by omega,by omega⟩
  ·rw [ai,if_neg h2,ai,if_neg (by omega),ai,if_neg (by omega)]
   exact (xA d (by omega)).trans ((qX d (by omega)).trans (iR d h1 h2))
  ·exact BS.blk (fun d hd cf=>by rw [ai,if_neg (by have:=Pd d hd;omega),ai,if_neg (by omega),ai,if_neg (by omega)]) (by omega)
  ·have:=Pd d hd
   omega
  ·rw [ai,if_neg (by omega),ai,if_neg (by omega),ai,if_neg (by omega)]
 ·have R8:k=aE es m - 1:=by omega
  rw [R8] at Pc
  exact aN _ _ _ _ aW Pc
theorem DV (E:fG A) {n:Int} {ev rv:Value} {es:List Ed} {r:List (List Int)} (h0:aQ n es r=0) (he:bS H nx 2 a5 ev es) (hr:eY H nx 1 bq rv r) (dP:es.length + aE es n.toNat < 3072) :
  WF A 13 [.agg #[.int .i64 n,ev],rv] H nx fun x H' nx'=>an H H' nx∧nx≤nx'∧
   ∃c pR rv',ln es n.toNat n.toNat c∧x=oneOf [.agg #[.int .i64 n,pR],rv',.int .i64 0]∧bS H' nx' 2 a5 pR (iI c es (aE es n.toNat - 1))∧eY H' nx' 1 bq rv' (lK c es r (aE es n.toNat - 1)):=by
 obtain ⟨base,ec,rfl⟩:=he.form
 obtain ⟨rb,rc,rfl⟩:=hr.form
 have cj:=eP h0
 have hm:=(dU h0).1
 have Q8:=hm.2.2.1
 obtain ⟨m,rfl⟩:=Int.eq_ofNat_of_zero_le hm.1
 rw [Int.toNat_natCast] at dP ⊢
 refine WF.enter (E.h rfl _ _ _) E.Kn ?_
 have bM:an H (aw (aw H nx [.int .i64 (m:Int),.slice base es.length ec]) (nx + 1) [.int .i64 0,.slice none 0 0]) nx:=(an.refl.set (Nat.le_refl _)).set (by omega)
 have b0:Rd (aw (aw H nx [.int .i64 (m:Int),.slice base es.length ec]) (nx + 1) [.int .i64 0,.slice none 0 0]) nx [.int .i64 (m:Int),.slice base es.length ec]:=Rd.skip (by omega) Rd.self
 have t0:ak (aw (aw H nx [.int .i64 (m:Int),.slice base es.length ec]) (nx + 1) [.int .i64 0,.slice none 0 0]) (at_ (nx + 1))=some (.cells [.int .i64 0,.slice none 0 0]):=aq
 repeat' (first|((first|refine WO.n rfl ?_|refine WO.k rfl ?_);(first|refine aK ?_|refine jN ?_|refine sE ?_|refine aJ ?_))|with_reducible (first|refine WO.nil ?_|refine WC.aa ?_|refine WC.seq ?_|refine aC ?_))
 refine WO.cn rfl ?_
 refine (E.Lk (n:=(m:Int)) hm rfl ((he.same bM).up (show nx≤nx + 1 + 1 by omega))).of ?_
 rintro _ H1 aT ⟨pb,pc,c,rfl,Ox,LO,B3,iP,mP,a7,cD⟩
 have bp:=bM.trans a7 (by omega)
 have b1:=a7.rd (by omega) b0
 have t1:=(a7 (nx + 1) (by omega)).trans t0
 repeat' (first|((first|refine WO.n rfl ?_|refine WO.k rfl ?_);(first|refine aK ?_|refine w6 ?_|refine aJ ?_))|with_reducible (first|refine WO.nil ?_|refine WC.drawn ?_|refine WC.seq ?_|refine aC ?_))
 refine WO.ca rfl ?_
 refine (rM E ((hr.same bp).up (show nx≤aT by omega)) cj).of ?_
 rintro _ H2 nx2 ⟨bL,eW,b,cc,us,rfl,ss,hu⟩
 have df:=bp.trans bL (by omega)
 have b2:=bL.rd (by omega) b1
 have t2:=(bL (nx + 1) (by omega)).trans t1
 refine ⟨a6.look rfl b2 rfl rfl sR .nil,?_⟩
 repeat' (first|((first|refine WO.n rfl ?_|refine WO.k rfl ?_);(first|refine aK ?_|refine sE ?_|refine fL ?_))|with_reducible (first|refine WO.nil ?_|refine WC.aa ?_|refine WC.seq ?_|refine WC.block ?_|refine aC ?_|refine kf ?_))
 have BU:an H2 (aw (aw H2 nx2 [.int .i64 0,.slice none 0 0]) nx2 [.int .i64 (m:Int),.slice base es.length ec]) nx2:=(an.refl.set (Nat.le_refl _)).set (Nat.le_refl _)
 refine WC.sub (σ':=_) aW (Sb E (lo0:=aT) (nx3:=nx2 + 1) (tb:=nx2) (q:=nx + 1) (H3:=aw (aw H2 nx2 [.int .i64 0,.slice none 0 0]) nx2 [.int .i64 (m:Int),.slice base es.length ec]) (rv0:=.slice (some ⟨b,0,some 1⟩) r.length cc) h0 mP dP (show pb < nx2 + 1 by omega) (by omega) (by omega) (by omega) ((BU pb (by omega)).trans ((bL pb B3).trans iP)) ⟨Nat.zero_le _,Nat.le_refl _,fun _ _ _=>rfl,_,b,cc,us,aT,nx2,rfl,ss,aq,(he.same (df.trans BU (by omega))).up (by omega),(fun d hd=>?_),hu.same BU (Nat.le_refl _),by omega,Nat.le_refl _⟩ (fun σ H4 fZ rv4 hσ hF=>?_))
 ·have:=pU he hd
  omega
 refine eh (aC (WC.sub hσ ?_))
 obtain ⟨_,xl,NK,ev4,b4,XR,us4,lo4,hi4,rfl,NN,Te,za,abt,XS,ace,acf⟩:=hF
 obtain ⟨va,vc,rfl⟩:=za.form
 have t4:=(NK (nx + 1) (by omega) (by omega)).trans ((BU (nx + 1) (by omega)).trans t2)
 repeat' (first|(refine WO.n rfl ?_;refine aJ ?_)|with_reducible (first|refine WC.aa ?_|refine WC.seq ?_))
 refine WO.cn rfl ?_
 refine (uY E (n:=(m:Int)) za (by rw [jh];have:=ed (es:=es) (k:=m);omega)).of ?_
 rintro _ H5 xz ⟨xA,O6,XP,rfl,hg5⟩
 have t5:=(xA (nx + 1) (by omega)).trans t4
 obtain ⟨v5,c5,rfl⟩:=(bA.sle hg5 (fun _=>rfl)).form
 have abe:=XS.E7 (c:=XR) (by rw [ee];exact NN)
 rw [ee] at abe
 repeat' (first|((first|refine WO.n rfl ?_|refine WO.k rfl ?_);(first|refine aK ?_|refine fL ?_))|with_reducible (first|refine WO.nil ?_|refine WC.ret ?_|refine aC ?_))
 refine ji rfl aq rfl rfl rfl ⟨fun d hd=>?_,by omega,c,_,_,mP,rfl,?_,?_⟩
 ·rw [ai,if_neg (by omega),xA d (by omega),NK d (by omega) (by omega)]
  exact (df.trans BU (by omega)) d hd
 ·exact ((bA.sle hg5 (fun _=>rfl)).blk (fun d hd _=>by
   have:fZ≤d:=by
    obtain ⟨_,⟨e1,_⟩|⟨g,e1,g1,_⟩⟩:=hg5
    ·rw [e1] at hd;cases hd
    ·rw [e1] at hd;cases hd;exact g1
   rw [ai,if_neg (by omega)]) (Nat.le_refl _))
 ·have hu6:=XS.frame (H':=aw H5 (nx + 1) [.int .i64 (m:Int),.slice v5 (iI c es (aE es m - 1)).length c5]) (fun d h1 h2=>by rw [ai,if_neg (by omega)];exact xA d (by omega)) (Nat.le_refl _)
  have:=(hu6.E7 (c:=XR) (by rw [ee];exact NN)).up (show hi4≤xz by omega)
  rw [ee] at this
  exact this
end Go.Eng

namespace Go.Eng
variable {A:aG} {H H':Heap} {nx nx':Nat} {σ:aP} {L:List Value} {Q:ct}
set_option maxRecDepth 100000
def total (bs:List (List Int)) (k:Nat):Nat:=((bs.take k).map List.length).foldl (· + ·) 0
theorem lz {bs:List (List Int)} {k:Nat} (hk:k < bs.length):total bs (k + 1)=total bs k + (bs.getD k []).length:=by
 have hg:bs.getD k []=bs[k]:=by rw [List.getD_eq_getElem?_getD,List.getElem?_eq_getElem hk];rfl
 unfold total
 rw [List.take_add_one,List.getElem?_eq_getElem hk,List.map_append,List.foldl_append,hg];rfl
theorem fG.WJ (E:fG A) {n:Int} {ev:Value} {es:List (Int×Int)} (he:bS H nx 2 a5 ev es) :
  WF A 24 [.agg #[.int .i64 n,ev]] H nx fun v H' nx'=>v=.bool (decide (jF n es))∧an H H' nx∧nx≤nx':=uu E.Nb (E.h rfl) he
def Sc (n:Int) (es:List Ed):Prop:=es.length≤300∧(n≤300∨¬jF n es)
def Tf (n:Int) (es:List Ed) (r:List (List Int)):Prop:=Sc n es∧n≤200∧r.length + total r r.length≤1000
def Hr (n:Int) (es:List Ed) (r:List (List Int)):Prop:=Tf n es r∧(¬jF n es∨n≤50∧es.length≤90)
open Classical in
theorem BV (E:fG A) {n:Int} {ev:Value} {es:List Ed} (he:bS H nx 2 a5 ev es) :
  WF A 59 [.agg #[.int .i64 n,ev]] H nx fun v H' nx'=>v=.bool (decide (Sc n es))∧an H H' nx∧nx≤nx':=by
 obtain ⟨base,ec,rfl⟩:=he.form
 refine WF.enter (E.h rfl _ _ _) E.EV ?_
 have bM:an H (aw H nx [.int .i64 n,.slice base es.length ec]) nx:=an.refl.set (Nat.le_refl _)
 repeat' (first|((first|refine WO.n rfl ?_|refine WO.k rfl ?_);(first|refine aK ?_|refine dD ?_|refine cM ?_|refine jN ?_|refine kg ?_|refine aJ ?_|(refine Zs (fun h=>?_) (fun h=>?_)<;>(try simp only [Int.ofNat_eq_natCast] at h))))|refine WO.dC rfl ?_|refine WO.nI rfl ?_|refine WO.P8 rfl ?_|with_reducible (first|refine WO.nil ?_|refine WC.aa ?_|refine WC.seq ?_|refine WC.ret ?_|refine aC ?_))
 ·have h1:=h
  have h2:n≤300:=by omega
  exact az (vs:=[_]) rfl ⟨by rw [decide_eq_true (p:=Sc n es) ⟨by omega,.inl h2⟩];rfl,bM,by omega⟩
 ·have h1:=h
  have h2:¬n≤300:=by omega
  refine WO.cn rfl ?_
  refine (E.WJ ((he.same bM).up (by omega))).of ?_
  rintro _ H1 aT ⟨rfl,a7,cD⟩
  have bp:an H H1 nx:=bM.trans a7 (by omega)
  by_cases hm:jF n es
  ·rw [decide_eq_true hm]
   repeat' (first|((first|refine WO.n rfl ?_|refine WO.k rfl ?_);(first|refine aK ?_|refine pA ?_|refine kg ?_))|refine WO.dC rfl ?_|with_reducible (first|refine WO.nil ?_|refine WC.ret ?_|refine aC ?_))
   exact az (vs:=[_]) rfl ⟨by rw [decide_eq_false (p:=Sc n es) (fun h=>by rcases h.2 with h|h;exact h2 h;exact h hm)];rfl,bp,by omega⟩
  ·rw [decide_eq_false hm]
   repeat' (first|((first|refine WO.n rfl ?_|refine WO.k rfl ?_);(first|refine aK ?_|refine pA ?_|refine kg ?_))|refine WO.dC rfl ?_|with_reducible (first|refine WO.nil ?_|refine WC.ret ?_|refine aC ?_))
   exact az (vs:=[_]) rfl ⟨by rw [decide_eq_true (p:=Sc n es) ⟨by omega,.inr hm⟩];rfl,bp,by omega⟩
 ·have h1:=h
  exact az (vs:=[_]) rfl ⟨by rw [decide_eq_false (p:=Sc n es) (fun h=>by have:=h.1;omega)];rfl,bM,by omega⟩
theorem LB {r:List (List Int)} (cj:b8 r):∀{k:Nat},k≤r.length→total r k≤1048576 * k:=by
 intro k
 induction k with
 | zero=>intro _;exact Nat.le_refl _
 | succ k ih=>
  intro hk
  rw [lz (by omega)]
  have:=ih (by omega)
  have:=cj.row k
  omega
open Classical in
theorem BW (E:fG A) {n:Int} {ev rv:Value} {es:List Ed} {r:List (List Int)} (he:bS H nx 2 a5 ev es) (hr:eY H nx 1 bq rv r) (cj:b8 r) :
  WF A 23 [.agg #[.int .i64 n,ev],rv] H nx fun v H' nx'=>v=.bool (decide (Tf n es r))∧an H H' nx∧nx≤nx':=by
 obtain ⟨base,ec,rfl⟩:=he.form
 obtain ⟨bW,rc,rfl⟩:=hr.form
 have nS:=cj.1
 refine WF.enter (E.h rfl _ _ _) E.ET ?_
 have bM:an H (aw H nx [.int .i64 n,.slice base es.length ec]) nx:=an.refl.set (Nat.le_refl _)
 have yr:Rd (aw H nx [.int .i64 n,.slice base es.length ec]) nx [.int .i64 n,.slice base es.length ec]:=Rd.self
 repeat' (first|((first|refine WO.n rfl ?_|refine WO.k rfl ?_);(first|refine aK ?_|refine cM ?_|refine jN ?_))|with_reducible (first|refine WO.nil ?_|refine WC.aa ?_|refine WC.seq ?_|refine WC.block ?_|refine aC ?_))
 refine WC.loop (α:=Nat) (fun k=>[(S1,.slice bW r.length rc),(S2,.pointer (some ⟨nx,0,none⟩)),(S5,.int .i64 ((r.length + total r k:Nat):Int)),(S6,.int .i64 ((k:Nat):Int))])
  (fun k H' nx'=>k≤r.length∧an H H' nx∧Rd H' nx [.int .i64 n,.slice base es.length ec]∧nx + 1≤nx') (fun k=>r.length - k)
  ?_ 0 aW ⟨Nat.zero_le _,bM,yr,Nat.le_refl _⟩
 clear bM yr
 rintro k H1 aT ⟨hk,bM,yr,cD⟩
 have SU:=LB cj hk
 repeat' (first|((first|refine WO.n rfl ?_|refine WO.k rfl ?_);(first|refine cM ?_|refine aJ ?_|(refine ei (fun h=>?_) (fun h=>?_)<;>(try simp only [Int.ofNat_eq_natCast] at h))))|with_reducible (first|refine WO.nil ?_|refine WC.aa ?_|refine WC.seq ?_|refine WC.skip ?_|refine WC.exit ?_|refine WC.block ?_)|refine WC.aB rfl ?_|refine WC.ax rfl ?_|with_reducible (first|refine aC ?_|refine dQ ?_|refine eh ?_))
 ·have cI:k < r.length:=by omega
  have dY:=cj.row k
  have j3:r.getD k []=r[k]:=by rw [List.getD_eq_getElem?_getD,List.getElem?_eq_getElem cI];rfl
  obtain ⟨rb,ro,O0,ib,ic,rfl,rV,oF,qO,hi⟩:=hr.at cI
  rw [← j3] at qO
  have Bw:=bM.rd rV oF
  repeat' (first|((first|refine WO.n rfl ?_|refine WO.k rfl ?_);(first|refine aK ?_|refine cM ?_|refine bu ?_|refine aZ ?_|refine bO ?_))|with_reducible (first|refine WO.nil ?_|refine WC.aa ?_|refine aC ?_|refine eT ?_))
  refine ⟨k + 1,by omega,.cons rfl (.cons rfl (.cons ?_ (.cons rfl (.nil _)))),by omega,bM,yr,cD⟩
  show some _=some _
  rw [lz cI,← Nat.add_assoc]
 ·have:k=r.length:=by omega
  subst this
  repeat' (fail)
  refine WO.cn rfl ?_
  refine (BV E ((he.same bM).up (by omega))).of ?_
  rintro _ H2 nx2 ⟨rfl,bL,eW⟩
  have df:an H H2 nx:=bM.trans bL (by omega)
  have kl:Rd H2 nx [.int .i64 n,.slice base es.length ec]:=bL.rd (by omega) yr
  by_cases h3:Sc n es
  ·rw [decide_eq_true h3]
   repeat' (first|((first|refine WO.n rfl ?_|refine WO.k rfl ?_);(first|refine aK ?_|refine dD ?_|refine kg ?_|refine aJ ?_|(refine Zs (fun h=>?_) (fun h=>?_)<;>(try simp only [Int.ofNat_eq_natCast] at h))))|refine WO.dC rfl ?_|refine WO.nI rfl ?_|with_reducible (first|refine WO.nil ?_|refine WC.ret ?_|refine aC ?_))
   all_goals
    have h1:=h
    first
     | exact az (vs:=[_]) rfl ⟨by rw [decide_eq_true (p:=Tf n es r) ⟨h3,by omega,by omega⟩];rfl,df,by omega⟩
     | exact az (vs:=[_]) rfl ⟨by rw [decide_eq_false (p:=Tf n es r) (fun h=>by have:=h.2.1;have:=h.2.2;omega)];rfl,df,by omega⟩
  ·rw [decide_eq_false h3]
   repeat' (first|((first|refine WO.n rfl ?_|refine WO.k rfl ?_);(first|refine aK ?_|refine kg ?_))|refine WO.nI rfl ?_|with_reducible (first|refine WO.nil ?_|refine WC.ret ?_|refine aC ?_))
   exact az (vs:=[_]) rfl ⟨by rw [decide_eq_false (p:=Tf n es r) (fun h=>h3 h.1)];rfl,df,by omega⟩
open Classical in
theorem zc (E:fG A) {n:Int} {ev rv:Value} {es:List Ed} {r:List (List Int)} (he:bS H nx 2 a5 ev es) (hr:eY H nx 1 bq rv r) (cj:b8 r) :
  WF A 5 [.agg #[.int .i64 n,ev],rv] H nx fun v H' nx'=>v=.bool (decide (Hr n es r))∧an H H' nx∧nx≤nx':=by
 obtain ⟨base,ec,rfl⟩:=he.form
 obtain ⟨bW,rc,rfl⟩:=hr.form
 refine WF.enter (E.h rfl _ _ _) E.Bk ?_
 have bM:an H (aw H nx [.int .i64 n,.slice base es.length ec]) nx:=an.refl.set (Nat.le_refl _)
 repeat' (first|((first|refine WO.n rfl ?_|refine WO.k rfl ?_);(first|refine aK ?_|refine jN ?_|refine aJ ?_))|with_reducible (first|refine WO.nil ?_|refine WC.aa ?_|refine WC.seq ?_|refine aC ?_))
 refine WO.cn rfl ?_
 refine (BW E ((he.same bM).up (by omega)) ((hr.same bM).up (by omega)) cj).of ?_
 rintro _ H1 aT ⟨rfl,a7,cD⟩
 have bp:an H H1 nx:=bM.trans a7 (by omega)
 have dB:Rd H1 nx [.int .i64 n,.slice base es.length ec]:=a7.rd (by omega) Rd.self
 clear bM a7
 by_cases h9:Tf n es r
 ·rw [decide_eq_true h9]
  repeat' (first|(refine WO.n rfl ?_;(first|refine aK ?_|refine aJ ?_))|refine WO.dC rfl ?_)
  refine WO.cn rfl ?_
  refine (E.WJ ((he.same bp).up (by omega))).of ?_
  rintro _ H2 nx2 ⟨rfl,bL,eW⟩
  have df:an H H2 nx:=bp.trans bL (by omega)
  have kl:Rd H2 nx [.int .i64 n,.slice base es.length ec]:=bL.rd (by omega) dB
  by_cases hm:jF n es
  ·rw [decide_eq_true hm]
   repeat' (first|((first|refine WO.n rfl ?_|refine WO.k rfl ?_);(first|refine aK ?_|refine dD ?_|refine cM ?_|refine pA ?_|refine kg ?_|refine aJ ?_|(refine Zs (fun h=>?_) (fun h=>?_)<;>(try simp only [Int.ofNat_eq_natCast] at h))))|refine WO.dC rfl ?_|refine WO.nI rfl ?_|with_reducible (first|refine WO.nil ?_|refine WC.ret ?_|refine aC ?_))
   all_goals
    have h1:=h
    first
     | exact az (vs:=[_]) rfl ⟨by rw [decide_eq_true (p:=Hr n es r) ⟨h9,.inr ⟨by omega,by omega⟩⟩];rfl,df,by omega⟩
     | exact az (vs:=[_]) rfl ⟨by rw [decide_eq_false (p:=Hr n es r) (fun h=>by rcases h.2 with h|h;exact h hm;have:=h.1;have:=h.2;omega)];rfl,df,by omega⟩
  ·rw [decide_eq_false hm]
   repeat' (first|((first|refine WO.n rfl ?_|refine WO.k rfl ?_);(first|refine aK ?_|refine pA ?_|refine kg ?_))|refine WO.dC rfl ?_|refine WO.nI rfl ?_|refine WO.P8 rfl ?_|with_reducible (first|refine WO.nil ?_|refine WC.ret ?_|refine aC ?_))
   exact az (vs:=[_]) rfl ⟨by rw [decide_eq_true (p:=Hr n es r) ⟨h9,.inl hm⟩];rfl,df,by omega⟩
 ·rw [decide_eq_false h9]
  repeat' (first|((first|refine WO.n rfl ?_|refine WO.k rfl ?_);(first|refine aK ?_|refine kg ?_))|refine WO.nI rfl ?_|refine WO.P8 rfl ?_|with_reducible (first|refine WO.nil ?_|refine WC.ret ?_|refine aC ?_))
  exact az (vs:=[_]) rfl ⟨by rw [decide_eq_false (p:=Hr n es r) (fun h=>h9 h.1)];rfl,bp,by omega⟩
theorem u4 (E:fG A) {av bv:Value} {a:List (List Int)} (ha:eY H nx 1 bq av a) (hb:eY H nx 1 bq bv a) (hm:a.length≤1048576) (hr:∀k,(a.getD k []).length≤4000) :
  WF A 15 [av,bv] H nx fun v H' nx'=>H'=H∧nx'=nx∧v=.bool true:=by
 obtain ⟨base,c,rfl⟩:=ha.form
 obtain ⟨KI,bc,rfl⟩:=hb.form
 refine WF.enter (E.h rfl _ _ _) E.Kp ?_
 repeat' (first|((first|refine WO.n rfl ?_|refine WO.k rfl ?_);(first|refine aK ?_|refine cM ?_|(refine om (fun h=>?_) (fun h=>?_)<;>(try simp only [Int.ofNat_eq_natCast] at h))))|with_reducible (first|refine WO.nil ?_|refine WC.aa ?_|refine WC.seq ?_|refine WC.skip ?_|refine WC.ret ?_|refine WC.block ?_)|refine WC.aB rfl ?_|refine WC.ax rfl ?_|with_reducible (first|refine aC ?_|refine gM ?_))
 all_goals try (first|(exfalso;omega)|exact absurd trivial (by assumption))
 refine WC.loop (α:=Nat) (fun k=>[([],.slice base a.length c),(S1,.slice KI a.length bc),(S5,.int .i64 k)]) (fun k H' nx'=>H'=H∧nx'=nx∧k≤a.length) (fun k=>a.length - k)
   ?_ 0 aW ⟨rfl,rfl,Nat.zero_le _⟩
 rintro k _ _ ⟨rfl,rfl,hk⟩
 repeat' (first|((first|refine WO.n rfl ?_|refine WO.k rfl ?_);(first|refine aK ?_|refine cM ?_|(refine ei (fun h=>?_) (fun h=>?_)<;>(try simp only [Int.ofNat_eq_natCast] at h))))|with_reducible (first|refine WO.nil ?_|refine WC.aa ?_|refine WC.drawn ?_|refine WC.seq ?_|refine WC.skip ?_|refine WC.ret ?_|refine WC.exit ?_|refine WC.block ?_)|refine WC.aB rfl ?_|refine WC.ax rfl ?_|with_reducible (first|refine aC ?_|refine dQ ?_|refine eh ?_))
 ·have cI:k < a.length:=by omega
  have y4:=hr k
  have j3:a.getD k []=a[k]:=by rw [List.getD_eq_getElem?_getD,List.getElem?_eq_getElem cI];rfl
  obtain ⟨b1,o1,En,ib1,ic1,rfl,_,nS,jT,zu⟩:=ha.at cI
  obtain ⟨b2,o2,gR,ib2,ic2,rfl,_,zT,sr,KP⟩:=hb.at cI
  rw [← j3] at jT zu sr KP
  repeat' (refine WO.n rfl ?_;(first|refine bu ?_|refine aZ ?_))
  refine WO.cn rfl ?_
  refine (GV E.OT (E.h rfl) zu KP y4).of ?_
  rintro _ _ _ ⟨rfl,rfl,rfl⟩
  rw [decide_eq_true rfl]
  repeat' (first|((first|refine WO.n rfl ?_|refine WO.k rfl ?_);(first|refine aK ?_|refine pA ?_|refine bO ?_))|with_reducible (first|refine WO.nil ?_|refine WC.aa ?_|refine WC.skip ?_)|refine WC.ax rfl ?_|with_reducible (first|refine aC ?_|refine eT ?_|refine kf ?_))
  exact ⟨k + 1,by omega,.cons rfl aW,rfl,rfl,by omega⟩
 ·exact az (vs:=[_]) rfl ⟨rfl,rfl,rfl⟩
end Go.Eng

namespace Go.Eng
variable {A:aG} {H H':Heap} {nx nx':Nat} {σ:aP} {L:List Value} {Q:ct}
set_option maxRecDepth 100000
def DW {α:Type} (H:Heap) (lo nx z:Nat) (enc:α→List Value) (x:α) (v:Value) (xs:List α):Prop:=
 ∃d,v=.slice (some ⟨d,0,some z⟩) xs.length (2 * (xs.length + 1))∧lo≤d∧d < nx∧ak H (at_ d)=some (.cells ((xs++[x]).flatMap enc))
theorem DW.sle {α:Type} {lo z:Nat} {enc:α→List Value} {x:α} {v:Value} {xs:List α} (h:DW H lo nx z enc x v xs) (he:∀x,(enc x).length=z):bS H nx z enc v xs:=by
 obtain ⟨d,rfl,h1,h2,h3⟩:=h
 refine .pre (rest:=enc x) (.inl ?_) h2 (by rw [bK];omega) he
 rw [h3,List.flatMap_append];simp
theorem DW.frame {α:Type} {lo z:Nat} {enc:α→List Value} {x:α} {v:Value} {xs:List α} (h:DW H lo nx z enc x v xs) (hs:∀d,lo≤d→d < nx→ak H' (at_ d)=ak H (at_ d)) (hn:nx≤nx'):DW H' lo nx' z enc x v xs:=by
 obtain ⟨d,rfl,h1,h2,h3⟩:=h
 exact ⟨d,rfl,h1,by omega,(hs d h1 h2).trans h3⟩
theorem bA.mke {α:Type} {lo z n:Nat} {enc:α→List Value} {x:α} {v:Value} {xs:List α} (h:bA H lo nx z v n ((xs++[x]).flatMap enc)) (hn:n=xs.length + 1):∃d,v=.slice (some ⟨d,0,some z⟩) (xs.length + 1) (2 * (xs.length + 1))∧lo≤d∧d < nx∧ak H (at_ d)=some (.cells ((xs++[x]).flatMap enc)):=by
 subst hn
 obtain ⟨_,⟨_,e⟩|⟨d,rfl,h1,h2,h3⟩⟩:=h
 ·omega
 ·exact ⟨d,rfl,h1,h2,h3⟩
theorem DX (E:fG A) {n:Int} {ev:Value} {es:List Ed} (he:bS H nx 2 a5 ev es) (hm:es.length≤1000000) :
  WF A 7 [.agg #[.int .i64 n,ev]] H nx fun v H' nx'=>an H H' nx∧nx≤nx'∧∃pR,v=.agg #[.int .i64 n,pR]∧DW H' nx nx' 2 a5 (-7,7) pR es:=by
 obtain ⟨base,ec,rfl⟩:=he.form
 refine WF.enter (E.h rfl _ _ _) E.Kj ?_
 have bM:an H (aw (aw H nx [.int .i64 n,.slice base es.length ec]) (nx + 1) [.int .i64 0,.slice none 0 0]) nx:=(an.refl.set (Nat.le_refl _)).set (by omega)
 have p0:Rd (aw (aw H nx [.int .i64 n,.slice base es.length ec]) (nx + 1) [.int .i64 0,.slice none 0 0]) nx [.int .i64 n,.slice base es.length ec]:=Rd.skip (by omega) Rd.self
 repeat' (first|((first|refine WO.n rfl ?_|refine WO.k rfl ?_);(first|refine dD ?_|refine cM ?_|refine jN ?_|refine sE ?_|refine r9 ?_|refine aJ ?_))|with_reducible (first|refine WO.nil ?_|refine WC.aa ?_|refine WC.drawn ?_|refine WC.seq ?_|refine aC ?_))
 have Px:=(he.same bM).up (show nx≤nx + 1 + 1 by omega)
 refine WO.na rfl ?_
 refine bA.more (nx0:=nx + 1 + 1) (l:=[]) (m:=es) rfl rfl .nil (Px.src (fun _=>rfl)) (Nat.le_refl _) (by omega) (by simp only [List.length_nil];omega) ?_
 intro v1 H1 aT cD xp a7
 rw [List.nil_append] at xp
 have p1:=a7.rd (by omega) p0
 have t1:ak H1 (at_ (nx + 1))=some (.cells [.int .i64 0,.slice none 0 0]):=(a7 (nx + 1) (by omega)).trans aq
 refine ⟨a6.look rfl p1 rfl rfl gn (a6.look rfl p1 rfl rfl (by simp [jK,ey]) .nil),?_⟩
 repeat' (refine WO.n rfl ?_;refine gx ?_)
 have BQ:an H1 (aw H1 aT [.int .i64 (-7),.int .i64 7]) aT:=an.refl.set (Nat.le_refl _)
 refine WO.na rfl ?_
 refine bA.more (l:=es) (m:=[(-7,7)]) rfl rfl (xp.same BQ (Nat.le_succ aT)) (pS Rd.self) (by omega) (by omega) (by show es.length + 1≤_;omega) ?_
 intro v2 H2 nx2 eW KS bL
 have mO:an H1 H2 (nx + 1 + 1):=(BQ.low (by omega)).trans bL (Nat.le_refl _)
 have p2:=mO.rd (by omega) p1
 have t2:=(mO (nx + 1) (by omega)).trans t1
 refine ⟨a6.look rfl p2 rfl rfl gn (a6.look rfl p2 rfl rfl (by simp [jK,ey]) .nil),?_⟩
 obtain ⟨d,rfl,MX,y9,NO⟩:=KS.mke (xs:=es) (by rw [List.length_append];rfl)
 have zp:es.length≤au (2 * (es.length + 1)):=by rw [bK];omega
 repeat' (first|(refine WO.n rfl ?_;(first|refine r9 ?_|refine Ba ?_|refine fL ?_))|with_reducible (first|refine WO.nil ?_|refine WC.ret ?_|refine aC ?_|refine kf ?_))
 refine iz rfl aq rfl ⟨((bM.trans a7 (by omega)).trans mO (by omega)).set (by omega),by omega,_,rfl,d,rfl,by omega,by omega,?_⟩
 rw [ai,if_neg (by omega)]
 exact NO
end Go.Eng
