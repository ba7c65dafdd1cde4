import Derived.Test.YtfejkbfafacdcaaGreatLd
/- Walks over the program: part 1. -/

namespace Go.Eng
variable {A:aG} {H H':Heap} {nx nx':Nat} {σ:aP} {Q:cw}
set_option maxRecDepth 100000
theorem wT {g:FuncId} (hf:A.funcs g=some uB) (hh:∀vs H nx,A.aH g vs H nx=none) {n lo hi:Nat} {vc:Value} (hv:cr vc=some (lo,hi)) (HC:hi≤9223372036854775807) (hn:n≤100000) :
  WF A g [.int .i64 (n:Int),vc] H nx fun v H' nx'=>H'=H∧nx'=nx∧cr v=some (min lo (n + 2000),min hi (n + 2000)):=by
 refine WF.enter (hh _ _ _) hf ?_
 repeat' (first|((first|refine WO.n rfl ?_|refine WO.k rfl ?_);(first|refine aK ?_|refine ba ?_))|with_reducible (first|refine WO.nil ?_|refine WC.aa ?_|refine WC.seq ?_|refine aA ?_))
 refine WO.n rfl ?_
 refine aM.OS rfl rfl hv (gq (n:=n + 2000)) (by omega) (fun v hv=>?_)
 repeat' (first|(refine WO.k rfl ?_;refine aK ?_)|with_reducible (first|refine WO.nil ?_|refine WC.ret ?_|refine aA ?_))
 exact az (vs:=[_]) rfl ⟨rfl,rfl,hv⟩
def CF (u:Value):Prop:=u=.slice none 0 0∨∃d o n c,u=.slice (some ⟨d,o,some 1⟩) n c∧0 < n∧n≤4000∧n≤aE c∧aE c≤9223372036854775807
def kept (us:List Value):List Value:=us.filter fun u=>match u with
 | .slice none _ _=>false
 | _=>true
theorem FZ {us:List Value} {u:Value}:kept (us++[u])=kept us++kept [u]:=by unfold kept;rw [List.filter_append]
def UB (H:Heap) (nx0 nx pb:Nat) (lv:Value) (us:List Value) (B:Nat):Prop:=
 ∃sv a s,ao H (at_ pb)=some (.cells [lv,sv])∧bM H nx0 nx 1 lv us.length us∧cr sv=some (a,s)∧s≤B∧pb < nx0∧nx0≤nx
theorem F0 {g:FuncId} (hf:A.funcs g=some ND) (NL:A.funcs 37=some uB) (hh:∀vs H nx,A.aH g vs H nx=none) (AI:∀vs H nx,A.aH 37 vs H nx=none)
  {nx0 pb B:Nat} {lv Ma:Value} {us ls:List Value} (st:UB H nx0 nx pb lv us B) (UC:bP H nx 1 Ay Ma ls) (GN:∀u∈ls,CF u) (hlen:ls.length≤100) (hB:B + 6100 * ls.length≤1048576) (jJ:cf Ma≠some pb) (Zb:∀b,cf lv=some b→cf Ma≠some b) (yO:us.length≤100000) :
  WF A g [.pointer (some ⟨pb,0,none⟩),Ma] H nx fun _ H' nx'=>nx≤nx'∧∃wU,UB H' nx0 nx' pb wU (us++kept ls) (B + 6100 * ls.length)∧(∀b,cf wU=some b→cf lv=some b∨nx≤b)∧∀b,b < nx→b≠pb→cf lv≠some b→ao H' (at_ b)=ao H (at_ b):=by
 obtain ⟨base,c,rfl⟩:=UC.form
 refine WF.enter (hh _ _ _) hf ?_
 repeat' (first|(refine WO.k rfl ?_;refine aK ?_)|with_reducible (first|refine WO.nil ?_|refine WC.aa ?_|refine WC.seq ?_|refine WC.block ?_|refine aA ?_))
 refine WC.loop (α:=Nat) (fun k=>[([],.pointer (some ⟨pb,0,none⟩)),(S1,.slice base ls.length c),(S4,.int .i64 ((k:Nat):Int))])
  (fun k H' nx'=>k≤ls.length∧nx≤nx'∧∃wU,UB H' nx0 nx' pb wU (us++kept (ls.take k)) (B + 6100 * k)∧(∀b,cf wU=some b→cf lv=some b∨nx≤b)∧∀b,b < nx→b≠pb→cf lv≠some b→ao H' (at_ b)=ao H (at_ b)) (fun k=>ls.length - k)
  ?_ 0 aN ⟨Nat.zero_le _,Nat.le_refl _,lv,by simpa [kept] using st,fun b hb=>.inl hb,fun _ _ _ _=>rfl⟩
 rintro k H1 aY ⟨hk,b9,D5,dd,dJ,Qg⟩
 obtain ⟨sv,a,s,Qh,hg,Rj,hsB,Ak,r9⟩:=dd
 have Zc:bP H1 aY 1 Ay (.slice base ls.length c) ls:=UC.blk (fun b hb bR=>Qg b bR (fun e=>jJ (by rw [← e];exact hb)) (fun e=>Zb b e hb)) b9
 repeat' (first|((first|refine WO.n rfl ?_|refine WO.k rfl ?_);(first|refine cH ?_|(refine dt (fun h=>?_) (fun h=>?_)<;>(try simp only [Int.ofNat_eq_natCast] at h))))|with_reducible (first|refine WO.nil ?_|refine WC.aa ?_|refine WC.drawn ?_|refine WC.seq ?_|refine WC.skip ?_|refine WC.exit ?_|refine WC.block ?_)|refine WC.ax rfl ?_|refine WC.ay rfl ?_|with_reducible (first|refine aA ?_|refine ef ?_|refine ew ?_))
 ·have bF:k < ls.length:=by omega
  obtain ⟨eb,eo,cs,rfl,mK,_,_,yS,vN⟩:=Zc.at (by intro e;rw [e] at bF;simp at bF)
  have q1:=en (vN k ls[k] (List.getElem?_eq_getElem bF))
  have UD:=GN ls[k] (List.getElem_mem bF)
  generalize hu:ls[k]=u at q1 UD
  have F1:us++kept (ls.take (k + 1))=us++kept (ls.take k)++kept [u]:=by
   rw [List.take_succ_eq_append_getElem bF,hu,FZ,List.append_assoc]
  have F2:(kept (ls.take k)).length≤100:=Nat.le_trans (List.length_filter_le _ _) (by rw [List.length_take];omega)
  rcases UD with rfl|⟨d,o,n,c',rfl,h0n,G1,Bv,oG⟩
  ·repeat' (refine WO.n rfl ?_;(first|refine cH ?_|refine bj ?_|refine aZ ?_))
   refine WO.n rfl ?_
   refine aM.of (Act.TE rfl) ?_
   refine WO.cn rfl ?_
   refine (wT NL AI (gq (n:=0)) (by omega) (by omega)).of ?_
   rintro v _ _ ⟨rfl,rfl,hv⟩
   repeat' (first|((first|refine WO.n rfl ?_|refine WO.k rfl ?_);refine aK ?_)|with_reducible (first|refine WO.nil ?_|refine WC.aa ?_|refine WC.seq ?_|refine aA ?_|refine nD ?_))
   refine WO.n rfl ?_
   refine aM.of (Act.X8 (c:=0) (d:=0) rfl rfl hv (gq (n:=0)) (by omega)) ?_
   repeat' (first|((first|refine WO.n rfl ?_|refine WO.k rfl ?_);(first|refine aK ?_|refine fX ?_|refine ba ?_))|refine WO.jH rfl ?_|with_reducible (first|refine WO.nil ?_|refine WC.aa ?_|refine WC.skip ?_)|refine WC.ay rfl ?_|with_reducible (first|refine aA ?_|refine dY ?_))
   refine ⟨k + 1,by omega,.cons rfl aN,by omega,b9,D5,?_,dJ,Qg⟩
   rw [F1,show kept [Value.slice none 0 0]=[] from rfl,List.append_nil]
   exact ⟨sv,a,s,Qh,hg,Rj,by omega,Ak,r9⟩
  ·have UE:kept [Value.slice (some ⟨d,o,some 1⟩) n c']=[Value.slice (some ⟨d,o,some 1⟩) n c']:=rfl
   rw [UE] at F1
   have aa0:(us++kept (ls.take k)).length≤100100:=by rw [List.length_append];omega
   repeat' (refine WO.n rfl ?_;(first|refine cH ?_|refine bj ?_|refine aZ ?_))
   refine WO.n rfl ?_
   refine aM.OT rfl (fun _ _=>oG) (fun vc lo hi Qe _ vp HC=>?_)
   obtain ⟨rfl,hlh⟩:=vp _ rfl
   refine WO.cn rfl ?_
   refine (wT NL AI Qe HC (by omega)).of ?_
   rintro v H1 aY ⟨rfl,rfl,hv⟩
   have heb:eb≠pb:=fun e=>jJ (by rw [e];rfl)
   repeat' (first|((first|refine WO.n rfl ?_|refine WO.k rfl ?_);refine aK ?_)|with_reducible (first|refine WO.nil ?_|refine WC.aa ?_|refine WC.seq ?_|refine aA ?_|refine nD ?_))
   refine WO.n rfl ?_
   refine aM.of (Act.X7 (c:=0) (d:=0) rfl rfl hv (gq (n:=0)) (by omega) (by omega)) ?_
   repeat' (first|(refine WO.n rfl ?_;(first|refine aK ?_|refine cI ?_|refine aJ ?_|refine lD ?_))|refine WO.cB rfl ?_)
   refine WO.n rfl ?_
   refine aM.Ly rfl rfl Rj hv (by omega) (fun s2 bI=>?_)
   repeat' (refine WO.cB rfl ?_)
   refine WO.n rfl ?_
   refine aM.of (Act.X9 (c:=1048576) (d:=1048576) rfl rfl bI (gq (n:=1048576)) (by omega)) ?_
   repeat' (first|((first|refine WO.n rfl ?_|refine WO.k rfl ?_);(first|refine cI ?_|refine fX ?_|refine aJ ?_|refine lD ?_))|with_reducible (first|refine WO.nil ?_|refine WC.aa ?_|refine WC.seq ?_)|refine WC.ax rfl ?_)
   refine WO.n rfl ?_
   refine aM.Ly rfl rfl Rj hv (by omega) (fun s3 eL=>?_)
   obtain ⟨iU,qi⟩:=Fz eL
   repeat' (refine WO.n rfl ?_;(first|refine cI ?_|refine lD ?_))
   refine WO.n rfl ?_
   refine aM.of (Act.TB rfl rfl iU qi Qh (by simp)) ?_
   have aa1:Rd (aI H1 pb ([D5,sv].set (0 + 1) s3)) eb cs:=Rd.skip heb yS
   repeat' (first|(refine WO.n rfl ?_;(first|refine cI ?_|refine aJ ?_|refine bj ?_|refine aZ ?_|refine iu ?_|refine lD ?_))|with_reducible (first|refine WO.nil ?_|refine WC.drawn ?_|refine aA ?_))
   refine WO.n rfl ?_
   have cG:∀(b:Nat) (c:Nat) (z':Option Nat) (q:Nat),D5=.slice (some ⟨b,0,z'⟩) q c→nx0≤b∧cf D5=some b:=by
    intro b c2 z' q e
    obtain ⟨_,⟨e2,_⟩|⟨b',e2,e3,_⟩⟩:=hg
    ·rw [e] at e2;cases e2
    ·rw [e] at e2;cases e2;exact ⟨e3,by rw [e];rfl⟩
   refine aM.j1 (nx0:=nx0) rfl rfl (hg.qL (fun b hb j8=>by rw [ak,if_neg (by omega),ak,if_neg (by omega)]) (Nat.le_succ _)) (cN Rd.self rfl) (by omega) (by omega) rfl (by unfold small;omega) (by unfold small;omega) ?_
   intro H3 VN NI
   have RG:ao H3 (at_ pb)=some (.cells [D5,s3]):=by rw [NI pb (by omega) (fun c z' q e=>by have:=(cG pb c z' q e).1;omega),ak,if_neg (by omega),ak,if_pos rfl];rfl
   repeat' (first|((first|refine WO.n rfl ?_|refine WO.k rfl ?_);(first|refine aK ?_|refine cI ?_|refine ep ?_|refine ba ?_|refine lD ?_))|with_reducible (first|refine WO.nil ?_|refine WC.aa ?_|refine aA ?_|refine dY ?_|refine nD ?_))
   have NM:(us++kept (ls.take k)++[Value.slice (some ⟨d,o,some 1⟩) n c']).length=(us++kept (ls.take k)).length + 1:=by rw [List.length_append];rfl
   refine ⟨k + 1,by omega,.cons rfl aN,by omega,by omega,_,⟨s3,_,_,aw,?_,eL,by omega,Ak,by omega⟩,fun b hb=>?_,fun b hb j8 yo=>?_⟩
   ·rw [F1,NM]
    exact ⟨by rw [NM];omega,.inr ⟨aY + 1,rfl,by omega,by omega,by rw [ak,if_neg (by omega)];exact VN⟩⟩
   ·cases hb;exact .inr (by omega)
   ·rw [ak,if_neg j8,NI b (by omega) (fun c z' q e=>by
     rcases dJ b (cG b c z' q e).2 with h5|h5
     ·exact yo h5
     ·omega),ak,if_neg (by omega),ak,if_neg j8]
    exact Qg b hb j8 yo
 ·have bF:k=ls.length:=by omega
  subst bF
  rw [List.take_length] at hg
  exact ui (vs:=[]) rfl ⟨b9,D5,⟨sv,a,s,Qh,hg,Rj,by omega,Ak,r9⟩,dJ,Qg⟩
end Go.Eng

namespace Go.Eng
variable {A:aG} {H H':Heap} {nx nx':Nat} {σ:aP} {Q:cw}
set_option maxRecDepth 100000
def ni {α:Type} (f:Nat→α) (i:Nat) (x:α):Nat→α:=fun j=>if j=i then x else f j
theorem dF {α:Type} {f:Nat→α} {i:Nat} {x:α}:ni f i x i=x:=by simp [ni]
theorem sQ {α:Type} {f:Nat→α} {i:Nat} {x y:α}:ni (ni f i x) i y=ni f i y:=by funext j;unfold ni;split<;>rfl
theorem ox {α:Type} {f:Nat→α} {i j:Nat} {x:α} (h:j≠i):ni f i x j=f j:=by simp [ni,h]
structure Bw where
 pb:Nat
 rb:Nat
 m:Nat
 rc:Nat
 sv:Value
 d:Nat→Nat
 o:Nat→Nat
 c:Nat→Nat
def Bw.v (D:Bw) (n:Nat→Nat) (j:Nat):Value:=.slice (some ⟨D.d j,D.o j,some 1⟩) (n j) (2 * D.c j + 1)
def Bw.row (D:Bw) (n:Nat→Nat):List Value:=(List.range D.m).map (D.v n)
structure vd (D:Bw) (H:Heap) (nx:Nat) (n:Nat→Nat) (cs:Nat→List Value):Prop where
 p:ao H (at_ D.pb)=some (.cells [.slice (some ⟨D.rb,0,some 1⟩) D.m D.rc,D.sv])
 r:ao H (at_ D.rb)=some (.cells (D.row n))
 l:∀j,j < D.m→ao H (at_ (D.d j))=some (.cells (cs j))∧(cs j).length=D.o j + n j∧n j≤D.c j∧D.c j≤ei∧D.d j < nx∧D.d j≠D.rb∧D.d j≠D.pb
 ne:D.rb≠D.pb
 lt:D.pb < nx∧D.rb < nx
 inj:∀i j,i < D.m→j < D.m→D.d i=D.d j→i=j
variable {D:Bw} {n:Nat→Nat} {cs:Nat→List Value}
theorem Bw.yp {j:Nat} (h:j < D.m):(D.row n)[0 + j * 1]?=some (D.v n j):=by
 unfold Bw.row
 rw [Nat.zero_add,Nat.mul_one,List.getElem?_map,List.getElem?_range h];rfl
theorem vd.same (st:vd D H nx n cs) (hs:an H H' nx) (hn:nx≤nx'):vd D H' nx' n cs:=
 ⟨(hs _ st.lt.1).trans st.p,(hs _ st.lt.2).trans st.r,fun j hj=>let ⟨h1,h2,h3,h4,h5,h6,h7⟩:=st.l j hj;⟨(hs _ h5).trans h1,h2,h3,h4,Nat.lt_of_lt_of_le h5 hn,h6,h7⟩,st.ne,⟨Nat.lt_of_lt_of_le st.lt.1 hn,Nat.lt_of_lt_of_le st.lt.2 hn⟩,st.inj⟩
theorem vd.put (st:vd D H nx n cs) {i:Nat} (hi:i < D.m) {l:List Value} (hl:l.length=(cs i).length):vd D (aI H (D.d i) l) nx n (ni cs i l):=by
 obtain ⟨h1,h2,h3,h4,h5,h6,h7⟩:=st.l i hi
 refine ⟨by rw [ak,if_neg (fun e=>h7 e.symm)];exact st.p,by rw [ak,if_neg (fun e=>h6 e.symm)];exact st.r,fun j hj=>?_,st.ne,st.lt,st.inj⟩
 by_cases e:j=i
 ·subst e
  rw [dF]
  exact ⟨aw,by rw [hl];exact h2,h3,h4,h5,h6,h7⟩
 ·obtain ⟨g1,g⟩:=st.l j hj
  rw [ox e]
  exact ⟨by rw [ak,if_neg (fun e'=>e (st.inj j i hj hi e'))];exact g1,g⟩
theorem vd.app (st:vd D H nx n cs) {i:Nat} (hi:i < D.m) {v:Value} (hc:n i < D.c i) :
  vd D (aI (aI H (D.d i) (cs i++[v])) D.rb ((D.row n).set i (.slice (some ⟨D.d i,D.o i,some 1⟩) (n i + 1) (2 * D.c i + 1)))) nx (ni n i (n i + 1)) (ni cs i (cs i++[v])):=by
 obtain ⟨h1,h2,h3,h4,h5,h6,h7⟩:=st.l i hi
 refine ⟨by rw [ak,if_neg (fun e=>st.ne e.symm),ak,if_neg (fun e=>h7 e.symm)];exact st.p,?_,fun j hj=>?_,st.ne,st.lt,st.inj⟩
 ·rw [aw]
  congr 2
  apply List.ext_getElem?
  intro j
  unfold Bw.row
  rw [List.getElem?_set]
  by_cases e:i=j
  ·subst e
   rw [if_pos rfl,if_pos (by simpa using hi),List.getElem?_map,List.getElem?_range hi]
   show some _=some (D.v _ i)
   unfold Bw.v
   rw [dF]
  ·rw [if_neg e,List.getElem?_map,List.getElem?_map]
   cases hj:(List.range D.m)[j]? with
   | none=>rfl
   | some q=>
    have:q=j:=by
     have bR:=(List.getElem?_eq_some_iff.1 hj).1
     rw [List.getElem?_range (by simpa using bR)] at hj
     exact (Option.some.inj hj).symm
    subst this
    show some (D.v n q)=some (D.v _ q)
    unfold Bw.v
    rw [ox (fun e'=>e e'.symm)]
 ·by_cases e:j=i
  ·subst e
   rw [dF,dF]
   exact ⟨by rw [ak,if_neg h6,aw],by rw [List.length_append,h2];rfl,by omega,h4,h5,h6,h7⟩
  ·obtain ⟨g1,g2,g3,g4,g5,g6,g7⟩:=st.l j hj
   rw [ox e,ox e]
   exact ⟨by rw [ak,if_neg g6,ak,if_neg (fun e'=>e (st.inj j i hj hi e'))];exact g1,g2,g3,g4,g5,g6,g7⟩
theorem fx {base:Option Addr} {n c:Nat}:km (.slice base n c) (.slice base n c)=true:=oo
theorem CG {g:FuncId} (hf:A.funcs g=some uB) (hh:∀vs H nx,A.aH g vs H nx=none) {n c:Nat} (hn:n≤100000) :
  WF A g [.int .i64 (n:Int),.int .i64 (c:Int)] H nx fun v H' nx'=>H'=H∧nx'=nx∧v=.int .i64 ((min c (n + 2000):Nat):Int):=by
 refine WF.enter (hh _ _ _) hf ?_
 repeat' (first|((first|refine WO.n rfl ?_|refine WO.k rfl ?_);(first|refine aK ?_|refine ba ?_|refine OX ?_))|with_reducible (first|refine WO.nil ?_|refine WC.aa ?_|refine WC.seq ?_|refine WC.ret ?_|refine aA ?_))
 refine az (vs:=[_]) rfl ⟨rfl,rfl,?_⟩
 show Value.int .i64 _=.int .i64 _
 congr 1
 omega
theorem Zd (st:vd D H nx n cs) {i N:Nat} (hi:i < D.m) (hm:D.m≤100000) (hN:N≤D.c i) (hN2:N≤100000) (NN:n i≤100000)
  (aC:∀σ H' nx' r l,aT [([],.pointer (some ⟨D.pb,0,none⟩)),(S3,.int .i64 ((i:Nat):Int))] σ→nx≤nx'→r≤100000→vd D H' nx' (ni n i r) (ni cs i l)→Q (.exit 2) σ H' nx') :
  WC A (.loop Jc) [([],.pointer (some ⟨D.pb,0,none⟩)),(S3,.int .i64 ((i:Nat):Int)),(S4,.int .i64 ((N:Nat):Int))] H nx Q:=by
 refine WC.loop (α:=Nat×List Value) (fun _=>[([],.pointer (some ⟨D.pb,0,none⟩)),(S3,.int .i64 ((i:Nat):Int)),(S4,.int .i64 ((N:Nat):Int))])
  (fun k H' nx'=>nx≤nx'∧k.1≤100000∧vd D H' nx' (ni n i k.1) (ni cs i k.2)) (fun k=>N - k.1)
  ?_ (n i,cs i) aN ⟨Nat.le_refl _,NN,by
   have e1:ni n i (n i)=n:=by funext j;unfold ni;split<;>simp_all
   have e2:ni cs i (cs i)=cs:=by funext j;unfold ni;split<;>simp_all
   rw [e1,e2];exact st⟩
 rintro ⟨r,l⟩ H1 aY ⟨b9,oV,dd⟩
 simp only at oV dd ⊢
 have hp:=dd.p
 have hr:=dd.r
 have q1:(D.row (ni n i r))[0 + i * 1]?=some (.slice (some ⟨D.d i,D.o i,some 1⟩) r (2 * D.c i + 1)):=by
  rw [D.yp hi];unfold Bw.v;rw [dF]
 obtain ⟨h1,h2,h3,h4,h5,h6,h7⟩:=dd.l i hi
 simp only [dF] at h1 h2 h3
 have bR:=dd.lt
 have Qi:(D.row (ni n i r)).length=D.m:=by simp [Bw.row]
 unfold Jc
 repeat' (first|((first|refine WO.n rfl ?_|refine WO.k rfl ?_);(first|refine cI ?_|refine cH ?_|refine aJ ?_|refine bj ?_|refine aZ ?_|refine iu ?_|(refine dt (fun h=>?_) (fun h=>?_)<;>(try simp only [Int.ofNat_eq_natCast] at h))|refine lD ?_))|with_reducible (first|refine WO.nil ?_|refine WC.aa ?_|refine WC.drawn ?_|refine WC.seq ?_|refine WC.skip ?_|refine WC.exit ?_|refine WC.block ?_)|refine WC.ax rfl ?_|refine WC.ay rfl ?_|with_reducible (first|refine aA ?_|refine ef ?_))
 ·have iD:r < D.c i:=by omega
  have oI:ao (aI H1 aY [.int .i64 0]) (at_ (D.d i))=some (.cells l):=by rw [ak,if_neg (by omega)];exact h1
  refine WO.na rfl ?_
  refine aM.of (Act.q7 (n:=1) (l:=l++[.int .i64 0]) rfl rfl (cN Rd.self rfl) (by omega) (by omega) rfl oI (by rw [dp];omega) (FA (by simp) (by omega))) ?_
  refine ⟨.look rfl (Rd.skip (by omega) (Rd.skip (by omega) (Rd.own hp))) rfl rfl fx .nil,?_⟩
  have nz:ao (aI (aI H1 aY [.int .i64 0]) (D.d i) (l++[.int .i64 0])) (at_ D.rb)=some (.cells (D.row (ni n i r))):=by rw [ak,if_neg (by omega),ak,if_neg (by omega)];exact hr
  repeat' (first|(refine WO.n rfl ?_;(first|refine aZ ?_|refine ep ?_))|with_reducible (first|refine WO.nil ?_|refine dY ?_|refine nD ?_))
  refine ⟨(r + 1,l++[.int .i64 0]),by show N - (r + 1) < N - r;omega,.cons rfl aN,by omega,by show r + 1≤_;omega,?_⟩
  have iE:vd D (aI H1 aY [.int .i64 0]) (aY + 1) (ni n i r) (ni cs i l):=dd.same (an.refl.set (Nat.le_refl _)) (Nat.le_succ _)
  have sd:=iE.app hi (v:=.int .i64 0) (by rw [dF];exact iD)
  rw [dF,dF,sQ,sQ] at sd
  rw [show 0 + i * 1=i by omega]
  exact sd
 ·exact aC _ _ _ r l aN b9 oV dd
theorem Ze (st:vd D H nx n cs) {i:Nat} (hi:i < D.m) (hm:D.m≤100000) (NN:n i≤100000)
  (aC:∀σ H' nx' l,aT [([],.pointer (some ⟨D.pb,0,none⟩)),(S3,.int .i64 ((i:Nat):Int))] σ→nx≤nx'→vd D H' nx' n (ni cs i l)→(∀q,q < n i→l[D.o i + q]?=some (.int .i64 (-1000 - (i:Int))))→Q (.exit 4) σ H' nx') :
  WC A (.loop Jd) [([],.pointer (some ⟨D.pb,0,none⟩)),(S3,.int .i64 ((i:Nat):Int)),(S5,.int .i64 0)] H nx Q:=by
 refine WC.loop (α:=Nat×List Value) (fun k=>[([],.pointer (some ⟨D.pb,0,none⟩)),(S3,.int .i64 ((i:Nat):Int)),(S5,.int .i64 ((k.1:Nat):Int))])
  (fun k H' nx'=>nx≤nx'∧k.1≤n i∧vd D H' nx' n (ni cs i k.2)∧∀q,q < k.1→k.2[D.o i + q]?=some (.int .i64 (-1000 - (i:Int)))) (fun k=>n i - k.1)
  ?_ (0,cs i) aN ⟨Nat.le_refl _,Nat.zero_le _,by
   have e2:ni cs i (cs i)=cs:=by funext j;unfold ni;split<;>simp_all
   rw [e2];exact st,fun q hq=>absurd hq (Nat.not_lt_zero _)⟩
 rintro ⟨k,l⟩ H1 aY ⟨b9,hk,dd,dW⟩
 simp only at hk dd dW ⊢
 have hp:=dd.p
 have hr:=dd.r
 have q1:(D.row n)[0 + i * 1]?=some (.slice (some ⟨D.d i,D.o i,some 1⟩) (n i) (2 * D.c i + 1)):=D.yp hi
 obtain ⟨h1,h2,h3,h4,h5,h6,h7⟩:=dd.l i hi
 simp only [dF] at h1 h2
 have bR:=dd.lt
 unfold Jd
 repeat' (first|((first|refine WO.n rfl ?_|refine WO.k rfl ?_);(first|refine aK ?_|refine cI ?_|refine cH ?_|refine aJ ?_|refine bj ?_|refine aZ ?_|refine ep ?_|(refine dt (fun h=>?_) (fun h=>?_)<;>(try simp only [Int.ofNat_eq_natCast] at h))|refine ba ?_|refine pA ?_|refine lD ?_))|with_reducible (first|refine WO.nil ?_|refine WC.aa ?_|refine WC.seq ?_|refine WC.skip ?_|refine WC.exit ?_|refine WC.block ?_)|refine WC.ax rfl ?_|refine WC.ay rfl ?_|with_reducible (first|refine aA ?_|refine ef ?_|refine dY ?_))
 ·try (refine WO.n rfl ?_;refine aM.of (Act.sub (a:=-1000) (b:=(i:Int)) rfl rfl (by unfold qH;omega)) ?_)
  repeat' (fail)
  refine ⟨(k + 1,l.set (D.o i + k * 1) (.int .i64 (-1000 - (i:Int)))),by show n i - (k + 1) < n i - k;omega,.cons rfl aN,by omega,by show k + 1≤_;omega,?_,fun q hq=>?_⟩
  ·have iE:=dd.put hi (l:=l.set (D.o i + k * 1) (.int .i64 (-1000 - (i:Int)))) (by rw [dF,List.length_set])
   rw [sQ] at iE
   exact iE
  ·show (l.set _ _)[_]?=_
   rw [Nat.mul_one,List.getElem?_set]
   by_cases e:k=q
   ·subst e
    rw [if_pos rfl,if_pos (by omega)]
   ·rw [if_neg (by omega)]
    exact dW q (by show q < k;have:q < k + 1:=hq;omega)
 ·have:k=n i:=by omega
  subst this
  exact aC _ _ _ l aN b9 dd dW
theorem Zf (st:vd D H nx n cs) {i:Nat} (hi:i < D.m) (hm:D.m≤100000) (NN:n i≤100000) (dW:∀q,q < n i→(cs i)[D.o i + q * 1]?=some (.int .i64 (-1000 - (i:Int))))
  (aC:∀σ,aT [([],.pointer (some ⟨D.pb,0,none⟩)),(S6,.int .i64 ((i:Nat):Int))] σ→Q (.exit 8) σ H nx) :
  WC A (.loop Je) [([],.pointer (some ⟨D.pb,0,none⟩)),(S6,.int .i64 ((i:Nat):Int)),(S7,.int .i64 0)] H nx Q:=by
 refine WC.loop (α:=Nat) (fun k=>[([],.pointer (some ⟨D.pb,0,none⟩)),(S6,.int .i64 ((i:Nat):Int)),(S7,.int .i64 ((k:Nat):Int))])
  (fun k H' nx'=>k≤n i∧H'=H∧nx'=nx) (fun k=>n i - k)
  ?_ 0 aN ⟨Nat.zero_le _,rfl,rfl⟩
 rintro k _ _ ⟨hk,rfl,rfl⟩
 have hp:=st.p
 have hr:=st.r
 have q1:(D.row n)[0 + i * 1]?=some (.slice (some ⟨D.d i,D.o i,some 1⟩) (n i) (2 * D.c i + 1)):=D.yp hi
 obtain ⟨h1,h2,h3,h4,h5,h6,h7⟩:=st.l i hi
 unfold Je
 repeat' (first|((first|refine WO.n rfl ?_|refine WO.k rfl ?_);(first|refine cI ?_|refine cH ?_|refine aJ ?_|refine bj ?_|refine aZ ?_|(refine dt (fun h=>?_) (fun h=>?_)<;>(try simp only [Int.ofNat_eq_natCast] at h))|refine lD ?_))|with_reducible (first|refine WO.nil ?_|refine WC.aa ?_|refine WC.seq ?_|refine WC.skip ?_|refine WC.exit ?_|refine WC.block ?_)|refine WC.ax rfl ?_|refine WC.ay rfl ?_|with_reducible (first|refine aA ?_|refine ef ?_))
 ·have q2:=dW k (by omega)
  repeat' (first|((first|refine WO.n rfl ?_|refine WO.k rfl ?_);(first|refine aK ?_|refine bj ?_|(refine ke (fun h=>?_) (fun h=>?_)<;>(try simp only [Int.ofNat_eq_natCast] at h))|refine ba ?_|refine pA ?_))|with_reducible (first|refine WO.nil ?_|refine WC.aa ?_|refine WC.seq ?_|refine WC.skip ?_|refine WC.ret ?_)|refine WC.ax rfl ?_|refine WC.ay rfl ?_|with_reducible (first|refine aA ?_|refine dX ?_|refine dY ?_|refine iA ?_))
  try (refine WO.n rfl ?_;refine aM.of (Act.sub (a:=-1000) (b:=(i:Int)) rfl rfl (by unfold qH;omega)) ?_)
  repeat' (fail)
  ·exact absurd rfl h
  ·exact ⟨k + 1,by omega,.cons rfl aN,by omega,rfl,rfl⟩
 ·exact aC _ aN
theorem ap2 (st:vd D H nx n cs) (hm:D.m≤100000) (NN:∀i,i < D.m→n i≤100000) (dW:∀i q,i < D.m→q < n i→(cs i)[D.o i + q * 1]?=some (.int .i64 (-1000 - (i:Int))))
  (aC:∀σ,Q (.exit 6) σ H nx) :
  WC A (.loop Pp) [([],.pointer (some ⟨D.pb,0,none⟩)),(S6,.int .i64 0)] H nx Q:=by
 refine WC.loop (α:=Nat) (fun k=>[([],.pointer (some ⟨D.pb,0,none⟩)),(S6,.int .i64 ((k:Nat):Int))])
  (fun k H' nx'=>k≤D.m∧H'=H∧nx'=nx) (fun k=>D.m - k)
  ?_ 0 aN ⟨Nat.zero_le _,rfl,rfl⟩
 rintro k _ _ ⟨hk,rfl,rfl⟩
 have hp:=st.p
 unfold Pp
 repeat' (first|((first|refine WO.n rfl ?_|refine WO.k rfl ?_);(first|refine aK ?_|refine cI ?_|refine cH ?_|refine aJ ?_|(refine dt (fun h=>?_) (fun h=>?_)<;>(try simp only [Int.ofNat_eq_natCast] at h))|refine lD ?_))|with_reducible (first|refine WO.nil ?_|refine WC.aa ?_|refine WC.seq ?_|refine WC.skip ?_|refine WC.exit ?_|refine WC.block ?_)|refine WC.ax rfl ?_|refine WC.ay rfl ?_|with_reducible (first|refine aA ?_|refine ef ?_))
 ·refine WC.sub aN (Zf st (i:=k) (by omega) hm (NN k (by omega)) (fun q hq=>dW k q (by omega) hq) (fun σ hσ=>?_))
  refine ew (dY (aA (WC.sub hσ ?_)))
  repeat' (first|((first|refine WO.n rfl ?_|refine WO.k rfl ?_);(first|refine aK ?_|refine ba ?_))|with_reducible (first|refine WO.nil ?_|refine WC.aa ?_))
  exact ⟨k + 1,by omega,.cons rfl aN,by omega,rfl,rfl⟩
 ·exact aC _
theorem ap1 (NL:A.funcs 37=some uB) (AI:∀vs H nx,A.aH 37 vs H nx=none) (st:vd D H nx n cs) (hm:D.m≤100000) (NN:∀i,i < D.m→n i≤4000)
  (aC:∀σ H' nx' n' cs',aT [([],.pointer (some ⟨D.pb,0,none⟩))] σ→vd D H' nx' n' cs'→(∀i,i < D.m→n' i≤100000)→(∀i q,i < D.m→q < n' i→(cs' i)[D.o i + q * 1]?=some (.int .i64 (-1000 - (i:Int))))→Q (.exit 0) σ H' nx') :
  WC A (.loop Po) [([],.pointer (some ⟨D.pb,0,none⟩)),(S3,.int .i64 0)] H nx Q:=by
 refine WC.loop (α:=Nat×(Nat→Nat)×(Nat→List Value)) (fun k=>[([],.pointer (some ⟨D.pb,0,none⟩)),(S3,.int .i64 ((k.1:Nat):Int))])
  (fun k H' nx'=>k.1≤D.m∧vd D H' nx' k.2.1 k.2.2∧(∀i,i < D.m→k.2.1 i≤100000)∧(∀i,k.1≤i→i < D.m→k.2.1 i≤4000)∧∀i q,i < k.1→q < k.2.1 i→(k.2.2 i)[D.o i + q * 1]?=some (.int .i64 (-1000 - (i:Int)))) (fun k=>D.m - k.1)
  ?_ (0,n,cs) aN ⟨Nat.zero_le _,st,fun i hi=>Nat.le_trans (NN i hi) (by omega),fun i _ hi=>NN i hi,fun i q hi=>absurd hi (Nat.not_lt_zero _)⟩
 rintro ⟨k,n1,zw⟩ H1 aY ⟨hk,dd,dJ,j8,dW⟩
 simp only at hk dd dJ j8 dW ⊢
 have hp:=dd.p
 have hr:=dd.r
 unfold Po
 repeat' (first|((first|refine WO.n rfl ?_|refine WO.k rfl ?_);(first|refine cI ?_|refine cH ?_|refine aJ ?_|refine aZ ?_|(refine dt (fun h=>?_) (fun h=>?_)<;>(try simp only [Int.ofNat_eq_natCast] at h))|refine lD ?_))|with_reducible (first|refine WO.nil ?_|refine WC.aa ?_|refine WC.drawn ?_|refine WC.seq ?_|refine WC.skip ?_|refine WC.exit ?_|refine WC.block ?_)|refine WC.ax rfl ?_|refine WC.ay rfl ?_|with_reducible (first|refine aA ?_|refine ef ?_))
 ·have tV:k < D.m:=by omega
  have q1:(D.row n1)[0 + k * 1]?=some (.slice (some ⟨D.d k,D.o k,some 1⟩) (n1 k) (2 * D.c k + 1)):=D.yp tV
  repeat' (refine WO.n rfl ?_;(first|refine cI ?_|refine cH ?_|refine aJ ?_|refine bj ?_|refine aZ ?_|refine lD ?_))
  refine WO.n rfl ?_
  refine aM.of (Act.TD rfl (Fv _)) ?_
  rw [dp]
  refine WO.cn rfl ?_
  refine (CG NL AI (by have:=j8 k (Nat.le_refl _) tV;omega)).of ?_
  rintro _ H1 aY ⟨rfl,rfl,rfl⟩
  repeat' (first|(refine WO.k rfl ?_;refine aK ?_)|with_reducible (first|refine WO.nil ?_|refine WC.block ?_|refine aA ?_|refine nD ?_))
  have hb:=j8 k (Nat.le_refl _) tV
  refine WC.sub aN (Zd dd tV hm (N:=min (D.c k) (n1 k + 2000)) (Nat.min_le_left _ _) (by omega) (dJ k tV) (fun σ H2 nx2 r l hσ fq wk iE=>?_))
  refine ew (aA (WC.sub hσ ?_))
  repeat' (first|(refine WO.k rfl ?_;refine aK ?_)|with_reducible (first|refine WO.nil ?_|refine WC.aa ?_|refine WC.seq ?_|refine WC.block ?_|refine aA ?_))
  refine WC.sub aN (Ze iE tV hm (by rw [dF];exact wk) (fun σ H3 iY l2 hσ se sd lX=>?_))
  rw [sQ] at sd
  rw [dF] at lX
  refine ew (dY (aA (WC.sub hσ ?_)))
  repeat' (first|((first|refine WO.n rfl ?_|refine WO.k rfl ?_);(first|refine aK ?_|refine ba ?_))|with_reducible (first|refine WO.nil ?_|refine WC.aa ?_))
  refine ⟨(k + 1,ni n1 k r,ni zw k l2),by show D.m - (k + 1) < D.m - k;omega,.cons rfl aN,by show k + 1≤_;omega,sd,fun i hi=>?_,fun i hi him=>?_,fun i q hi hq=>?_⟩
  ·show ni n1 k r i≤_
   by_cases e:i=k
   ·subst e;rw [dF];exact wk
   ·rw [ox e];exact dJ i hi
  ·have yK:k + 1≤i:=hi
   show ni n1 k r i≤_
   rw [ox (by omega)]
   exact j8 i (by omega) him
  ·have yK:i < k + 1:=hi
   have fP:q < ni n1 k r i:=hq
   show (ni zw k l2 i)[_]?=_
   by_cases e:i=k
   ·subst e
    rw [dF] at fP ⊢
    rw [Nat.mul_one]
    exact lX q fP
   ·rw [ox e] at fP ⊢
    exact dW i q (by omega) fP
 ·have tV:k=D.m:=by omega
  subst tV
  exact aC _ _ _ n1 zw aN dd dJ dW
theorem apart_spec {g:FuncId} (hf:A.funcs g=some CC) (NL:A.funcs 37=some uB) (hh:∀vs H nx,A.aH g vs H nx=none) (AI:∀vs H nx,A.aH 37 vs H nx=none)
  (st:vd D H nx n cs) (hm:D.m≤100000) (hn:∀j,j < D.m→n j≤4000) :
  WF A g [.pointer (some ⟨D.pb,0,none⟩)] H nx fun v _ _=>v=.bool true:=by
 refine WF.enter (hh _ _ _) hf ?_
 repeat' (first|(refine WO.k rfl ?_;refine aK ?_)|with_reducible (first|refine WO.nil ?_|refine WC.aa ?_|refine WC.seq ?_|refine WC.block ?_|refine aA ?_))
 refine WC.sub aN (ap1 NL AI st hm hn (fun σ H2 nx2 n2 jf hσ iE j8 JH=>?_))
 refine ew (aA (WC.sub hσ ?_))
 repeat' (first|(refine WO.k rfl ?_;refine aK ?_)|with_reducible (first|refine WO.nil ?_|refine WC.aa ?_|refine WC.seq ?_|refine WC.block ?_|refine aA ?_))
 refine WC.sub aN (ap2 iE hm j8 JH (fun σ=>?_))
 refine ew (aA ?_)
 repeat' (first|(refine WO.k rfl ?_;refine aK ?_)|with_reducible (first|refine WO.nil ?_|refine WC.aa ?_|refine WC.seq ?_|refine WC.ret ?_|refine aA ?_))
 exact az (vs:=[_]) rfl rfl
end Go.Eng

namespace Go.Eng
variable {A:aG} {H H':Heap} {nx nx':Nat} {σ:aP} {Q:cw} {P:Program} {ins:List Nat}
set_option maxRecDepth 100000
theorem F3 {g:FuncId} (hf:A.funcs g=some CC) (hh:∀vs H nx,A.aH g vs H nx=none) {pb:Nat} {sv:Value} (hp:ao H (at_ pb)=some (.cells [.slice none 0 0,sv])) :
  WF A g [.pointer (some ⟨pb,0,none⟩)] H nx fun v _ _=>v=.bool true:=by
 refine WF.enter (hh _ _ _) hf ?_
 repeat' (first|(refine WO.k rfl ?_;refine aK ?_)|with_reducible (first|refine WO.nil ?_|refine WC.aa ?_|refine WC.seq ?_|refine WC.block ?_|refine aA ?_))
 refine WC.loop (α:=Unit) (fun _=>[([],.pointer (some ⟨pb,0,none⟩)),(S3,.int .i64 0)]) (fun _ H' nx'=>H'=H∧nx'=nx) (fun _=>0) ?_ () aN ⟨rfl,rfl⟩
 rintro _ _ _ ⟨rfl,rfl⟩
 repeat' (first|((first|refine WO.n rfl ?_|refine WO.k rfl ?_);(first|refine aK ?_|refine cI ?_|refine cH ?_|refine aJ ?_|(refine dt (fun h=>?_) (fun h=>?_)<;>(try simp only [Int.ofNat_eq_natCast] at h))|refine lD ?_))|with_reducible (first|refine WO.nil ?_|refine WC.aa ?_|refine WC.drawn ?_|refine WC.seq ?_|refine WC.skip ?_|refine WC.exit ?_|refine WC.block ?_)|refine WC.ax rfl ?_|refine WC.ay rfl ?_|with_reducible (first|refine aA ?_|refine ef ?_|refine ew ?_))
 all_goals try (exfalso;omega)
 refine WC.loop (α:=Unit) (fun _=>[([],.pointer (some ⟨pb,0,none⟩)),(S6,.int .i64 0)]) (fun _ H' nx'=>H'=_∧nx'=_) (fun _=>0) ?_ () aN ⟨rfl,rfl⟩
 rintro _ _ _ ⟨rfl,rfl⟩
 repeat' (first|((first|refine WO.n rfl ?_|refine WO.k rfl ?_);(first|refine aK ?_|refine cI ?_|refine cH ?_|refine aJ ?_|(refine dt (fun h=>?_) (fun h=>?_)<;>(try simp only [Int.ofNat_eq_natCast] at h))|refine lD ?_))|with_reducible (first|refine WO.nil ?_|refine WC.aa ?_|refine WC.seq ?_|refine WC.skip ?_|refine WC.ret ?_|refine WC.exit ?_|refine WC.block ?_)|refine WC.ax rfl ?_|refine WC.ay rfl ?_|with_reducible (first|refine aA ?_|refine ef ?_|refine ew ?_))
 all_goals first|exact az (vs:=[_]) rfl rfl|(exfalso;omega)
def sD:Value→Nat
 | .slice (some ⟨d,_,_⟩) _ _=>d
 | _=>0
def sO:Value→Nat
 | .slice (some ⟨_,o,_⟩) _ _=>o
 | _=>0
def sN:Value→Nat
 | .slice _ n _=>n
 | _=>0
def sC:Value→Nat
 | .slice _ _ c=>c
 | _=>0
noncomputable def yq (H:Heap) (d:Nat):List Value:=match ao H (at_ d) with
 | some (.cells l)=>l
 | _=>[]
def D1 (vs:List Value) (H:Heap) (nx:Nat):Prop:=∃pb lv sv nx0 us,vs=[.pointer (some ⟨pb,0,none⟩)]∧ao H (at_ pb)=some (.cells [lv,sv])∧bM H nx0 nx 1 lv us.length us∧pb < nx0∧nx0≤nx∧us.length≤100000∧
 (∀(i:Nat) (u:Value),us[i]?=some u→∃d o n c cs,u=.slice (some ⟨d,o,some 1⟩) n c∧ao H (at_ d)=some (.cells cs)∧cs.length=o + n∧n≤4000∧d < nx∧d≠pb∧cf lv≠some d)∧
 ∀(i j:Nat) (u w:Value),us[i]?=some u→us[j]?=some w→cf u=cf w→i=j
theorem CD (hA:BB P ins A) {g:FuncId} (xD:gD P g) (hf:A.funcs g=some CC) (NL:A.funcs 37=some uB) (hh:∀vs H nx,A.aH g vs H nx=none) (AI:∀vs H nx,A.aH 37 vs H nx=none)
  {vs:List Value} (hp:D1 vs H nx):dL P g vs H nx (.ok (.bool true) .e nx):=by
 obtain ⟨pb,lv,sv,nx0,us,rfl,jJ,hg,Ak,r9,yO,yQ,Zg⟩:=hp
 refine dL.refined hA xD rfl fun ρ ws w hv hH=>?_
 obtain ⟨Zh,⟨rfl,h0⟩|⟨rb,rfl,wN,dJ,hr⟩⟩:=hg
 ·exact ⟨_,H,hv,hH,fun _ h=>h,F3 hf hh jJ⟩
 obtain ⟨jf,lX,Kz,hH2,nX⟩:=hH.roomy hr
 have form:∀j,j < us.length→∃d o n c' cs,jf[j]?=some (.slice (some ⟨d,o,some 1⟩) n (2 * c' + 1))∧n≤c'∧c'≤ei∧ao H (at_ d)=some (.cells cs)∧cs.length=o + n∧n≤4000∧d < nx∧d≠pb∧d≠rb∧∃c,us[j]?=some (.slice (some ⟨d,o,some 1⟩) n c):=by
  intro j hj
  have hu:us[j]?=some us[j]:=List.getElem?_eq_getElem hj
  have qi:jf[j]?=some jf[j]:=List.getElem?_eq_getElem (by omega)
  obtain ⟨d,o,n,c,cs,he,g1,g2,g3,g4,g5,g6⟩:=yQ j _ hu
  have oV:=(Kz j _ _ hu qi).1 d o 1 n c he
  obtain ⟨c',q1,q2,q3⟩:=oV
  refine ⟨d,o,n,c',cs,by rw [qi,q1],q2,q3,g1,g2,g3,g4,g5,fun e=>g6 (by rw [e];rfl),c,by rw [hu,he]⟩
 let D:Bw:=⟨pb,rb,us.length,2 * us.length,sv,fun j=>sD (jf.getD j undef),fun j=>sO (jf.getD j undef),fun j=>sC (jf.getD j undef) / 2⟩
 have gO:D.row (fun j=>sN (jf.getD j undef))=jf:=by
  apply List.ext_getElem?
  intro j
  unfold Bw.row
  rw [List.getElem?_map]
  by_cases hj:j < us.length
  ·rw [List.getElem?_range (by exact hj)]
   obtain ⟨d,o,n,c',cs,h1,_⟩:=form j hj
   rw [h1]
   show some (D.v _ j)=_
   unfold Bw.v
   have hd:jf.getD j undef=.slice (some ⟨d,o,some 1⟩) n (2 * c' + 1):=by rw [List.getD_eq_getElem?_getD,h1];rfl
   show some (Value.slice (some ⟨sD (jf.getD j undef),sO (jf.getD j undef),some 1⟩) (sN (jf.getD j undef)) (2 * (sC (jf.getD j undef) / 2) + 1))=_
   rw [hd]
   show some (Value.slice (some ⟨d,o,some 1⟩) n (2 * ((2 * c' + 1) / 2) + 1))=_
   congr 2
   omega
  ·have h1:(List.range D.m)[j]?=none:=List.getElem?_eq_none (by simp;exact Nat.le_of_not_lt hj)
   have h2:jf[j]?=none:=List.getElem?_eq_none (by omega)
   rw [h1,h2];rfl
 refine ⟨_,_,hv,hH2,nX,apart_spec (D:=D) (n:=fun j=>sN (jf.getD j undef)) (cs:=fun j=>yq H (sD (jf.getD j undef))) hf NL hh AI ⟨?_,?_,fun j hj=>?_,?_,⟨?_,dJ⟩,fun i j hi hj he=>?_⟩ yO fun j hj=>?_⟩
 ·show ao (aI H rb jf) (at_ pb)=_
  rw [ak,if_neg (by omega)]
  exact jJ
 ·show ao (aI H rb jf) (at_ rb)=_
  rw [aw,gO]
 ·obtain ⟨d,o,n,c',cs,h1,h2,h3,h4,h5,h6,h7,h8,h9,_⟩:=form j hj
  have hd:jf.getD j undef=.slice (some ⟨d,o,some 1⟩) n (2 * c' + 1):=by rw [List.getD_eq_getElem?_getD,h1];rfl
  have e1:D.d j=d:=by show sD (jf.getD j undef)=d;rw [hd];rfl
  have e2:D.o j=o:=by show sO (jf.getD j undef)=o;rw [hd];rfl
  have e3:D.c j=c':=by show sC (jf.getD j undef) / 2=c';rw [hd];show (2 * c' + 1) / 2=c';omega
  have e4:sD (jf.getD j undef)=d:=by rw [hd];rfl
  have e5:sN (jf.getD j undef)=n:=by rw [hd];rfl
  simp only [e1,e2,e3,e4,e5]
  have hc:yq H d=cs:=by unfold yq;rw [h4]
  rw [hc]
  refine ⟨?_,h5,h2,h3,h7,h9,h8⟩
  show ao (aI H rb jf) (at_ d)=_
  rw [ak,if_neg h9]
  exact h4
 ·show rb≠pb
  omega
 ·show pb < nx
  omega
 ·obtain ⟨d,o,n,c',cs,h1,_,_,_,_,_,_,_,_,c,h2⟩:=form i hi
  obtain ⟨d',o',n',Na,cs',oI,_,_,_,_,_,_,_,_,cc,Bs⟩:=form j hj
  have hd:jf.getD i undef=.slice (some ⟨d,o,some 1⟩) n (2 * c' + 1):=by rw [List.getD_eq_getElem?_getD,h1];rfl
  have K2:jf.getD j undef=.slice (some ⟨d',o',some 1⟩) n' (2 * Na + 1):=by rw [List.getD_eq_getElem?_getD,oI];rfl
  have Br:sD (jf.getD i undef)=sD (jf.getD j undef):=he
  rw [hd,K2] at Br
  have:d=d':=Br
  subst this
  exact Zg i j _ _ h2 Bs rfl
 ·obtain ⟨d,o,n,c',cs,h1,_,_,_,_,h6,_⟩:=form j hj
  have hd:jf.getD j undef=.slice (some ⟨d,o,some 1⟩) n (2 * c' + 1):=by rw [List.getD_eq_getElem?_getD,h1];rfl
  show sN (jf.getD j undef)≤_
  rw [hd]
  exact h6
end Go.Eng

namespace Go.Eng
variable {A:aG} {H:Heap} {nx:Nat} {σ:aP} {Q:cw}
set_option maxRecDepth 100000
def yr (n:Int) (e:Int×Int):Prop:=0≤e.1∧e.1 < n∧0≤e.2∧e.2 < n
instance (n:Int) (e:Int×Int):Decidable (yr n e):=by unfold yr;infer_instance
def kp (n:Int) (es:List (Int×Int)):Prop:=0≤n∧n≤1024∧es.length≤3072∧∀e∈es,yr n e
instance (n:Int) (es:List (Int×Int)):Decidable (kp n es):=by unfold kp;infer_instance
theorem JI {P:Prop} [Decidable P] (h:P):Value.bool true=.bool (decide P):=by rw [decide_eq_true h]
theorem mL {P:Prop} [Decidable P] (h:¬P):Value.bool false=.bool (decide P):=by rw [decide_eq_false h]
theorem Zi {n:Int} {es:List (Int×Int)} {c k b o:Nat} {cs:List Value} {e:Int×Int} (hk:k < es.length) (hb:b < nx) (hr:Rd H b cs) (g1:cs[o + k * 2]?=some (.int .i64 e.1)) (g2:cs[o + k * 2 + 1]?=some (.int .i64 e.2))
  (cO:¬yr n e→∀σ,aT [(S2,.bool false)] σ→Q .ret σ (aI H nx [.int .i64 n,.slice (some ⟨b,o,some 2⟩) es.length c]) (nx + 1))
  (aC:yr n e→∀σ,aT [(S1,.pointer (some ⟨nx,0,none⟩)),(S3,.int .i64 k)] σ→Q (.exit 2) σ (aI H nx [.int .i64 n,.slice (some ⟨b,o,some 2⟩) es.length c]) (nx + 1)) :
  WC A (.loop Ji) [(S1,.pointer (some ⟨nx,0,none⟩)),(S3,.int .i64 k),(S4,.int .i64 (Int.ofNat 0))] (aI H nx [.int .i64 n,.slice (some ⟨b,o,some 2⟩) es.length c]) (nx + 1) Q:=by
 refine WC.loop (α:=Nat) (fun j=>[(S1,.pointer (some ⟨nx,0,none⟩)),(S3,.int .i64 k),(S4,.int .i64 j)])
  (fun j H' nx'=>H'=aI H nx [.int .i64 n,.slice (some ⟨b,o,some 2⟩) es.length c]∧nx'=nx + 1∧j≤2∧(0 < j→0≤e.1∧e.1 < n)∧(1 < j→0≤e.2∧e.2 < n)) (fun j=>2 - j)
  ?_ 0 (aT.cons rfl (aT.cons rfl (aT.cons rfl (aT.nil _)))) ⟨rfl,rfl,Nat.zero_le _,fun h=>by omega,fun h=>by omega⟩
 rintro j _ _ ⟨rfl,rfl,hj,Zj,Bx⟩
 have hc:j < 2→cs[o + k * 2 + j * 1]?=some (.int .i64 (if j=0 then e.1 else e.2)):=by
  intro bR
  rcases (show j=0∨j=1 by omega) with rfl|rfl
  ·exact g1
  ·exact g2
 unfold Ji
 repeat' (first|((first|refine WO.n rfl ?_|refine WO.k rfl ?_);(first|refine cI ?_|refine aJ ?_|refine aZ ?_|refine ux ?_|(refine dt (fun h=>?_) (fun h=>?_)<;>(try simp only [Int.ofNat_eq_natCast] at h))))|with_reducible (first|refine WO.nil ?_|refine WC.aa ?_|refine WC.drawn ?_|refine WC.seq ?_|refine WC.skip ?_|refine WC.exit ?_|refine WC.block ?_)|refine WC.ax rfl ?_|refine WC.ay rfl ?_|with_reducible (first|refine aA ?_|refine ef ?_))
 ·have rV:=hc (by omega)
  clear hc
  repeat' (first|((first|refine WO.n rfl ?_|refine WO.k rfl ?_);(first|refine aK ?_|refine cI ?_|refine fX ?_|refine aJ ?_|refine bj ?_|refine aZ ?_|refine ux ?_|(refine dt (fun h=>?_) (fun h=>?_)<;>(try simp only [Int.ofNat_eq_natCast] at h))|(refine IU (fun h=>?_) (fun h=>?_)<;>(try simp only [Int.ofNat_eq_natCast] at h))|refine ba ?_))|refine WO.cB rfl ?_|refine WO.jH rfl ?_|with_reducible (first|refine WO.nil ?_|refine WC.aa ?_|refine WC.seq ?_|refine WC.skip ?_|refine WC.ret ?_)|refine WC.ax rfl ?_|refine WC.ay rfl ?_|with_reducible (first|refine aA ?_|refine dX ?_|refine dY ?_|refine iA ?_|refine nD ?_))
  ·exact cO (fun h=>by unfold yr at h;split at *<;>omega) _ (aT.cons rfl (aT.nil _))
  ·exact cO (fun h=>by unfold yr at h;split at *<;>omega) _ (aT.cons rfl (aT.nil _))
  ·exact ⟨j + 1,by omega,aT.cons rfl (aT.cons rfl (aT.cons rfl (aT.nil _))),rfl,rfl,by omega,fun _=>by split at *<;>omega,fun _=>by split at *<;>omega⟩
 ·exact aC (by have:=Zj (by omega);have:=Bx (by omega);unfold yr;omega) _ (aT.cons rfl (aT.cons rfl (aT.nil _)))
theorem Zk {n:Int} {es:List (Int×Int)} {base:Option Addr} {c:Nat} (he:bP H nx 2 bH (.slice base es.length c) es) (hlen:es.length≤3072)
  (cO:¬(∀e∈es,yr n e)→∀σ,aT [(S2,.bool false)] σ→Q .ret σ (aI H nx [.int .i64 n,.slice base es.length c]) (nx + 1))
  (aC:(∀e∈es,yr n e)→∀σ,Q (.exit 0) σ (aI H nx [.int .i64 n,.slice base es.length c]) (nx + 1)) :
  WC A (.loop Jj) [(S1,.pointer (some ⟨nx,0,none⟩)),(S3,.int .i64 (Int.ofNat 0))] (aI H nx [.int .i64 n,.slice base es.length c]) (nx + 1) Q:=by
 refine WC.loop (α:=Nat) (fun k=>[(S1,.pointer (some ⟨nx,0,none⟩)),(S3,.int .i64 k)]) (fun k H' nx'=>H'=aI H nx [.int .i64 n,.slice base es.length c]∧nx'=nx + 1∧k≤es.length∧∀(i:Nat) e,i < k→es[i]?=some e→yr n e) (fun k=>es.length - k)
  ?_ 0 (aT.cons rfl (aT.cons rfl (aT.nil _))) ⟨rfl,rfl,Nat.zero_le _,fun i e h=>by omega⟩
 rintro k _ _ ⟨rfl,rfl,hk,dW⟩
 unfold Jj
 repeat' (first|((first|refine WO.n rfl ?_|refine WO.k rfl ?_);(first|refine aK ?_|refine cI ?_|refine cH ?_|refine aJ ?_|(refine dt (fun h=>?_) (fun h=>?_)<;>(try simp only [Int.ofNat_eq_natCast] at h))))|with_reducible (first|refine WO.nil ?_|refine WC.aa ?_|refine WC.seq ?_|refine WC.skip ?_|refine WC.exit ?_|refine WC.block ?_)|refine WC.ax rfl ?_|refine WC.ay rfl ?_|with_reducible (first|refine aA ?_|refine ef ?_))
 ·obtain ⟨b,o,cs,rfl,hb,_,_,hr,sw⟩:=he.at (by intro e;rw [e] at h;simp at h;omega)
  have bR:k < es.length:=by omega
  obtain ⟨g1,g2⟩:=Nl (sw k es[k] (by simp [bR]))
  refine WC.sub (aT.cons rfl (aT.cons rfl (aT.cons rfl (aT.nil _)))) (Zi (e:=es[k]) bR hb hr g1 g2 (fun hn σ hσ=>?_) (fun hy σ hσ=>?_))
  ·repeat' (first|with_reducible (first|refine dX ?_|refine iA ?_))
   exact cO (fun h=>hn (h _ (List.getElem_mem bR))) _ hσ
  ·refine WC.sub hσ ?_
   repeat' (first|((first|refine WO.n rfl ?_|refine WO.k rfl ?_);(first|refine aK ?_|refine ba ?_))|with_reducible (first|refine WO.nil ?_|refine WC.aa ?_))
   exact ⟨k + 1,by omega,aT.cons rfl (aT.cons rfl (aT.nil _)),rfl,rfl,by omega,fun i e hi he=>by
    rcases (show i < k∨i=k by omega) with h|rfl
    ·exact dW i e h he
    ·have:e=es[i]:=by rw [List.getElem?_eq_getElem bR] at he;simpa using he.symm
     rw [this];exact hy⟩
 ·refine aC (fun e Br=>?_) _
  obtain ⟨i,hi,rfl⟩:=List.getElem_of_mem Br
  exact dW i _ (by omega) (List.getElem?_eq_getElem hi)
theorem AJ {g:FuncId} (hf:A.funcs g=some Jy) (hh:∀vs H nx,A.aH g vs H nx=none) {n:Int} {ev:Value} {es:List (Int×Int)} (he:bP H nx 2 bH ev es) :
  WF A g [.agg #[.int .i64 n,ev]] H nx fun v H' nx'=>v=.bool (decide (kp n es))∧an H H' nx∧nx≤nx':=by
 obtain ⟨base,c,rfl⟩:=he.form
 refine WF.enter (hh _ _ _) hf ?_
 repeat' (first|((first|refine WO.n rfl ?_|refine WO.k rfl ?_);(first|refine aK ?_|refine cI ?_|refine cH ?_|refine jL ?_|refine fX ?_|refine aJ ?_|(refine dt (fun h=>?_) (fun h=>?_)<;>(try simp only [Int.ofNat_eq_natCast] at h))|(refine Bu (fun h=>?_) (fun h=>?_)<;>(try simp only [Int.ofNat_eq_natCast] at h))))|refine WO.cB rfl ?_|refine WO.jH rfl ?_|with_reducible (first|refine WO.nil ?_|refine WC.aa ?_|refine WC.seq ?_|refine WC.skip ?_|refine WC.ret ?_|refine WC.block ?_)|refine WC.ax rfl ?_|refine WC.ay rfl ?_|with_reducible (first|refine aA ?_|refine dX ?_))
 ·exact az rfl ⟨mL fun hm=>by have:=hm.1;omega,an.refl.set (Nat.le_refl _),by omega⟩
 ·exact az rfl ⟨mL fun hm=>by have:=hm.2.1;omega,an.refl.set (Nat.le_refl _),by omega⟩
 ·exact az rfl ⟨mL fun hm=>by have:=hm.2.2.1;omega,an.refl.set (Nat.le_refl _),by omega⟩
 ·refine WC.sub (aT.cons rfl (aT.cons rfl (aT.nil _))) (Zk he (by omega) (fun hn σ hσ=>?_) (fun hy σ=>?_))
  ·repeat' (first|with_reducible (first|refine dX ?_|refine iA ?_))
   exact cZ (vs:=[_]) hσ rfl ⟨mL fun hm=>hn hm.2.2.2,an.refl.set (Nat.le_refl _),by omega⟩
  ·refine ew (aA (WC.sub (aT.nil _) ?_))
   repeat' (first|(refine WO.k rfl ?_;refine aK ?_)|with_reducible (first|refine WO.nil ?_|refine WC.aa ?_|refine WC.seq ?_|refine WC.ret ?_|refine aA ?_))
   exact az (vs:=[_]) rfl ⟨JI (P:=kp n es) ⟨by omega,by omega,by omega,hy⟩,an.refl.set (Nat.le_refl _),by omega⟩
end Go.Eng

namespace Go.Eng
variable {A:aG} {H:Heap} {nx:Nat} {σ:aP} {Q:cw}
set_option maxRecDepth 100000
theorem UF {n:Int} {k m:Nat} {sv:Value} {e:Int×Int} (hr:Rd H nx [.int .i64 n,sv]) {nx':Nat}
  (cO:¬yr n e→∀σ,aT [(S2,.bool false)] σ→Q .ret σ H nx')
  (aC:yr n e→∀σ,aT [(S1,.pointer (some ⟨nx,0,none⟩)),(va,sv),(sL,.int .i64 m),(u9,.int .i64 k)] σ→Q (.exit 2) σ H nx') :
  WC A (.loop Cy) [(S1,.pointer (some ⟨nx,0,none⟩)),(va,sv),(sL,.int .i64 m),(u9,.int .i64 k),(FQ,.agg ⟨bH e⟩),(DV,.int .i64 (Int.ofNat 0))] H nx' Q:=by
 refine WC.loop (α:=Nat) (fun j=>[(S1,.pointer (some ⟨nx,0,none⟩)),(va,sv),(sL,.int .i64 m),(u9,.int .i64 k),(FQ,.agg ⟨bH e⟩),(DV,.int .i64 j)])
  (fun j H' nx2=>H'=H∧nx2=nx'∧j≤2∧(0 < j→0≤e.1∧e.1 < n)∧(1 < j→0≤e.2∧e.2 < n)) (fun j=>2 - j)
  ?_ 0 aN ⟨rfl,rfl,Nat.zero_le _,fun h=>by omega,fun h=>by omega⟩
 rintro j _ _ ⟨rfl,rfl,hj,Zj,Bx⟩
 have hc:j < 2→(bH e)[j * 1]?=some (.int .i64 (if j=0 then e.1 else e.2)):=by
  intro bR
  rcases (show j=0∨j=1 by omega) with rfl|rfl<;>rfl
 unfold Cy
 repeat' (first|((first|refine WO.n rfl ?_|refine WO.k rfl ?_);(refine dt (fun h=>?_) (fun h=>?_)<;>(try simp only [Int.ofNat_eq_natCast] at h)))|with_reducible (first|refine WO.nil ?_|refine WC.aa ?_|refine WC.seq ?_|refine WC.skip ?_|refine WC.exit ?_|refine WC.block ?_)|refine WC.ax rfl ?_|refine WC.ay rfl ?_|with_reducible (first|refine aA ?_|refine ef ?_))
 ·have rV:=hc (by omega)
  clear hc
  repeat' (first|((first|refine WO.n rfl ?_|refine WO.k rfl ?_);(first|refine aK ?_|refine cI ?_|refine fX ?_|refine aJ ?_|refine TH ?_|(refine dt (fun h=>?_) (fun h=>?_)<;>(try simp only [Int.ofNat_eq_natCast] at h))|(refine IU (fun h=>?_) (fun h=>?_)<;>(try simp only [Int.ofNat_eq_natCast] at h))|refine ba ?_))|refine WO.cB rfl ?_|refine WO.jH rfl ?_|with_reducible (first|refine WO.nil ?_|refine WC.aa ?_|refine WC.seq ?_|refine WC.skip ?_|refine WC.ret ?_)|refine WC.ax rfl ?_|refine WC.ay rfl ?_|with_reducible (first|refine aA ?_|refine dX ?_|refine dY ?_|refine iA ?_))
  ·exact cO (fun h=>by unfold yr at h;split at *<;>omega) _ aN
  ·exact cO (fun h=>by unfold yr at h;split at *<;>omega) _ aN
  ·exact ⟨j + 1,by omega,.cons rfl aN,rfl,rfl,by omega,fun _=>by split at *<;>omega,fun _=>by split at *<;>omega⟩
 ·exact aC (by have:=Zj (by omega);have:=Bx (by omega);unfold yr;omega) _ aN
theorem UG {H0:Heap} {n:Int} {es:List (Int×Int)} {base:Option Addr} {c aY:Nat} (he:bP H0 nx 2 bH (.slice base es.length c) es) (hlen:es.length≤3072) (hr:Rd H nx [.int .i64 n,.slice base es.length c]) (hs:an H0 H nx) (hn:nx < aY)
  (cO:¬(∀e∈es,yr n e)→∀σ H' nx',aT [(S2,.bool false)] σ→an H0 H' nx→nx≤nx'→Q .ret σ H' nx')
  (aC:(∀e∈es,yr n e)→∀σ H' nx',an H0 H' nx→nx≤nx'→Q (.exit 0) σ H' nx') :
  WC A (.loop Cz) [(S1,.pointer (some ⟨nx,0,none⟩)),(va,.slice base es.length c),(sL,.int .i64 es.length),(u9,.int .i64 (Int.ofNat 0))] H aY Q:=by
 refine WC.loop (α:=Nat) (fun k=>[(S1,.pointer (some ⟨nx,0,none⟩)),(va,.slice base es.length c),(sL,.int .i64 es.length),(u9,.int .i64 k)]) (fun k H' nx'=>Rd H' nx [.int .i64 n,.slice base es.length c]∧an H0 H' nx∧nx < nx'∧k≤es.length∧∀(i:Nat) e,i < k→es[i]?=some e→yr n e) (fun k=>es.length - k)
  ?_ 0 aN ⟨hr,hs,hn,Nat.zero_le _,fun i e h=>by omega⟩
 clear hr hs hn
 rintro k H aY ⟨hr,hs,hn,hk,dW⟩
 unfold Cz
 repeat' (first|((first|refine WO.n rfl ?_|refine WO.k rfl ?_);(refine dt (fun h=>?_) (fun h=>?_)<;>(try simp only [Int.ofNat_eq_natCast] at h)))|with_reducible (first|refine WO.nil ?_|refine WC.aa ?_|refine WC.seq ?_|refine WC.skip ?_|refine WC.exit ?_|refine WC.block ?_)|refine WC.ax rfl ?_|refine WC.ay rfl ?_|with_reducible (first|refine aA ?_|refine ef ?_))
 ·obtain ⟨b,o,cs,rfl,hb,_,_,jo,sw⟩:=he.at (by intro e;rw [e] at h;simp at h;omega)
  have bR:k < es.length:=by omega
  have yN:=sw k es[k] (by simp [bR])
  have aa2:=hs.rd hb jo
  repeat' (first|((first|refine WO.n rfl ?_|refine WO.k rfl ?_);(first|refine aK ?_|refine uw ?_|refine aJ ?_|refine IT ?_|refine aZ ?_|refine iQ ?_))|with_reducible (first|refine WO.nil ?_|refine WC.aa ?_|refine WC.seq ?_|refine WC.block ?_|refine aA ?_))
  refine WC.sub aN (UF (nx:=nx) (e:=es[k]) (n:=n) V6 (fun MX σ hσ=>?_) (fun hy σ hσ=>?_))
  ·repeat' (first|with_reducible (first|refine dX ?_|refine iA ?_))
   exact cO (fun h=>MX (h _ (List.getElem_mem bR))) _ _ _ hσ ((hs.set (by omega)).set (by omega)) (by omega)
  ·refine ew (dY (aA (WC.sub hσ ?_)))
   repeat' (first|((first|refine WO.n rfl ?_|refine WO.k rfl ?_);(first|refine aK ?_|refine ba ?_))|with_reducible (first|refine WO.nil ?_|refine WC.aa ?_))
   exact ⟨k + 1,by omega,.cons rfl aN,by (with_reducible (first|exact Rd.self|assumption|exact Rd.own (by assumption)|((repeat ((apply Rd.skip);(with_unfolding_all omega)));first|exact Rd.self|assumption|exact Rd.own (by assumption)))),(hs.set (by omega)).set (by omega),by omega,by omega,fun i e hi he=>by
    rcases (show i < k∨i=k by omega) with h|rfl
    ·exact dW i e h he
    ·have:e=es[i]:=by rw [List.getElem?_eq_getElem bR] at he;simpa using he.symm
     rw [this];exact hy⟩
 ·refine aC (fun e Br=>?_) _ _ _ hs (by omega)
  obtain ⟨i,hi,rfl⟩:=List.getElem_of_mem Br
  exact dW i _ (by omega) (List.getElem?_eq_getElem hi)
theorem qT {g:FuncId} (hf:A.funcs g=some rJ) (hh:∀vs H nx,A.aH g vs H nx=none) {n:Int} {ev:Value} {es:List (Int×Int)} (he:bP H nx 2 bH ev es) :
  WF A g [.agg #[.int .i64 n,ev]] H nx fun v H' nx'=>v=.bool (decide (kp n es))∧an H H' nx∧nx≤nx':=by
 obtain ⟨base,c,rfl⟩:=he.form
 refine WF.enter (hh _ _ _) hf ?_
 repeat' (first|((first|refine WO.n rfl ?_|refine WO.k rfl ?_);(first|refine aK ?_|refine cI ?_|refine cH ?_|refine jL ?_|refine fX ?_|refine aJ ?_|(refine dt (fun h=>?_) (fun h=>?_)<;>(try simp only [Int.ofNat_eq_natCast] at h))|(refine Bu (fun h=>?_) (fun h=>?_)<;>(try simp only [Int.ofNat_eq_natCast] at h))))|refine WO.cB rfl ?_|refine WO.jH rfl ?_|with_reducible (first|refine WO.nil ?_|refine WC.aa ?_|refine WC.seq ?_|refine WC.skip ?_|refine WC.ret ?_|refine WC.block ?_)|refine WC.ax rfl ?_|refine WC.ay rfl ?_|with_reducible (first|refine aA ?_|refine dX ?_))
 ·exact az rfl ⟨mL fun hm=>by have:=hm.1;omega,an.refl.set (Nat.le_refl _),by omega⟩
 ·exact az rfl ⟨mL fun hm=>by have:=hm.2.1;omega,an.refl.set (Nat.le_refl _),by omega⟩
 ·exact az rfl ⟨mL fun hm=>by have:=hm.2.2.1;omega,an.refl.set (Nat.le_refl _),by omega⟩
 ·refine WC.sub aN (UG he (by omega) Rd.self (an.refl.set (Nat.le_refl _)) (by omega) (fun hn σ H' nx' hσ hs hx=>?_) (fun hy σ H' nx' hs hx=>?_))
  ·repeat' (first|with_reducible (first|refine dX ?_|refine iA ?_))
   exact cZ (vs:=[_]) hσ rfl ⟨mL fun hm=>hn hm.2.2.2,hs,hx⟩
  ·refine ew (aA (WC.sub (aT.nil _) ?_))
   repeat' (first|(refine WO.k rfl ?_;refine aK ?_)|with_reducible (first|refine WO.nil ?_|refine WC.aa ?_|refine WC.seq ?_|refine WC.ret ?_|refine aA ?_))
   exact az (vs:=[_]) rfl ⟨JI (P:=kp n es) ⟨by omega,by omega,by omega,hy⟩,hs,hx⟩
end Go.Eng

namespace Go.Eng
variable {A:aG} {H:Heap} {nx:Nat} {σ:aP} {Q:cw}
set_option maxRecDepth 100000
theorem RH {g:FuncId} (hf:A.funcs g=some NF) (hh:∀vs H nx,A.aH g vs H nx=none) {av bv:Value} {a b:List Int} (ha:bP H nx 1 aW av a) (hb:bP H nx 1 aW bv b) (Wk:a.length≤4000) :
  WF A g [av,bv] H nx fun v H' nx'=>H'=H∧nx'=nx∧v=.bool (decide (a=b)):=by
 obtain ⟨base,c,rfl⟩:=ha.form
 obtain ⟨AL,bc,rfl⟩:=hb.form
 refine WF.enter (hh _ _ _) hf ?_
 repeat' (first|((first|refine WO.n rfl ?_|refine WO.k rfl ?_);(first|refine aK ?_|refine cH ?_|(refine ke (fun h=>?_) (fun h=>?_)<;>(try simp only [Int.ofNat_eq_natCast] at h))))|with_reducible (first|refine WO.nil ?_|refine WC.aa ?_|refine WC.seq ?_|refine WC.skip ?_|refine WC.ret ?_|refine WC.block ?_)|refine WC.ax rfl ?_|refine WC.ay rfl ?_|with_reducible (first|refine aA ?_|refine dX ?_))
 ·exact az (vs:=[_]) rfl ⟨rfl,rfl,by rw [decide_eq_false (fun e=>by rw [e] at h;exact h rfl)];rfl⟩
 ·have xn:a.length=b.length:=by omega
  refine WC.loop (α:=Nat) (fun k=>[([],.slice base a.length c),(S1,.slice AL b.length bc),(S5,.int .i64 k)]) (fun k H' nx'=>H'=H∧nx'=nx∧k≤a.length∧∀i:Nat,i < k→a[i]?=b[i]?) (fun k=>a.length - k)
   ?_ 0 aN ⟨rfl,rfl,Nat.zero_le _,fun i h=>by omega⟩
  rintro k _ _ ⟨rfl,rfl,hk,dW⟩
  repeat' (first|((first|refine WO.n rfl ?_|refine WO.k rfl ?_);(first|refine aK ?_|refine cH ?_|(refine dt (fun h=>?_) (fun h=>?_)<;>(try simp only [Int.ofNat_eq_natCast] at h))))|with_reducible (first|refine WO.nil ?_|refine WC.aa ?_|refine WC.drawn ?_|refine WC.seq ?_|refine WC.skip ?_|refine WC.ret ?_|refine WC.exit ?_|refine WC.block ?_)|refine WC.ax rfl ?_|refine WC.ay rfl ?_|with_reducible (first|refine aA ?_|refine ef ?_|refine ew ?_))
  ·have Ig:k < a.length:=by omega
   have vJ:k < b.length:=by omega
   obtain ⟨b1,o1,zw,rfl,_,_,_,oV,Qj⟩:=ha.at (by intro e;rw [e] at Ig;simp at Ig)
   obtain ⟨b2,o2,jf,rfl,_,_,_,wk,FH⟩:=hb.at (by intro e;rw [e] at vJ;simp at vJ)
   have hx:=en (v:=.int .i64 a[k]) (Qj k a[k] (by simp [Ig]))
   have hy:=en (v:=.int .i64 b[k]) (FH k b[k] (by simp [vJ]))
   repeat' (first|((first|refine WO.n rfl ?_|refine WO.k rfl ?_);(first|refine aK ?_|refine bj ?_|refine aZ ?_|(refine ke (fun h=>?_) (fun h=>?_)<;>(try simp only [Int.ofNat_eq_natCast] at h))|refine ba ?_))|with_reducible (first|refine WO.nil ?_|refine WC.aa ?_|refine WC.seq ?_|refine WC.skip ?_|refine WC.ret ?_)|refine WC.ax rfl ?_|refine WC.ay rfl ?_|with_reducible (first|refine aA ?_|refine dX ?_|refine dY ?_|refine iA ?_|refine nD ?_))
   ·exact az (vs:=[_]) rfl ⟨rfl,rfl,by rw [decide_eq_false (fun e=>h (by simp only [e]))];rfl⟩
   ·refine ⟨k + 1,by omega,.cons rfl aN,rfl,rfl,by omega,fun i hi=>?_⟩
    rcases (show i < k∨i=k by omega) with h5|rfl
    ·exact dW i h5
    ·rw [List.getElem?_eq_getElem Ig,List.getElem?_eq_getElem vJ,Classical.not_not.1 h]
  ·refine az (vs:=[_]) rfl ⟨rfl,rfl,?_⟩
   rw [decide_eq_true (List.ext_getElem? fun i=>?_)]
   ·rfl
   ·rcases Nat.lt_or_ge i k with h5|h5
    ·exact dW i h5
    ·rw [List.getElem?_eq_none (by omega),List.getElem?_eq_none (by omega)]
end Go.Eng

namespace Go.Eng
abbrev Ed:=Int×Int
def ct (es:List Ed) (h:Nat):Int:=if h % 2=0 then (es.getD (h / 2) (0,0)).1 else (es.getD (h / 2) (0,0)).2
def bad (es:List Ed) (s:List Bool) (x:Nat×Int):Bool:=decide (x.2 < 0)||(decide ((s.length:Int)≤x.2)||(s.getD x.2.toNat false||decide (ct es x.2.toNat≠x.1)))
def gM (es:List Ed) (s:Option (List Bool)) (x:Nat×Int):Option (List Bool):=s.bind fun s=>if bad es s x then none else some (s.set x.2.toNat true)
def rowP (r:List (List Int)) (v k:Nat):List (Nat×Int):=((r.getD v []).take k).map fun h=>(v,h)
def hM (r:List (List Int)) (v:Nat):List (Nat×Int):=(List.range v).flatMap fun v=>(r.getD v []).map fun h=>(v,h)
def lQ (es:List Ed):List Bool:=List.replicate (2 * es.length) false
def fy (es:List Ed) (xs:List (Nat×Int)):Option (List Bool):=xs.foldl (gM es) (some (lQ es))
def bq (n:Int) (es:List Ed) (r:List (List Int)):Int:=if kp n es then (if (r.length:Int)=n then (match fy es (hM r r.length) with
  | none=>4
  | some _=>if (hM r r.length).length=2 * es.length then 0 else 4) else 4) else 1
theorem jz (r:List (List Int)) (v:Nat):hM r (v + 1)=hM r v++rowP r v (r.getD v []).length:=by
 unfold hM rowP
 rw [List.range_succ,List.flatMap_append,List.take_length];simp
theorem wV {r:List (List Int)} {v k:Nat} (hk:k < (r.getD v []).length):rowP r v (k + 1)=rowP r v k++[(v,(r.getD v [])[k])]:=by
 unfold rowP
 rw [List.take_succ_eq_append_getElem hk,List.map_append];rfl
theorem nj (r:List (List Int)) (v:Nat):rowP r v 0=[]:=by simp [rowP]
theorem uF (es:List Ed):∀xs:List (Nat×Int),xs.foldl (gM es) none=none:=by
 intro xs
 induction xs with
 | nil=>rfl
 | cons x xs ih=>exact ih
theorem AM (es:List Ed) (xs ys:List (Nat×Int)):fy es (xs++ys)=ys.foldl (gM es) (fy es xs):=by
 unfold fy;rw [List.foldl_append]
theorem pH (es:List Ed) (xs:List (Nat×Int)) (x:Nat×Int):fy es (xs++[x])=gM es (fy es xs) x:=by rw [AM];rfl
theorem uG {es:List Ed} {xs ys:List (Nat×Int)} (h:fy es xs=none):fy es (xs++ys)=none:=by rw [AM,h,uF]
theorem Mb (r:List (List Int)) {v w:Nat} (h:v≤w):∃ys,hM r w=hM r v++ys:=by
 induction w with
 | zero=>
   obtain rfl:v=0:=by omega
   exact ⟨[],by simp⟩
 | succ w ih=>
  by_cases e:v=w + 1
  ·subst e;exact ⟨[],by simp⟩
  ·obtain ⟨ys,h1⟩:=ih (by omega)
   exact ⟨ys++rowP r w (r.getD w []).length,by rw [jz,h1,List.append_assoc]⟩
theorem uH (r:List (List Int)) (v:Nat) {k:Nat} (hk:k≤(r.getD v []).length):∃ys,rowP r v (r.getD v []).length=rowP r v k++ys:=by
 refine ⟨((r.getD v []).drop k).map fun h=>(v,h),?_⟩
 unfold rowP
 rw [← List.map_append,List.take_append_drop,List.take_length]
theorem AN {es:List Ed} {r:List (List Int)} {v k:Nat} (hv:v < r.length) (hk:k≤(r.getD v []).length) (h:fy es (hM r v++rowP r v k)=none):fy es (hM r r.length)=none:=by
 obtain ⟨ys,h1⟩:=Mb r (show v + 1≤r.length from hv)
 obtain ⟨zs,h2⟩:=uH r v hk
 rw [h1,jz,h2,← List.append_assoc (hM r v),List.append_assoc]
 exact uG h
theorem AP {es:List Ed} {s s1:List Bool} {x:Nat×Int} (h:gM es (some s) x=some s1):bad es s x=false∧s1=s.set x.2.toNat true:=by
 have h':(if bad es s x then none else some (s.set x.2.toNat true))=some s1:=h
 cases hb:bad es s x with
 | true=>rw [hb] at h';cases h'
 | false=>rw [hb] at h';cases h';exact ⟨rfl,rfl⟩
theorem mM {es:List Ed} {s:List Bool} {x:Nat×Int} (h:x.2 < 0∨(s.length:Int)≤x.2∨s.getD x.2.toNat false=true∨ct es x.2.toNat≠x.1):bad es s x=true:=by
 simp only [bad,Bool.or_eq_true,decide_eq_true_eq]
 exact h
theorem D6 {es:List Ed} {s:List Bool} {x:Nat×Int} (h1:0≤x.2) (h2:x.2 < (s.length:Int)) (h3:s.getD x.2.toNat false=false) (h4:ct es x.2.toNat=x.1):bad es s x=false:=by
 cases hb:bad es s x with
 | false=>rfl
 | true=>
  simp only [bad,Bool.or_eq_true,decide_eq_true_eq] at hb
  rcases hb with h|h|h|h
  ·omega
  ·omega
  ·rw [h3] at h;cases h
  ·exact absurd h4 h
theorem wW {es:List Ed} {s:List Bool} {x:Nat×Int} (h:bad es s x=false):0≤x.2∧x.2 < s.length∧s[x.2.toNat]?=some false∧ct es x.2.toNat=x.1:=by
 simp only [bad,Bool.or_eq_false_iff,decide_eq_false_iff_not] at h
 obtain ⟨b1,b2,b3,b4⟩:=h
 have bR:x.2.toNat < s.length:=by omega
 refine ⟨by omega,by omega,?_,Classical.not_not.1 b4⟩
 rw [List.getD_eq_getElem?_getD,List.getElem?_eq_getElem bR] at b3
 rw [List.getElem?_eq_getElem bR]
 exact congrArg some b3
theorem CH {es:List Ed}:∀{xs:List (Nat×Int)} {s0 s:List Bool},xs.foldl (gM es) (some s0)=some s→s.length=s0.length∧s.count true=s0.count true + xs.length:=by
 intro xs
 induction xs with
 | nil=>intro s0 s h;cases h;exact ⟨rfl,rfl⟩
 | cons x xs ih=>
  intro s0 s h
  rw [List.foldl_cons] at h
  cases h1:gM es (some s0) x with
  | none=>rw [h1,uF] at h;cases h
  | some s1=>
   rw [h1] at h
   obtain ⟨hb,rfl⟩:=AP h1
   obtain ⟨b1,b2,b3,_⟩:=wW hb
   obtain ⟨g1,g2⟩:=ih h
   have bR:x.2.toNat < s0.length:=by omega
   refine ⟨by simpa using g1,?_⟩
   rw [g2,List.count_set bR]
   have:s0[x.2.toNat]=false:=by rw [List.getElem?_eq_getElem bR] at b3;exact Option.some.inj b3
   rw [this,List.length_cons]
   simp
   omega
theorem lI {es:List Ed} {xs:List (Nat×Int)} {s:List Bool} (h:fy es xs=some s):s.length=2 * es.length∧s.count true=xs.length:=by
 obtain ⟨h1,h2⟩:=CH h
 exact ⟨by simpa [lQ] using h1,by simpa [lQ,List.count_replicate] using h2⟩
theorem sR {es:List Ed} {xs:List (Nat×Int)} {s:List Bool} (h:fy es xs=some s):xs.length≤2 * es.length:=by
 obtain ⟨h1,h2⟩:=lI h
 have:=List.count_le_length (a:=true) (l:=s)
 omega
end Go.Eng

namespace Go.Eng
variable {A:aG} {H H':Heap} {nx nx':Nat} {σ:aP} {Q:cw}
set_option maxRecDepth 100000
def bV (H:Heap) (b:Nat) (s:List Bool):Prop:=ao H (at_ b)=some (.cells (s.map .bool))
theorem bV.set {b:Nat} {s:List Bool} {i:Nat} (h:bV H b s):bV (aI H b ((s.map .bool).set i (.bool true))) b (s.set i true):=by
 unfold bV
 rw [aw,List.map_set]
theorem JJ {s:List Bool} {i:Nat} {x:Bool} (h:s[i]?=some x):(s.map Value.bool)[0 + i * 1]?=some (.bool x):=by
 rw [Nat.zero_add,Nat.mul_one,List.getElem?_map,h];rfl
theorem kM {es:List Ed} {eo:Nat} {G2:List Value} {e:Nat} (he:e < es.length) (vN:∀(i:Nat) (x:Ed),es[i]?=some x→take? 2 (G2.drop (eo + i * 2))=some (bH x)) {q:Nat} (hq:q < 2) :
  G2[eo + e * 2 + q * 1]?=some (.int .i64 (ct es (2 * e + q))):=by
 have hx:es[e]?=some es[e]:=List.getElem?_eq_getElem he
 obtain ⟨g1,g2⟩:=Nl (v:=.int .i64 es[e].1) (u:=.int .i64 es[e].2) (vN e _ hx)
 have hg:es.getD e (0,0)=es[e]:=by rw [List.getD_eq_getElem?_getD,hx];rfl
 rcases (show q=0∨q=1 by omega) with rfl|rfl
 ·unfold ct
  rw [if_pos (by omega),show (2 * e + 0) / 2=e by omega,hg]
  simpa using g1
 ·unfold ct
  rw [if_neg (by omega),show (2 * e + 1) / 2=e by omega,hg]
  simpa using g2
theorem rmI {n:Int} {es:List Ed} {r:List (List Int)} {nb sb v:Nat} {base ib:Option Addr} {ec ic sc:Nat} {ov oc:Value} {H0:Heap} {s:List Bool}
  (he:bP H0 nb 2 bH (.slice base es.length ec) es) (hi:bP H0 nb 1 aW (.slice ib (r.getD v []).length ic) (r.getD v [])) (oG:(r.getD v []).length≤1048576) (eB:es.length≤4000) (Cn:v≤1048576)
  (hs:bV H sb s) (zc:fy es (hM r v)=some s) (ym:nb < sb) (p5:sb < nx) (bN:an H0 H nb) (po:Rd H nb [.int .i64 n,.slice base es.length ec]) (lO:2 * es.length≤aE sc)
  (cO:∀σ H' nx',fy es (hM r v++rowP r v (r.getD v []).length)=none→aT [(S4,.int .i64 4)] σ→an H0 H' nb→nx≤nx'→Q .ret σ H' nx')
  (aC:∀σ H' nx' s',aT [(S2,.pointer (some ⟨nb,0,none⟩)),(S5,.slice (some ⟨sb,0,some 1⟩) (2 * es.length) sc),(S6,.int .i64 (((hM r v++rowP r v (r.getD v []).length).length:Nat):Int)),(u9,ov),(vM,oc),(wP,.int .i64 ((v:Nat):Int))] σ→
   fy es (hM r v++rowP r v (r.getD v []).length)=some s'→bV H' sb s'→an H0 H' nb→Rd H' nb [.int .i64 n,.slice base es.length ec]→nx≤nx'→Q (.exit 2) σ H' nx') :
  WC A (.loop PO) [(S2,.pointer (some ⟨nb,0,none⟩)),(S5,.slice (some ⟨sb,0,some 1⟩) (2 * es.length) sc),(S6,.int .i64 (((hM r v).length:Nat):Int)),(u9,ov),(vM,oc),(wP,.int .i64 ((v:Nat):Int)),(S7,.int .i64 ((v:Nat):Int)),(KB,.slice ib (r.getD v []).length ic),(AF,.int .i64 (((r.getD v []).length:Nat):Int)),(yd,.int .i64 0)] H nx Q:=by
 refine WC.loop (α:=Nat×List Bool) (fun k=>[(S2,.pointer (some ⟨nb,0,none⟩)),(S5,.slice (some ⟨sb,0,some 1⟩) (2 * es.length) sc),(S6,.int .i64 (((hM r v++rowP r v k.1).length:Nat):Int)),(u9,ov),(vM,oc),(wP,.int .i64 ((v:Nat):Int)),(S7,.int .i64 ((v:Nat):Int)),(KB,.slice ib (r.getD v []).length ic),(AF,.int .i64 (((r.getD v []).length:Nat):Int)),(yd,.int .i64 ((k.1:Nat):Int))])
  (fun k H' nx'=>k.1≤(r.getD v []).length∧nx≤nx'∧fy es (hM r v++rowP r v k.1)=some k.2∧bV H' sb k.2∧an H0 H' nb∧Rd H' nb [.int .i64 n,.slice base es.length ec]) (fun k=>(r.getD v []).length - k.1)
  ?_ (0,s) (.cons rfl (.cons rfl (.cons ?_ (.cons rfl (.cons rfl (.cons rfl (.cons rfl (.cons rfl (.cons rfl (.cons rfl (.nil _))))))))))) ⟨Nat.zero_le _,Nat.le_refl _,by rw [nj,List.append_nil];exact zc,hs,bN,po⟩
 ·rintro ⟨k,s1⟩ H1 aY ⟨hk,b9,kV,aS,aQ,hO⟩
  simp only at hk kV aS ⊢
  obtain ⟨gx,iU⟩:=lI kV
  have hle:=sR kV
  have F4:ao H1 (at_ sb)=some (.cells (s1.map .bool)):=aS
  unfold PO
  repeat' (first|((first|refine WO.n rfl ?_|refine WO.k rfl ?_);(refine dt (fun h=>?_) (fun h=>?_)<;>(try simp only [Int.ofNat_eq_natCast] at h)))|with_reducible (first|refine WO.nil ?_|refine WC.aa ?_|refine WC.seq ?_|refine WC.skip ?_|refine WC.exit ?_|refine WC.block ?_)|refine WC.ax rfl ?_|refine WC.ay rfl ?_|with_reducible (first|refine aA ?_|refine ef ?_))
  ·have bF:k < (r.getD v []).length:=by omega
   obtain ⟨bb,bo,D7,rfl,ou,_,_,qU,oy⟩:=hi.at (by intro e;rw [e] at bF;simp at bF)
   have q1:=en (v:=.int .i64 (r.getD v [])[k]) (oy k _ (List.getElem?_eq_getElem bF))
   have sf:=aQ.rd ou qU
   generalize hx:(r.getD v [])[k]=x at q1
   have gO:rowP r v (k + 1)=rowP r v k++[(v,x)]:=by rw [wV bF,hx]
   have iR:bad es s1 (v,x)=true→fy es (hM r v++rowP r v (r.getD v []).length)=none:=by
    intro hb
    obtain ⟨ys,hy⟩:=uH r v (k:=k + 1) bF
    rw [hy,gO,← List.append_assoc,← List.append_assoc]
    refine uG ?_
    rw [pH,kV]
    show (if bad es s1 (v,x) then none else _)=_
    rw [hb];rfl
   repeat' (first|((first|refine WO.n rfl ?_|refine WO.k rfl ?_);(first|refine aK ?_|refine cH ?_|refine fX ?_|refine bj ?_|refine aZ ?_|(refine dt (fun h=>?_) (fun h=>?_)<;>(try simp only [Int.ofNat_eq_natCast] at h))|(refine IU (fun h=>?_) (fun h=>?_)<;>(try simp only [Int.ofNat_eq_natCast] at h))))|refine WO.cB rfl ?_|refine WO.jH rfl ?_|with_reducible (first|refine WO.nil ?_|refine WC.aa ?_|refine WC.seq ?_|refine WC.ret ?_)|refine WC.ax rfl ?_|with_reducible (first|refine aA ?_|refine dX ?_|refine iA ?_))
   ·exact cO _ _ _ (iR (mM (.inl (by show x < 0;omega)))) aN aQ b9
   ·exact cO _ _ _ (iR (mM (.inr (.inl (by show (s1.length:Int)≤x;omega))))) aN aQ b9
   ·obtain ⟨w,rfl⟩:∃w:Nat,x=(w:Int):=⟨x.toNat,by omega⟩
    have yt:w < s1.length:=by omega
    have hg:=List.getElem?_eq_getElem yt
    generalize G3:s1[w]=bw at hg
    have q2:=JJ hg
    have kW:s1.getD w false=bw:=by rw [List.getD_eq_getElem?_getD,hg];rfl
    have CI:w / 2 < es.length:=by omega
    obtain ⟨eb,eo,G2,rfl,mK,_,_,yS,vN⟩:=he.at (by intro e;rw [e] at CI;simp at CI)
    have F5:=aQ.rd mK yS
    have q3:=kM CI vN (q:=w % 2) (Nat.mod_lt _ (by omega))
    rw [show 2 * (w / 2) + w % 2=w by omega] at q3
    cases bw with
    | true=>
     repeat' (first|((first|refine WO.n rfl ?_|refine WO.k rfl ?_);(first|refine aK ?_|refine fX ?_|refine bj ?_|refine aZ ?_))|refine WO.cB rfl ?_|refine WO.jH rfl ?_|with_reducible (first|refine WO.nil ?_|refine WC.aa ?_|refine WC.seq ?_|refine WC.ret ?_)|refine WC.ax rfl ?_|with_reducible (first|refine aA ?_|refine dX ?_|refine iA ?_))
     exact cO _ _ _ (iR (mM (.inr (.inr (.inl kW))))) aN aQ b9
    | false=>
     repeat' (first|((first|refine WO.n rfl ?_|refine WO.k rfl ?_);(first|refine aK ?_|refine cI ?_|refine fX ?_|refine aJ ?_|refine bj ?_|refine aZ ?_|refine ux ?_|refine ep ?_|(refine ke (fun h=>?_) (fun h=>?_)<;>(try simp only [Int.ofNat_eq_natCast] at h))|refine ba ?_|refine AB ?_|refine sa ?_))|refine WO.cB rfl ?_|with_reducible (first|refine WO.nil ?_|refine WC.aa ?_|refine WC.seq ?_|refine WC.skip ?_|refine WC.ret ?_)|refine WC.ax rfl ?_|refine WC.ay rfl ?_|with_reducible (first|refine aA ?_|refine dX ?_|refine dY ?_|refine iA ?_))
     ·exact cO _ _ _ (iR (mM (.inr (.inr (.inr (fun e=>h (by first|exact e|exact e.symm))))))) aN aQ b9
     ·have Zl:ct es w=v:=by first|omega|exact Classical.not_not.1 h
      have Zm:bad es s1 (v,(w:Int))=false:=D6 (by show (0:Int)≤(w:Int);omega) (by show (w:Int) < _;omega) kW Zl
      have tI:fy es (hM r v++rowP r v (k + 1))=some (s1.set w true):=by
       rw [gO,← List.append_assoc,pH,kV]
       show (if bad es s1 (v,(w:Int)) then none else some (s1.set w true))=_
       rw [Zm];rfl
      have hlen:(hM r v++rowP r v (k + 1)).length=(hM r v++rowP r v k).length + 1:=by rw [gO,← List.append_assoc,List.length_append];rfl
      refine ⟨(k + 1,s1.set w true),by show (r.getD v []).length - (k + 1) < (r.getD v []).length - k;omega,.cons rfl (.cons rfl (.cons ?_ (.cons rfl (.cons rfl (.cons rfl (.cons rfl (.cons rfl (.cons rfl (.cons rfl (.nil _)))))))))),by show k + 1≤_;omega,b9,tI,?_,aQ.set (by omega),Rd.skip (by omega) hO⟩
      ·show some _=some _
       congr 2
       show _=(((hM r v++rowP r v (k + 1)).length:Nat):Int)
       rw [hlen]
       first|done|rfl|omega
      ·show bV (aI H1 sb _) sb _
       unfold bV
       rw [aw,List.map_set]
       congr 3
       first|done|omega
  ·have:k=(r.getD v []).length:=by omega
   subst this
   exact aC _ _ _ s1 aN kV aS aQ hO b9
 ·show some _=some _
  rw [nj,List.append_nil]
def bX (r:List (List Int)):Prop:=r.length≤1048576∧∀l∈r,l.length≤1048576
theorem bX.row {r:List (List Int)} (h:bX r) (v:Nat):(r.getD v []).length≤1048576:=by
 rw [List.getD_eq_getElem?_getD]
 cases hv:r[v]? with
 | none=>simp
 | some l=>exact h.2 l (List.mem_of_getElem? hv)
theorem rmO {n:Int} {es:List Ed} {r:List (List Int)} {nb sb:Nat} {base bu:Option Addr} {ec rc sc:Nat} {H0:Heap}
  (he:bP H0 nb 2 bH (.slice base es.length ec) es) (hr:dZ H0 nb 1 aW (.slice bu r.length rc) r) (cD:bX r) (eB:es.length≤4000)
  (hs:bV H sb (lQ es)) (ym:nb < sb) (p5:sb < nx) (bN:an H0 H nb) (po:Rd H nb [.int .i64 n,.slice base es.length ec]) (lO:2 * es.length≤aE sc)
  (cO:∀σ H' nx',fy es (hM r r.length)=none→aT [(S4,.int .i64 4)] σ→an H0 H' nb→nx≤nx'→Q .ret σ H' nx')
  (aC:∀σ H' nx' s',aT [(S5,.slice (some ⟨sb,0,some 1⟩) (2 * es.length) sc),(S6,.int .i64 (((hM r r.length).length:Nat):Int))] σ→
   fy es (hM r r.length)=some s'→an H0 H' nb→nx≤nx'→Q (.exit 0) σ H' nx') :
  WC A (.loop PQ) [(S2,.pointer (some ⟨nb,0,none⟩)),(S5,.slice (some ⟨sb,0,some 1⟩) (2 * es.length) sc),(S6,.int .i64 0),(u9,.slice bu r.length rc),(vM,.int .i64 ((r.length:Nat):Int)),(wP,.int .i64 0)] H nx Q:=by
 refine WC.loop (α:=Nat×List Bool) (fun v=>[(S2,.pointer (some ⟨nb,0,none⟩)),(S5,.slice (some ⟨sb,0,some 1⟩) (2 * es.length) sc),(S6,.int .i64 (((hM r v.1).length:Nat):Int)),(u9,.slice bu r.length rc),(vM,.int .i64 ((r.length:Nat):Int)),(wP,.int .i64 ((v.1:Nat):Int))])
  (fun v H' nx'=>v.1≤r.length∧nx≤nx'∧fy es (hM r v.1)=some v.2∧bV H' sb v.2∧an H0 H' nb∧Rd H' nb [.int .i64 n,.slice base es.length ec]) (fun v=>r.length - v.1)
  ?_ (0,lQ es) aN ⟨Nat.zero_le _,Nat.le_refl _,rfl,hs,bN,po⟩
 rintro ⟨v,s1⟩ H1 aY ⟨hv,b9,kV,aS,aQ,hO⟩
 simp only at hv kV aS ⊢
 have oV:=cD.1
 unfold PQ
 repeat' (first|((first|refine WO.n rfl ?_|refine WO.k rfl ?_);(refine dt (fun h=>?_) (fun h=>?_)<;>(try simp only [Int.ofNat_eq_natCast] at h)))|with_reducible (first|refine WO.nil ?_|refine WC.aa ?_|refine WC.seq ?_|refine WC.skip ?_|refine WC.exit ?_|refine WC.block ?_)|refine WC.ax rfl ?_|refine WC.ay rfl ?_|with_reducible (first|refine aA ?_|refine ef ?_))
 ·have qV:v < r.length:=by omega
  have kW:r.getD v []=r[v]:=by rw [List.getD_eq_getElem?_getD,List.getElem?_eq_getElem qV];rfl
  obtain ⟨rb,ro,vO,ib,ic,rfl,jo,iP,iD,dW⟩:=hr.at qV
  rw [← kW] at iD dW
  have kg:=aQ.rd jo iP
  repeat' (first|((first|refine WO.n rfl ?_|refine WO.k rfl ?_);(first|refine aK ?_|refine cH ?_|refine bj ?_|refine aZ ?_))|with_reducible (first|refine WO.nil ?_|refine WC.aa ?_|refine WC.seq ?_|refine WC.block ?_|refine aA ?_))
  refine WC.sub aN (rmI (sb:=sb) he dW (cD.row v) eB (by have:=cD.1;omega) aS kV ym (by omega) aQ hO lO (fun σ H2 nx2 uI hσ bI fq=>?_) (fun σ H2 nx2 s2 hσ tI bI dk pI fq=>?_))
  ·exact iA (iA (dX (cO _ _ _ (AN qV (Nat.le_refl _) uI) hσ bI (by omega))))
  ·refine ew (dY (aA (WC.sub hσ ?_)))
   repeat' (first|((first|refine WO.n rfl ?_|refine WO.k rfl ?_);(first|refine aK ?_|refine ba ?_))|with_reducible (first|refine WO.nil ?_|refine WC.aa ?_))
   refine ⟨(v + 1,s2),by show r.length - (v + 1) < r.length - v;omega,.cons rfl (.cons rfl (.cons ?_ (.cons rfl (.cons rfl (.cons rfl (.nil _)))))),by show v + 1≤_;omega,by omega,by show fy es (hM r (v + 1))=_;rw [jz];exact tI,bI,dk,pI⟩
   show some _=some _
   rw [jz]
 ·have:v=r.length:=by omega
  subst this
  exact aC _ _ _ s1 aN kV aQ b9
theorem iy (v:Value) (m:Nat):a7 [v] m=List.replicate m v:=by
 induction m with
 | zero=>rfl
 | succ m ih=>rw [lp,ih];rfl
theorem wX {b:Nat} {es:List Ed} (h:ao H (at_ b)=some (.cells (a7 [.bool false] (2 * es.length)))):bV H b (lQ es):=by
 unfold bV lQ
 rw [h,iy,List.map_replicate]
theorem mN {g:FuncId} (hf:A.funcs g=some pD) (G4:A.funcs 43=some rJ) (hh:∀vs H nx,A.aH g vs H nx=none) (sg:∀vs H nx,A.aH 43 vs H nx=none)
  {n:Int} {ev rv:Value} {es:List Ed} {r:List (List Int)} (he:bP H nx 2 bH ev es) (hr:dZ H nx 1 aW rv r) (cD:bX r) :
  WF A g [.agg #[.int .i64 n,ev],rv] H nx fun v H' nx'=>v=.int .i64 (bq n es r)∧an H H' nx∧nx≤nx':=by
 obtain ⟨base,ec,rfl⟩:=he.form
 obtain ⟨bu,rc,rfl⟩:=hr.form
 refine WF.enter (hh _ _ _) hf ?_
 repeat' (first|((first|refine WO.n rfl ?_|refine WO.k rfl ?_);(first|refine aK ?_|refine jL ?_|refine aJ ?_))|with_reducible (first|refine WO.nil ?_|refine WC.aa ?_|refine WC.seq ?_|refine aA ?_))
 refine WO.cn rfl ?_
 have bg:an H (aI H nx [.int .i64 n,.slice base es.length ec]) nx:=an.refl.set (Nat.le_refl _)
 refine (qT G4 sg ((he.same bg).up (Nat.le_succ _))).of ?_
 rintro _ H1 aY ⟨rfl,aS,b9⟩
 have dJ:Rd H1 nx [.int .i64 n,.slice base es.length ec]:=aS.rd (by omega) Rd.self
 have bn:=bg.trans aS (by omega)
 have oV:=cD.1
 by_cases hm:kp n es
 ·rw [decide_eq_true hm]
  obtain ⟨BI,D8,JK,Qk⟩:=hm
  repeat' (first|((first|refine WO.n rfl ?_|refine WO.k rfl ?_);(first|refine aK ?_|refine cI ?_|refine cH ?_|refine rH ?_|refine aJ ?_|refine mI ?_|(refine ke (fun h=>?_) (fun h=>?_)<;>(try simp only [Int.ofNat_eq_natCast] at h))|refine qN ?_))|with_reducible (first|refine WO.nil ?_|refine WC.aa ?_|refine WC.seq ?_|refine WC.skip ?_|refine WC.ret ?_|refine WC.block ?_)|refine WC.ax rfl ?_|refine WC.ay rfl ?_|with_reducible (first|refine aA ?_|refine dX ?_))
  ·refine az (vs:=[_]) rfl ⟨?_,bn,by omega⟩
   unfold bq
   rw [if_pos ⟨BI,D8,JK,Qk⟩,if_neg (by omega)];rfl
  have hlen:(r.length:Int)=n:=by omega
  have CJ:bq n es r=match fy es (hM r r.length) with
    | none=>4
    | some _=>if (hM r r.length).length=2 * es.length then 0 else 4:=by
   unfold bq
   rw [if_pos ⟨BI,D8,JK,Qk⟩,if_pos hlen]
   all_goals rfl
  refine WC.sub aN (rmO (nb:=nx) (sb:=aY) he hr cD (by omega) (wX aw) (by omega) (by omega) (bn.set (by omega)) (Rd.skip (by omega) dJ) (by rw [dp];omega) (fun σ H2 nx2 uI hσ bI fq=>?_) (fun σ H2 nx2 s2 hσ tI bI fq=>?_))
  ·refine iA (dX ?_)
   exact cZ hσ (vs:=[_]) rfl ⟨by rw [CJ,uI];rfl,bI,by omega⟩
  ·refine ew (aA (WC.sub hσ ?_))
   have hle:=sR tI
   repeat' (first|((first|refine WO.n rfl ?_|refine WO.k rfl ?_);(first|refine aK ?_|refine cH ?_|(refine ke (fun h=>?_) (fun h=>?_)<;>(try simp only [Int.ofNat_eq_natCast] at h))))|with_reducible (first|refine WO.nil ?_|refine WC.aa ?_|refine WC.seq ?_|refine WC.skip ?_|refine WC.ret ?_)|refine WC.ax rfl ?_|refine WC.ay rfl ?_|with_reducible (first|refine aA ?_|refine dX ?_))
   all_goals refine az (vs:=[_]) rfl ⟨?_,bI,by omega⟩
   ·rw [CJ,tI]
    show Value.int .i64 4=.int .i64 (if _ then _ else _)
    rw [if_neg (by omega)]
   ·rw [CJ,tI]
    show Value.int .i64 0=.int .i64 (if _ then _ else _)
    rw [if_pos (by omega)]
 ·rw [decide_eq_false hm]
  repeat' (first|(refine WO.k rfl ?_;(first|refine aK ?_|refine rH ?_))|with_reducible (first|refine WO.nil ?_|refine WC.aa ?_|refine WC.seq ?_|refine WC.ret ?_)|refine WC.ax rfl ?_|with_reducible (first|refine aA ?_|refine dX ?_))
  refine az (vs:=[_]) rfl ⟨?_,bn,by omega⟩
  unfold bq
  rw [if_neg hm];rfl
end Go.Eng

namespace Go.Eng
variable {A:aG} {H H':Heap} {nx nx':Nat} {σ:aP} {Q:cw}
set_option maxRecDepth 100000
def bT (h:Nat):Nat:=if h % 2=0 then h + 1 else h - 1
theorem D9 (h:Nat):bT h=2 * (h / 2) + (1 - h % 2):=by unfold bT;split<;>omega
theorem de {h m:Nat} (hl:h < 2 * m):bT h < 2 * m:=by unfold bT;split<;>omega
theorem fA (h:Nat):bT (bT h)=h:=by
 unfold bT
 by_cases e:h % 2=0
 ·rw [if_pos e,if_neg (by omega)];omega
 ·rw [if_neg e,if_pos (by omega)];omega
theorem kN {g:FuncId} (hf:A.funcs g=some kL) (hh:∀vs H nx,A.aH g vs H nx=none) {n:Int} {ev:Value} {es:List Ed} (he:bP H nx 2 bH ev es) {h:Nat} (hl:h < 2 * es.length) (eB:es.length≤4000) :
  WF A g [.agg #[.int .i64 n,ev],.int .i64 (h:Int)] H nx fun v H' nx'=>v=.int .i64 (ct es h)∧an H H' nx∧nx≤nx':=by
 obtain ⟨base,ec,rfl⟩:=he.form
 have CI:h / 2 < es.length:=by omega
 obtain ⟨eb,eo,G2,rfl,mK,_,_,yS,vN⟩:=he.at (by intro e;rw [e] at CI;simp at CI)
 have q3:=kM CI vN (q:=h % 2) (Nat.mod_lt _ (by omega))
 rw [show 2 * (h / 2) + h % 2=h by omega] at q3
 refine WF.enter (hh _ _ _) hf ?_
 repeat' (first|((first|refine WO.n rfl ?_|refine WO.k rfl ?_);(first|refine aK ?_|refine cI ?_|refine jL ?_|refine aJ ?_|refine bj ?_|refine aZ ?_|refine ux ?_|refine AB ?_|refine sa ?_))|with_reducible (first|refine WO.nil ?_|refine WC.aa ?_|refine WC.seq ?_|refine WC.ret ?_|refine aA ?_))
 exact az (vs:=[_]) rfl ⟨rfl,an.refl.set (Nat.le_refl _),by omega⟩
theorem Mc {g:FuncId} (hf:A.funcs g=some LU) (hh:∀vs H nx,A.aH g vs H nx=none) {n:Int} {ev:Value} {es:List Ed} (he:bP H nx 2 bH ev es) {h:Nat} (hl:h < 2 * es.length) (eB:es.length≤4000) :
  WF A g [.agg #[.int .i64 n,ev],.int .i64 (h:Int)] H nx fun v H' nx'=>v=.int .i64 (ct es (bT h))∧an H H' nx∧nx≤nx':=by
 obtain ⟨base,ec,rfl⟩:=he.form
 have CI:h / 2 < es.length:=by omega
 obtain ⟨eb,eo,G2,rfl,mK,_,_,yS,vN⟩:=he.at (by intro e;rw [e] at CI;simp at CI)
 have q3:=kM CI vN (q:=1 - h % 2) (by omega)
 rw [← D9] at q3
 refine WF.enter (hh _ _ _) hf ?_
 repeat' (first|((first|refine WO.n rfl ?_|refine WO.k rfl ?_);(first|refine aK ?_|refine cI ?_|refine jL ?_|refine aJ ?_|refine bj ?_|refine aZ ?_|refine ux ?_|refine IV ?_|refine AB ?_|refine sa ?_))|with_reducible (first|refine WO.nil ?_|refine WC.aa ?_|refine WC.seq ?_|refine WC.ret ?_|refine aA ?_))
 exact az (vs:=[_]) rfl ⟨rfl,an.refl.set (Nat.le_refl _),by omega⟩
theorem wY {g:FuncId} (hf:A.funcs g=some pE) (hh:∀vs H nx,A.aH g vs H nx=none) {h:Nat} (hl:h≤1048576) :
  WF A g [.int .i64 (h:Int)] H nx fun v H' nx'=>v=.int .i64 ((bT h:Nat):Int)∧H'=H∧nx'=nx:=by
 refine WF.enter (hh _ _ _) hf ?_
 repeat' (first|((first|refine WO.n rfl ?_|refine WO.k rfl ?_);(first|refine aK ?_|(refine sJ (fun h=>?_) (fun h=>?_)<;>(try simp only [Int.ofNat_eq_natCast] at h))|refine ba ?_|refine IV ?_|refine sa ?_))|with_reducible (first|refine WO.nil ?_|refine WC.aa ?_|refine WC.seq ?_|refine WC.skip ?_|refine WC.ret ?_)|refine WC.ax rfl ?_|refine WC.ay rfl ?_|with_reducible (first|refine aA ?_|refine dX ?_))
 all_goals
  refine az (vs:=[_]) rfl ⟨?_,rfl,rfl⟩
  show Value.int .i64 _=.int .i64 _
  congr 1
  unfold bT
  split<;>omega
end Go.Eng

namespace Go.Eng
variable {A:aG} {H H':Heap} {nx nx':Nat} {σ:aP} {Q:cw}
set_option maxRecDepth 100000
theorem qmI (si:A.funcs 33=some kL) (iF:∀vs H nx,A.aH 33 vs H nx=none) {n:Int} {es:List Ed} {r:List (List Int)} {nb sb v:Nat} {base bu:Option Addr} {ec rc sc:Nat} {H0:Heap} {s:List Bool}
  (he:bP H0 nb 2 bH (.slice base es.length ec) es) (hr:dZ H0 nb 1 aW (.slice bu r.length rc) r) (hv:v < r.length) (oG:(r.getD v []).length≤1048576) (eB:es.length≤4000) (Cn:v≤1048576)
  (hs:bV H sb s) (zc:fy es (hM r v)=some s) (ym:nb < sb) (p5:sb < nx) (bN:an H0 H nb) (po:Rd H nb [.int .i64 n,.slice base es.length ec]) (lO:2 * es.length≤aE sc)
  (cO:∀σ H' nx',fy es (hM r v++rowP r v (r.getD v []).length)=none→aT [(S4,.int .i64 4)] σ→an H0 H' nb→nx≤nx'→Q .ret σ H' nx')
  (aC:∀σ H' nx' s',aT [(S1,.slice bu r.length rc),(S2,.pointer (some ⟨nb,0,none⟩)),(S5,.slice (some ⟨sb,0,some 1⟩) (2 * es.length) sc),(S6,.int .i64 (((hM r v++rowP r v (r.getD v []).length).length:Nat):Int)),(S7,.int .i64 ((v:Nat):Int))] σ→
   fy es (hM r v++rowP r v (r.getD v []).length)=some s'→bV H' sb s'→an H0 H' nb→Rd H' nb [.int .i64 n,.slice base es.length ec]→nx≤nx'→Q (.exit 2) σ H' nx') :
  WC A (.loop PD) [(S1,.slice bu r.length rc),(S2,.pointer (some ⟨nb,0,none⟩)),(S5,.slice (some ⟨sb,0,some 1⟩) (2 * es.length) sc),(S6,.int .i64 (((hM r v).length:Nat):Int)),(S7,.int .i64 ((v:Nat):Int)),(S8,.int .i64 0)] H nx Q:=by
 refine WC.loop (α:=Nat×List Bool) (fun k=>[(S1,.slice bu r.length rc),(S2,.pointer (some ⟨nb,0,none⟩)),(S5,.slice (some ⟨sb,0,some 1⟩) (2 * es.length) sc),(S6,.int .i64 (((hM r v++rowP r v k.1).length:Nat):Int)),(S7,.int .i64 ((v:Nat):Int)),(S8,.int .i64 ((k.1:Nat):Int))])
  (fun k H' nx'=>k.1≤(r.getD v []).length∧nx≤nx'∧fy es (hM r v++rowP r v k.1)=some k.2∧bV H' sb k.2∧an H0 H' nb∧Rd H' nb [.int .i64 n,.slice base es.length ec]) (fun k=>(r.getD v []).length - k.1)
  ?_ (0,s) (.cons rfl (.cons rfl (.cons rfl (.cons ?_ (.cons rfl (.cons rfl (.nil _))))))) ⟨Nat.zero_le _,Nat.le_refl _,by rw [nj,List.append_nil];exact zc,hs,bN,po⟩
 ·rintro ⟨k,s1⟩ H1 aY ⟨hk,b9,kV,aS,aQ,hO⟩
  simp only at hk kV aS ⊢
  obtain ⟨gx,iU⟩:=lI kV
  have hle:=sR kV
  have F4:ao H1 (at_ sb)=some (.cells (s1.map .bool)):=aS
  have jA:r.getD v []=r[v]:=by rw [List.getD_eq_getElem?_getD,List.getElem?_eq_getElem hv];rfl
  obtain ⟨rb,ro,vO,ib,ic,rfl,jo,iP,iD,hi⟩:=hr.at hv
  rw [← jA] at iD hi
  have kg:=aQ.rd jo iP
  unfold PD
  repeat' (first|((first|refine WO.n rfl ?_|refine WO.k rfl ?_);(first|refine cH ?_|refine bj ?_|refine aZ ?_|(refine dt (fun h=>?_) (fun h=>?_)<;>(try simp only [Int.ofNat_eq_natCast] at h))))|with_reducible (first|refine WO.nil ?_|refine WC.aa ?_|refine WC.seq ?_|refine WC.skip ?_|refine WC.exit ?_|refine WC.block ?_)|refine WC.ax rfl ?_|refine WC.ay rfl ?_|with_reducible (first|refine aA ?_|refine ef ?_))
  ·have bF:k < (r.getD v []).length:=by omega
   obtain ⟨bb,bo,D7,rfl,ou,_,_,qU,oy⟩:=hi.at (by intro e;rw [e] at bF;simp at bF)
   have q1:=en (v:=.int .i64 (r.getD v [])[k]) (oy k _ (List.getElem?_eq_getElem bF))
   have sf:=aQ.rd ou qU
   generalize hx:(r.getD v [])[k]=x at q1
   have gO:rowP r v (k + 1)=rowP r v k++[(v,x)]:=by rw [wV bF,hx]
   have iR:bad es s1 (v,x)=true→fy es (hM r v++rowP r v (r.getD v []).length)=none:=by
    intro hb
    obtain ⟨ys,hy⟩:=uH r v (k:=k + 1) bF
    rw [hy,gO,← List.append_assoc,← List.append_assoc]
    refine uG ?_
    rw [pH,kV]
    show (if bad es s1 (v,x) then none else _)=_
    rw [hb];rfl
   repeat' (first|((first|refine WO.n rfl ?_|refine WO.k rfl ?_);(first|refine aK ?_|refine cH ?_|refine fX ?_|refine bj ?_|refine aZ ?_|(refine dt (fun h=>?_) (fun h=>?_)<;>(try simp only [Int.ofNat_eq_natCast] at h))|(refine IU (fun h=>?_) (fun h=>?_)<;>(try simp only [Int.ofNat_eq_natCast] at h))))|refine WO.cB rfl ?_|refine WO.jH rfl ?_|with_reducible (first|refine WO.nil ?_|refine WC.aa ?_|refine WC.seq ?_|refine WC.ret ?_)|refine WC.ax rfl ?_|with_reducible (first|refine aA ?_|refine dX ?_|refine iA ?_))
   ·exact cO _ _ _ (iR (mM (.inl (by show x < 0;omega)))) aN aQ b9
   ·exact cO _ _ _ (iR (mM (.inr (.inl (by show (s1.length:Int)≤x;omega))))) aN aQ b9
   ·obtain ⟨w,rfl⟩:∃w:Nat,x=(w:Int):=⟨x.toNat,by omega⟩
    have yt:w < s1.length:=by omega
    have hg:=List.getElem?_eq_getElem yt
    generalize G3:s1[w]=bw at hg
    have q2:=JJ hg
    have kW:s1.getD w false=bw:=by rw [List.getD_eq_getElem?_getD,hg];rfl
    cases bw with
    | true=>
     repeat' (first|((first|refine WO.n rfl ?_|refine WO.k rfl ?_);(first|refine aK ?_|refine fX ?_|refine bj ?_|refine aZ ?_))|refine WO.cB rfl ?_|refine WO.jH rfl ?_|with_reducible (first|refine WO.nil ?_|refine WC.aa ?_|refine WC.seq ?_|refine WC.ret ?_)|refine WC.ax rfl ?_|with_reducible (first|refine aA ?_|refine dX ?_|refine iA ?_))
     exact cO _ _ _ (iR (mM (.inr (.inr (.inl kW))))) aN aQ b9
    | false=>
     repeat' (first|(refine WO.n rfl ?_;(first|refine aK ?_|refine fX ?_|refine aJ ?_|refine bj ?_|refine aZ ?_))|refine WO.cB rfl ?_)
     refine WO.cn rfl ?_
     refine (kN si iF ((he.same aQ).up (show nb≤aY by omega)) (h:=w) (by omega) eB).of ?_
     rintro _ H2 nx2 ⟨rfl,bI,fq⟩
     have dk:=aQ.trans bI (by omega)
     have Md:ao H2 (at_ sb)=some (.cells (s1.map .bool)):=(bI sb (by omega)).trans F4
     have pI:=bI.rd (by omega) hO
     repeat' (first|((first|refine WO.n rfl ?_|refine WO.k rfl ?_);(first|refine aK ?_|refine fX ?_|refine aZ ?_|refine ep ?_|(refine ke (fun h=>?_) (fun h=>?_)<;>(try simp only [Int.ofNat_eq_natCast] at h))|refine ba ?_))|refine WO.cB rfl ?_|with_reducible (first|refine WO.nil ?_|refine WC.aa ?_|refine WC.seq ?_|refine WC.skip ?_|refine WC.ret ?_)|refine WC.ax rfl ?_|refine WC.ay rfl ?_|with_reducible (first|refine aA ?_|refine dX ?_|refine dY ?_|refine iA ?_))
     ·exact cO _ _ _ (iR (mM (.inr (.inr (.inr (fun e=>h (by first|exact e|exact e.symm))))))) aN dk (by omega)
     ·have Zl:ct es w=v:=by first|omega|exact Classical.not_not.1 h
      have Zm:bad es s1 (v,(w:Int))=false:=D6 (by show (0:Int)≤(w:Int);omega) (by show (w:Int) < _;omega) kW Zl
      have tI:fy es (hM r v++rowP r v (k + 1))=some (s1.set w true):=by
       rw [gO,← List.append_assoc,pH,kV]
       show (if bad es s1 (v,(w:Int)) then none else some (s1.set w true))=_
       rw [Zm];rfl
      have hlen:(hM r v++rowP r v (k + 1)).length=(hM r v++rowP r v k).length + 1:=by rw [gO,← List.append_assoc,List.length_append];rfl
      refine ⟨(k + 1,s1.set w true),by show (r.getD v []).length - (k + 1) < (r.getD v []).length - k;omega,.cons rfl (.cons rfl (.cons rfl (.cons ?_ (.cons rfl (.cons rfl (.nil _)))))),by show k + 1≤_;omega,by omega,tI,?_,dk.set (by omega),Rd.skip (by omega) pI⟩
      ·show some _=some _
       congr 2
       show _=(((hM r v++rowP r v (k + 1)).length:Nat):Int)
       rw [hlen]
       first|done|rfl|omega
      ·show bV (aI H2 sb _) sb _
       unfold bV
       rw [aw,List.map_set]
       congr 3
       first|done|omega
  ·have:k=(r.getD v []).length:=by omega
   subst this
   exact aC _ _ _ s1 aN kV aS aQ hO b9
 ·show some _=some _
  rw [nj,List.append_nil]
theorem qmO (si:A.funcs 33=some kL) (iF:∀vs H nx,A.aH 33 vs H nx=none) {n:Int} {es:List Ed} {r:List (List Int)} {nb sb:Nat} {base bu:Option Addr} {ec rc sc:Nat} {H0:Heap}
  (he:bP H0 nb 2 bH (.slice base es.length ec) es) (hr:dZ H0 nb 1 aW (.slice bu r.length rc) r) (cD:bX r) (eB:es.length≤4000) (hlen:(r.length:Int)=n)
  (hs:bV H sb (lQ es)) (ym:nb < sb) (p5:sb < nx) (bN:an H0 H nb) (po:Rd H nb [.int .i64 n,.slice base es.length ec]) (lO:2 * es.length≤aE sc)
  (cO:∀σ H' nx',fy es (hM r r.length)=none→aT [(S4,.int .i64 4)] σ→an H0 H' nb→nx≤nx'→Q .ret σ H' nx')
  (aC:∀σ H' nx' s',aT [(S5,.slice (some ⟨sb,0,some 1⟩) (2 * es.length) sc),(S6,.int .i64 (((hM r r.length).length:Nat):Int))] σ→
   fy es (hM r r.length)=some s'→an H0 H' nb→nx≤nx'→Q (.exit 0) σ H' nx') :
  WC A (.loop PE) [(S1,.slice bu r.length rc),(S2,.pointer (some ⟨nb,0,none⟩)),(S5,.slice (some ⟨sb,0,some 1⟩) (2 * es.length) sc),(S6,.int .i64 0),(S7,.int .i64 0)] H nx Q:=by
 refine WC.loop (α:=Nat×List Bool) (fun v=>[(S1,.slice bu r.length rc),(S2,.pointer (some ⟨nb,0,none⟩)),(S5,.slice (some ⟨sb,0,some 1⟩) (2 * es.length) sc),(S6,.int .i64 (((hM r v.1).length:Nat):Int)),(S7,.int .i64 ((v.1:Nat):Int))])
  (fun v H' nx'=>v.1≤r.length∧nx≤nx'∧fy es (hM r v.1)=some v.2∧bV H' sb v.2∧an H0 H' nb∧Rd H' nb [.int .i64 n,.slice base es.length ec]) (fun v=>r.length - v.1)
  ?_ (0,lQ es) aN ⟨Nat.zero_le _,Nat.le_refl _,rfl,hs,bN,po⟩
 rintro ⟨v,s1⟩ H1 aY ⟨hv,b9,kV,aS,aQ,hO⟩
 simp only at hv kV aS ⊢
 have oV:=cD.1
 unfold PE
 repeat' (first|((first|refine WO.n rfl ?_|refine WO.k rfl ?_);(first|refine aK ?_|refine cI ?_|refine aJ ?_|(refine dt (fun h=>?_) (fun h=>?_)<;>(try simp only [Int.ofNat_eq_natCast] at h))))|with_reducible (first|refine WO.nil ?_|refine WC.aa ?_|refine WC.seq ?_|refine WC.skip ?_|refine WC.exit ?_|refine WC.block ?_)|refine WC.ax rfl ?_|refine WC.ay rfl ?_|with_reducible (first|refine aA ?_|refine ef ?_))
 ·have qV:v < r.length:=by omega
  refine WC.sub aN (qmI si iF (sb:=sb) he hr qV (cD.row v) eB (by omega) aS kV ym (by omega) aQ hO lO (fun σ H2 nx2 uI hσ bI fq=>?_) (fun σ H2 nx2 s2 hσ tI bI dk pI fq=>?_))
  ·exact iA (iA (dX (cO _ _ _ (AN qV (Nat.le_refl _) uI) hσ bI (by omega))))
  ·refine ew (dY (aA (WC.sub hσ ?_)))
   repeat' (first|((first|refine WO.n rfl ?_|refine WO.k rfl ?_);(first|refine aK ?_|refine ba ?_))|with_reducible (first|refine WO.nil ?_|refine WC.aa ?_))
   refine ⟨(v + 1,s2),by show r.length - (v + 1) < r.length - v;omega,.cons rfl (.cons rfl (.cons rfl (.cons ?_ (.cons rfl (.nil _))))),by show v + 1≤_;omega,by omega,by show fy es (hM r (v + 1))=_;rw [jz];exact tI,bI,dk,pI⟩
   show some _=some _
   rw [jz]
 ·have:v=r.length:=by omega
  subst this
  exact aC _ _ _ s1 aN kV aQ b9
theorem F6 {g:FuncId} (hf:A.funcs g=some DY) (UH:A.funcs 22=some Jy) (si:A.funcs 33=some kL) (hh:∀vs H nx,A.aH g vs H nx=none) (JL:∀vs H nx,A.aH 22 vs H nx=none) (iF:∀vs H nx,A.aH 33 vs H nx=none)
  {n:Int} {ev rv:Value} {es:List Ed} {r:List (List Int)} (he:bP H nx 2 bH ev es) (hr:dZ H nx 1 aW rv r) (cD:bX r) :
  WF A g [.agg #[.int .i64 n,ev],rv] H nx fun v H' nx'=>v=.int .i64 (bq n es r)∧an H H' nx∧nx≤nx':=by
 obtain ⟨base,ec,rfl⟩:=he.form
 obtain ⟨bu,rc,rfl⟩:=hr.form
 refine WF.enter (hh _ _ _) hf ?_
 repeat' (first|((first|refine WO.n rfl ?_|refine WO.k rfl ?_);(first|refine aK ?_|refine jL ?_|refine aJ ?_))|with_reducible (first|refine WO.nil ?_|refine WC.aa ?_|refine WC.seq ?_|refine aA ?_))
 refine WO.cn rfl ?_
 have bg:an H (aI H nx [.int .i64 n,.slice base es.length ec]) nx:=an.refl.set (Nat.le_refl _)
 refine (AJ UH JL ((he.same bg).up (Nat.le_succ _))).of ?_
 rintro _ H1 aY ⟨rfl,aS,b9⟩
 have dJ:Rd H1 nx [.int .i64 n,.slice base es.length ec]:=aS.rd (by omega) Rd.self
 have bn:=bg.trans aS (by omega)
 have oV:=cD.1
 by_cases hm:kp n es
 ·rw [decide_eq_true hm]
  obtain ⟨BI,D8,JK,Qk⟩:=hm
  repeat' (first|((first|refine WO.n rfl ?_|refine WO.k rfl ?_);(first|refine aK ?_|refine cI ?_|refine cH ?_|refine rH ?_|refine aJ ?_|refine mI ?_|(refine ke (fun h=>?_) (fun h=>?_)<;>(try simp only [Int.ofNat_eq_natCast] at h))|refine qN ?_))|with_reducible (first|refine WO.nil ?_|refine WC.aa ?_|refine WC.seq ?_|refine WC.skip ?_|refine WC.ret ?_|refine WC.block ?_)|refine WC.ax rfl ?_|refine WC.ay rfl ?_|with_reducible (first|refine aA ?_|refine dX ?_))
  ·refine az (vs:=[_]) rfl ⟨?_,bn,by omega⟩
   unfold bq
   rw [if_pos ⟨BI,D8,JK,Qk⟩,if_neg (by omega)];rfl
  have hlen:(r.length:Int)=n:=by omega
  have CJ:bq n es r=match fy es (hM r r.length) with
    | none=>4
    | some _=>if (hM r r.length).length=2 * es.length then 0 else 4:=by
   unfold bq
   rw [if_pos ⟨BI,D8,JK,Qk⟩,if_pos hlen]
   all_goals rfl
  refine WC.sub aN (qmO si iF (nb:=nx) (sb:=aY) he hr cD (by omega) hlen (wX aw) (by omega) (by omega) (bn.set (by omega)) (Rd.skip (by omega) dJ) (by rw [dp];omega) (fun σ H2 nx2 uI hσ bI fq=>?_) (fun σ H2 nx2 s2 hσ tI bI fq=>?_))
  ·refine iA (dX ?_)
   exact cZ hσ (vs:=[_]) rfl ⟨by rw [CJ,uI];rfl,bI,by omega⟩
  ·refine ew (aA (WC.sub hσ ?_))
   have hle:=sR tI
   repeat' (first|((first|refine WO.n rfl ?_|refine WO.k rfl ?_);(first|refine aK ?_|refine cH ?_|(refine dt (fun h=>?_) (fun h=>?_)<;>(try simp only [Int.ofNat_eq_natCast] at h))))|with_reducible (first|refine WO.nil ?_|refine WC.aa ?_|refine WC.seq ?_|refine WC.skip ?_|refine WC.ret ?_)|refine WC.ax rfl ?_|refine WC.ay rfl ?_|with_reducible (first|refine aA ?_|refine dX ?_))
   all_goals refine az (vs:=[_]) rfl ⟨?_,bI,by omega⟩
   ·rw [CJ,tI]
    show Value.int .i64 4=.int .i64 (if _ then _ else _)
    rw [if_neg (by omega)]
   ·rw [CJ,tI]
    show Value.int .i64 0=.int .i64 (if _ then _ else _)
    rw [if_pos (by omega)]
 ·rw [decide_eq_false hm]
  repeat' (first|(refine WO.k rfl ?_;(first|refine aK ?_|refine rH ?_))|with_reducible (first|refine WO.nil ?_|refine WC.aa ?_|refine WC.seq ?_|refine WC.ret ?_)|refine WC.ax rfl ?_|with_reducible (first|refine aA ?_|refine dX ?_))
  refine az (vs:=[_]) rfl ⟨?_,bn,by omega⟩
  unfold bq
  rw [if_neg hm];rfl
end Go.Eng

namespace Go.Eng
theorem CL {es:List Ed}:∀{xs:List (Nat×Int)} {s0 s:List Bool},xs.foldl (gM es) (some s0)=some s→
  (∀x∈xs,0≤x.2∧x.2 < (s0.length:Int)∧ct es x.2.toNat=x.1∧s0[x.2.toNat]?=some false)∧xs.Pairwise (fun x y=>x.2≠y.2)∧∀h:Nat,s[h]?=some true→s0[h]?=some true∨∃x∈xs,x.2=(h:Int):=by
 intro xs
 induction xs with
 | nil=>intro s0 s h;cases h;exact ⟨fun x hx=>by simp at hx,.nil,fun h hs=>.inl hs⟩
 | cons x xs ih=>
  intro s0 s h
  rw [List.foldl_cons] at h
  cases h1:gM es (some s0) x with
  | none=>rw [h1,uF] at h;cases h
  | some s1=>
   rw [h1] at h
   obtain ⟨hb,rfl⟩:=AP h1
   obtain ⟨b1,b2,b3,b4⟩:=wW hb
   obtain ⟨g1,g2,g3⟩:=ih h
   have bR:x.2.toNat < s0.length:=by omega
   have key:∀y∈xs,y.2≠x.2∧s0[y.2.toNat]?=some false:=by
    intro y hy
    obtain ⟨q1,q2,q3,q4⟩:=g1 y hy
    rw [List.getElem?_set] at q4
    by_cases e:x.2.toNat=y.2.toNat
    ·rw [if_pos e,if_pos (by omega)] at q4;cases q4
    ·rw [if_neg e] at q4
     exact ⟨fun e'=>e (by rw [e']),q4⟩
   refine ⟨fun y hy=>?_,.cons (fun y hy=>(key y hy).1.symm) g2,fun q hq=>?_⟩
   ·rcases List.mem_cons.1 hy with rfl|hy
    ·exact ⟨b1,b2,b4,b3⟩
    ·obtain ⟨q1,q2,q3,_⟩:=g1 y hy
     exact ⟨q1,by simpa using q2,q3,(key y hy).2⟩
   ·rcases g3 q hq with hq|⟨y,hy,e⟩
    ·rw [List.getElem?_set] at hq
     by_cases e:x.2.toNat=q
     ·exact .inr ⟨x,List.mem_cons_self,by omega⟩
     ·rw [if_neg e] at hq;exact .inl hq
    ·exact .inr ⟨y,List.mem_cons_of_mem _ hy,e⟩
def gU (r:List (List Int)) (v k:Nat):Int:=(r.getD v []).getD k 0
def dG (r:List (List Int)) (v:Nat):Nat:=(r.getD v []).length
structure bY (n:Int) (es:List Ed) (r:List (List Int)):Prop where
 may:kp n es
 len:(r.length:Int)=n
 ok:∀v k,v < r.length→k < dG r v→0≤gU r v k∧gU r v k < ((2 * es.length:Nat):Int)∧ct es (gU r v k).toNat=v
 inj:∀v k v' k',v < r.length→k < dG r v→v' < r.length→k' < dG r v'→gU r v k=gU r v' k'→v=v'∧k=k'
 all:∀h:Nat,h < 2 * es.length→∃v k,v < r.length∧k < dG r v∧gU r v k=(h:Int)
theorem Me {r:List (List Int)} {w:Nat} {x:Nat×Int} (hx:x∈hM r w):∃v k,v < w∧k < dG r v∧x=(v,gU r v k):=by
 unfold hM at hx
 obtain ⟨v,hv,hm⟩:=List.mem_flatMap.1 hx
 obtain ⟨h,hh,rfl⟩:=List.mem_map.1 hm
 obtain ⟨k,hk,rfl⟩:=List.getElem_of_mem hh
 refine ⟨v,k,by simpa using hv,hk,?_⟩
 unfold gU
 rw [List.getD_eq_getElem?_getD (l:=r.getD v []),List.getElem?_eq_getElem hk];rfl
theorem yu {r:List (List Int)} {w v k:Nat} (hv:v < w) (hk:k < dG r v):(v,gU r v k)∈hM r w:=by
 unfold hM
 refine List.mem_flatMap.2 ⟨v,by simpa using hv,List.mem_map.2 ⟨gU r v k,?_,rfl⟩⟩
 unfold gU
 have gC:k < (r.getD v []).length:=hk
 rw [List.getD_eq_getElem?_getD (l:=r.getD v []),List.getElem?_eq_getElem gC]
 exact List.getElem_mem gC
theorem Ql {r:List (List Int)} (P:Nat×Int→Nat×Int→Prop) (hs:∀x y,P x y→P y x):∀{w:Nat},(hM r w).Pairwise P→∀v k v' k',v < w→k < dG r v→v' < w→k' < dG r v'→(v≠v'∨k≠k')→P (v,gU r v k) (v',gU r v' k'):=by
 intro w
 induction w with
 | zero=>intro _ v k v' k' hv;omega
 | succ w ih=>
  intro hp v k v' k' hv hk jS gC cG
  rw [jz,List.pairwise_append] at hp
  obtain ⟨h1,h2,h3⟩:=hp
  have dW:∀k,k < dG r w→(w,gU r w k)∈rowP r w (r.getD w []).length:=by
   intro k hk
   unfold rowP
   rw [List.take_length]
   refine List.mem_map.2 ⟨gU r w k,?_,rfl⟩
   have gC:k < (r.getD w []).length:=hk
   unfold gU
   rw [List.getD_eq_getElem?_getD (l:=r.getD w []),List.getElem?_eq_getElem gC]
   exact List.getElem_mem gC
  have gO:∀i j,i < j→j < dG r w→P (w,gU r w i) (w,gU r w j):=by
   intro i j Dx hj
   have Hv:j < (r.getD w []).length:=hj
   have hl:(rowP r w (r.getD w []).length).length=(r.getD w []).length:=by unfold rowP;simp
   have:=List.pairwise_iff_getElem.1 h2 i j (by omega) (by omega) Dx
   have e:∀q (hq:q < (r.getD w []).length),(rowP r w (r.getD w []).length)[q]'(by omega)=(w,gU r w q):=by
    intro q hq
    have h5:(rowP r w (r.getD w []).length)[q]?=some (w,gU r w q):=by
     unfold rowP gU
     rw [List.take_length,List.getElem?_map,List.getElem?_eq_getElem hq,List.getD_eq_getElem?_getD (l:=r.getD w []),List.getElem?_eq_getElem hq]
     rfl
    rw [List.getElem?_eq_getElem (by omega)] at h5
    exact Option.some.inj h5
   rw [e i (by omega),e j Hv] at this
   exact this
  by_cases c1:v=w
  ·subst c1
   by_cases c2:v'=v
   ·subst c2
    rcases cG with h|h
    ·exact absurd rfl h
    ·rcases Nat.lt_or_ge k k' with h4|h4
     ·exact gO k k' h4 gC
     ·exact hs _ _ (gO k' k (by omega) hk)
   ·exact hs _ _ (h3 _ (yu (show v' < v by omega) gC) _ (dW k hk))
  ·by_cases c2:v'=w
   ·subst c2
    exact h3 _ (yu (show v < v' by omega) hk) _ (dW k' gC)
   ·exact ih h1 v k v' k' (by omega) hk (by omega) gC cG
theorem cd {n:Int} {es:List Ed} {r:List (List Int)} (h:bq n es r=0):bY n es r:=by
 unfold bq at h
 split at h
 case isFalse=>omega
 rename_i hm
 split at h
 case isFalse=>omega
 rename_i hl
 split at h
 ·omega
 ·rename_i s hf
  split at h
  case isFalse=>omega
  rename_i hc
  obtain ⟨c1,c2⟩:=lI hf
  obtain ⟨f1,f2,f3⟩:=CL hf
  have h0:(lQ es).length=2 * es.length:=by simp [lQ]
  refine ⟨hm,hl,fun v k hv hk=>?_,fun v k v' k' hv hk jS gC he=>?_,fun q hq=>?_⟩
  ·obtain ⟨g1,g2,g3,_⟩:=f1 _ (yu hv hk)
   exact ⟨g1,by rw [h0] at g2;exact g2,g3⟩
  ·apply Classical.byContradiction
   intro cG
   exact Ql _ (fun _ _ h=>h.symm) f2 v k v' k' hv hk jS gC (by omega) he
  ·have ik:s.count true=s.length:=by omega
   have ht:∀b∈s,true=b:=List.count_eq_length.1 ik
   have hs:s[q]?=some true:=by
    rw [List.getElem?_eq_getElem (by omega)]
    exact congrArg some (ht _ (List.getElem_mem _)).symm
   rcases f3 q hs with h5|⟨x,hx,e⟩
   ·simp [lQ,List.getElem?_replicate] at h5
   ·obtain ⟨v,k,hv,hk,rfl⟩:=Me hx
    exact ⟨v,k,hv,hk,e⟩
def eW (es:List Ed) (r:List (List Int)) (l:List Int):Prop:=l.length=2 * es.length∧∀v k,v < r.length→k < dG r v→l[bT (gU r v k).toNat]?=some (gU r v ((k + 1) % dG r v))
theorem eW.uniq {n:Int} {es:List Ed} {r:List (List Int)} {l l':List Int} (g:bY n es r) (h:eW es r l) (h':eW es r l'):l=l':=by
 apply List.ext_getElem?
 intro i
 by_cases hi:i < 2 * es.length
 ·obtain ⟨v,k,hv,hk,e⟩:=g.all (bT i) (de hi)
  have e1:=h.2 v k hv hk
  have e2:=h'.2 v k hv hk
  rw [e,show ((bT i:Nat):Int).toNat=bT i from Int.toNat_natCast _,fA] at e1 e2
  rw [e1,e2]
 ·rw [List.getElem?_eq_none (by have:=h.1;omega),List.getElem?_eq_none (by have:=h'.1;omega)]
theorem eW.lt {n:Int} {es:List Ed} {r:List (List Int)} {l:List Int} (g:bY n es r) (h:eW es r l) {i:Nat} (hi:i < 2 * es.length):∃q:Nat,l[i]?=some (q:Int)∧q < 2 * es.length:=by
 obtain ⟨v,k,hv,hk,e⟩:=g.all (bT i) (de hi)
 have e1:=h.2 v k hv hk
 rw [e,show ((bT i:Nat):Int).toNat=bT i from Int.toNat_natCast _,fA] at e1
 obtain ⟨g1,g2,_⟩:=g.ok v ((k + 1) % dG r v) hv (Nat.mod_lt _ (by omega))
 exact ⟨(gU r v ((k + 1) % dG r v)).toNat,by rw [e1];congr 1;omega,by omega⟩
def kh (f:Nat→Nat) (es:List Ed) (r:List (List Int)) (v k:Nat) (l:List Int):Prop:=l.length=2 * es.length∧∀v' k',v' < r.length→k' < dG r v'→(v' < v∨v'=v∧k' < k)→l[f (gU r v' k').toNat]?=some (gU r v' ((k' + 1) % dG r v'))
theorem kh.step {f:Nat→Nat} {n:Int} {es:List Ed} {r:List (List Int)} {v k:Nat} {l:List Int} (g:bY n es r) (hf:∀a b,f a=f b→a=b) (hl:∀a,a < 2 * es.length→f a < 2 * es.length) (h:kh f es r v k l) (hv:v < r.length) (hk:k < dG r v):kh f es r v (k + 1) (l.set (f (gU r v k).toNat) (gU r v ((k + 1) % dG r v))):=by
 refine ⟨by rw [List.length_set];exact h.1,fun v' k' jS gC hb=>?_⟩
 obtain ⟨g1,g2,_⟩:=g.ok v k hv hk
 obtain ⟨g3,g4,_⟩:=g.ok v' k' jS gC
 rw [List.getElem?_set]
 by_cases e:f (gU r v k).toNat=f (gU r v' k').toNat
 ·have e1:=hf _ _ e
  obtain ⟨rfl,rfl⟩:=g.inj v k v' k' hv hk jS gC (by omega)
  rw [if_pos rfl,if_pos (by rw [h.1];exact hl _ (by omega))]
 ·rw [if_neg e]
  refine h.2 v' k' jS gC ?_
  rcases hb with hb|⟨rfl,hb⟩
  ·exact .inl hb
  ·rcases Nat.lt_or_ge k' k with h5|h5
   ·exact .inr ⟨rfl,h5⟩
   ·exact absurd (by rw [show k'=k by omega]) e
theorem kh.row {f:Nat→Nat} {es:List Ed} {r:List (List Int)} {v:Nat} {l:List Int} (h:kh f es r v (dG r v) l):kh f es r (v + 1) 0 l:=by
 refine ⟨h.1,fun v' k' jS gC hb=>h.2 v' k' jS gC ?_⟩
 rcases hb with hb|⟨_,hb⟩
 ·by_cases e:v'=v
  ·subst e;exact .inr ⟨rfl,gC⟩
  ·exact .inl (by omega)
 ·omega
theorem kh.zero {f:Nat→Nat} {es:List Ed} {r:List (List Int)} {l:List Int} (h:l.length=2 * es.length):kh f es r 0 0 l:=⟨h,fun _ _ _ _ hb=>by omega⟩
theorem kh.all {es:List Ed} {r:List (List Int)} {l:List Int} (h:kh bT es r r.length 0 l):eW es r l:=⟨h.1,fun v k hv hk=>h.2 v k hv hk (.inl hv)⟩
theorem AQ (a b:Nat) (h:bT a=bT b):a=b:=by
 rw [← fA a,h,fA]
def au (H:Heap) (b:Nat) (l:List Int):Prop:=ao H (at_ b)=some (.cells (l.map (.int .i64)))
theorem er {H:Heap} {b k:Nat} (h:ao H (at_ b)=some (.cells (a7 [.int .i64 0] k))):au H b (List.replicate k 0):=by
 unfold au
 rw [h,iy,List.map_replicate]
theorem au.cell {l:List Int} {i:Nat} {x:Int} (h:l[i]?=some x):(l.map (Value.int .i64))[0 + i * 1]?=some (.int .i64 x):=by
 rw [Nat.zero_add,Nat.mul_one,List.getElem?_map,h];rfl
theorem au.sle {H:Heap} {b nx c:Nat} {l:List Int} (h:au H b l) (hb:b < nx) (hc:l.length≤aE c):bP H nx 1 aW (.slice (some ⟨b,0,some 1⟩) l.length c) l:=by
 refine ⟨_,_,rfl,(fun e=>by cases e),fun a ha=>?_⟩
 cases ha
 refine .inr ⟨hc,b,0,rfl,hb,fun _=>⟨_,.inl h,fun i x hx=>?_⟩⟩
 have h1:(l.map (Value.int .i64))[i]?=some (.int .i64 x):=by rw [List.getElem?_map,hx];rfl
 have hi:i < (l.map (Value.int .i64)).length:=by
  have:=List.getElem?_eq_some_iff.1 hx
  simpa using this.1
 rw [Nat.zero_add,Nat.mul_one,List.drop_eq_getElem_cons hi]
 rw [List.getElem?_eq_getElem hi] at h1
 rw [Option.some.inj h1]
 rfl
theorem Mf (h:Nat):h ^^^ 1=bT h:=by
 unfold bT
 have h1:(h ^^^ 1) / 2=h / 2:=by rw [Nat.xor_div_two];simp
 have h2:=Nat.xor_mod_two_eq_one (a:=h) (b:=1)
 split<;>omega
section
variable {A:aG} {H:Heap} {nx:Nat} {σ:aP} {L:List Value} {t:TypeId} {x y:Od}
theorem JM {h:Nat} (hs:h≤4611686018427387904):Op.intBits .xor .i64 (h:Int) (1:Int)=(pure (.int .i64 ((bT h:Nat):Int)):Sem Value):=by
 unfold Op.intBits
 show (pure (Value.int .i64 (IntKind.i64.wrap ((BitVec.ofInt 64 (h:Int) ^^^ BitVec.ofInt 64 1).toNat:Int))):Sem Value)=_
 have e1:(BitVec.ofInt 64 (h:Int) ^^^ BitVec.ofInt 64 1).toNat=bT h:=by
  rw [BitVec.toNat_xor,BitVec.toNat_ofInt,BitVec.toNat_ofInt]
  rw [show ((h:Int) % ((2 ^ 64:Nat):Int)).toNat=h by omega,show ((1:Int) % ((2 ^ 64:Nat):Int)).toNat=1 by decide]
  exact Mf h
 have ht:bT h≤h + 1:=by unfold bT;split<;>omega
 rw [e1]
 congr 2
 exact m9 (by unfold qH;omega)
theorem Act.Yb {h:Nat} (hx:ev σ L x=some (.int .i64 (h:Int))) (hy:ev σ L y=some (.int .i64 ((1:Nat):Int))) (hs:h≤4611686018427387904):Act A (.bin .xor t x y) σ L H nx (.int .i64 ((bT h:Nat):Int)) H nx:=
 .eE hx hy (fQ rfl rfl dO (by simp only [binOp];exact JM hs) rfl)
end
end Go.Eng
