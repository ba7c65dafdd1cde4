import Derived.Test.YtlffogombmhmfaaGreatLd
/- Walks over the program: part 1. -/

namespace Go.Eng
variable {A:aG} {H H':Heap} {nx nx':Nat} {σ:aP} {Q:ct}
set_option maxRecDepth 100000
theorem xi {g:FuncId} (hf:A.funcs g=some pF) (hh:∀vs H nx,A.aF g vs H nx=none) {n lo hi:Nat} {vc:Value} (hv:cd vc=some (lo,hi)) (zO:hi≤9223372036854775807) (hn:n≤100000) :
  WF A g [.int .i64 (n:Int),vc] H nx fun v H' nx'=>H'=H∧nx'=nx∧cd v=some (min lo (n + 2000),min hi (n + 2000)):=by
 refine WF.enter (hh _ _ _) hf ?_
 repeat' (first|((first|refine WO.n rfl ?_|refine WO.k rfl ?_);(first|refine aK ?_|refine bO ?_))|with_reducible (first|refine WO.nil ?_|refine WC.aa ?_|refine WC.seq ?_|refine aC ?_))
 refine WO.n rfl ?_
 refine aH.Qa rfl rfl hv (hJ (n:=n + 2000)) (by omega) (fun v hv=>?_)
 repeat' (first|(refine WO.k rfl ?_;refine aK ?_)|with_reducible (first|refine WO.nil ?_|refine WC.ret ?_|refine aC ?_))
 exact az (vs:=[_]) rfl ⟨rfl,rfl,hv⟩
def KF (u:Value):Prop:=u=.slice none 0 0∨∃d o n c,u=.slice (some ⟨d,o,some 1⟩) n c∧0 < n∧n≤4000∧n≤au c∧au c≤9223372036854775807
def kept (us:List Value):List Value:=us.filter fun u=>match u with
 | .slice none _ _=>false
 | _=>true
theorem xj {us:List Value} {u:Value}:kept (us++[u])=kept us++kept [u]:=by unfold kept;rw [List.filter_append]
def Bp (H:Heap) (nx0 nx pb:Nat) (lv:Value) (us:List Value) (B:Nat):Prop:=
 ∃sv a s,ak H (at_ pb)=some (.cells [lv,sv])∧bA H nx0 nx 1 lv us.length us∧cd sv=some (a,s)∧s≤B∧pb < nx0∧nx0≤nx
theorem GP {g:FuncId} (hf:A.funcs g=some OH) (OW:A.funcs 41=some pF) (hh:∀vs H nx,A.aF g vs H nx=none) (Bq:∀vs H nx,A.aF 41 vs H nx=none)
  {nx0 pb B:Nat} {lv Xw:Value} {us ls:List Value} (st:Bp H nx0 nx pb lv us B) (Q5:bS H nx 1 Gr Xw ls) (MP:∀u∈ls,KF u) (hlen:ls.length≤100) (hB:B + 6100 * ls.length≤1048576) (lX:bj Xw≠some pb) (hlv:∀b,bj lv=some b→bj Xw≠some b) (kI:us.length≤100000) :
  WF A g [.pointer (some ⟨pb,0,none⟩),Xw] H nx fun _ H' nx'=>nx≤nx'∧∃uq,Bp H' nx0 nx' pb uq (us++kept ls) (B + 6100 * ls.length)∧(∀b,bj uq=some b→bj lv=some b∨nx≤b)∧∀b,b < nx→b≠pb→bj lv≠some b→ak H' (at_ b)=ak H (at_ b):=by
 obtain ⟨base,c,rfl⟩:=Q5.form
 refine WF.enter (hh _ _ _) hf ?_
 repeat' (first|(refine WO.k rfl ?_;refine aK ?_)|with_reducible (first|refine WO.nil ?_|refine WC.aa ?_|refine WC.seq ?_|refine WC.block ?_|refine aC ?_))
 refine WC.loop (α:=Nat) (fun k=>[([],.pointer (some ⟨pb,0,none⟩)),(S1,.slice base ls.length c),(S4,.int .i64 ((k:Nat):Int))])
  (fun k H' nx'=>k≤ls.length∧nx≤nx'∧∃uq,Bp H' nx0 nx' pb uq (us++kept (ls.take k)) (B + 6100 * k)∧(∀b,bj uq=some b→bj lv=some b∨nx≤b)∧∀b,b < nx→b≠pb→bj lv≠some b→ak H' (at_ b)=ak H (at_ b)) (fun k=>ls.length - k)
  ?_ 0 aW ⟨Nat.zero_le _,Nat.le_refl _,lv,by simpa [kept] using st,fun b hb=>.inl hb,fun _ _ _ _=>rfl⟩
 rintro k H1 aT ⟨hk,cD,B5,jf,dB,Nk⟩
 obtain ⟨sv,a,s,Q6,hg,Sx,hsB,CU,vS⟩:=jf
 have aao:bS H1 aT 1 Gr (.slice base ls.length c) ls:=Q5.blk (fun b hb cf=>Nk b cf (fun e=>lX (by rw [← e];exact hb)) (fun e=>hlv b e hb)) cD
 repeat' (first|((first|refine WO.n rfl ?_|refine WO.k rfl ?_);(first|refine cM ?_|(refine ei (fun h=>?_) (fun h=>?_)<;>(try simp only [Int.ofNat_eq_natCast] at h))))|with_reducible (first|refine WO.nil ?_|refine WC.aa ?_|refine WC.drawn ?_|refine WC.seq ?_|refine WC.skip ?_|refine WC.exit ?_|refine WC.block ?_)|refine WC.aB rfl ?_|refine WC.ax rfl ?_|with_reducible (first|refine aC ?_|refine dQ ?_|refine eh ?_))
 ·have cI:k < ls.length:=by omega
  obtain ⟨eb,eo,cs,rfl,Br,_,_,Nl,xk⟩:=aao.at (by intro e;rw [e] at cI;simp at cI)
  have q1:=ft (xk k ls[k] (List.getElem?_eq_getElem cI))
  have VG:=MP ls[k] (List.getElem_mem cI)
  generalize hu:ls[k]=u at q1 VG
  have SU:us++kept (ls.take (k + 1))=us++kept (ls.take k)++kept [u]:=by
   rw [List.take_succ_eq_append_getElem cI,hu,xj,List.append_assoc]
  have GQ:(kept (ls.take k)).length≤100:=Nat.le_trans (List.length_filter_le _ _) (by rw [List.length_take];omega)
  rcases VG with rfl|⟨d,o,n,c',rfl,h0n,xl,Xj,ml⟩
  ·repeat' (refine WO.n rfl ?_;(first|refine cM ?_|refine bu ?_|refine aZ ?_))
   refine WO.n rfl ?_
   refine aH.of (Act.UN rfl) ?_
   refine WO.cn rfl ?_
   refine (xi OW Bq (hJ (n:=0)) (by omega) (by omega)).of ?_
   rintro v _ _ ⟨rfl,rfl,hv⟩
   repeat' (first|((first|refine WO.n rfl ?_|refine WO.k rfl ?_);refine aK ?_)|with_reducible (first|refine WO.nil ?_|refine WC.aa ?_|refine WC.seq ?_|refine aC ?_|refine kf ?_))
   refine WO.n rfl ?_
   refine aH.of (Act.Zp (c:=0) (d:=0) rfl rfl hv (hJ (n:=0)) (by omega)) ?_
   repeat' (first|((first|refine WO.n rfl ?_|refine WO.k rfl ?_);(first|refine aK ?_|refine kg ?_|refine bO ?_))|refine WO.nI rfl ?_|with_reducible (first|refine WO.nil ?_|refine WC.aa ?_|refine WC.skip ?_)|refine WC.ax rfl ?_|with_reducible (first|refine aC ?_|refine eT ?_))
   refine ⟨k + 1,by omega,.cons rfl aW,by omega,cD,B5,?_,dB,Nk⟩
   rw [SU,show kept [Value.slice none 0 0]=[] from rfl,List.append_nil]
   exact ⟨sv,a,s,Q6,hg,Sx,by omega,CU,vS⟩
  ·have VH:kept [Value.slice (some ⟨d,o,some 1⟩) n c']=[Value.slice (some ⟨d,o,some 1⟩) n c']:=rfl
   rw [VH] at SU
   have abK:(us++kept (ls.take k)).length≤100100:=by rw [List.length_append];omega
   repeat' (refine WO.n rfl ?_;(first|refine cM ?_|refine bu ?_|refine aZ ?_))
   refine WO.n rfl ?_
   refine aH.Qb rfl (fun _ _=>ml) (fun vc lo hi Q3 _ pW zO=>?_)
   obtain ⟨rfl,hlh⟩:=pW _ rfl
   refine WO.cn rfl ?_
   refine (xi OW Bq Q3 zO (by omega)).of ?_
   rintro v H1 aT ⟨rfl,rfl,hv⟩
   have OX:eb≠pb:=fun e=>lX (by rw [e];rfl)
   repeat' (first|((first|refine WO.n rfl ?_|refine WO.k rfl ?_);refine aK ?_)|with_reducible (first|refine WO.nil ?_|refine WC.aa ?_|refine WC.seq ?_|refine aC ?_|refine kf ?_))
   refine WO.n rfl ?_
   refine aH.of (Act.Zo (c:=0) (d:=0) rfl rfl hv (hJ (n:=0)) (by omega) (by omega)) ?_
   repeat' (first|(refine WO.n rfl ?_;(first|refine aK ?_|refine dD ?_|refine aJ ?_|refine jC ?_))|refine WO.dC rfl ?_)
   refine WO.n rfl ?_
   refine aH.MQ rfl rfl Sx hv (by omega) (fun s2 bL=>?_)
   repeat' (refine WO.dC rfl ?_)
   refine WO.n rfl ?_
   refine aH.of (Act.Zq (c:=1048576) (d:=1048576) rfl rfl bL (hJ (n:=1048576)) (by omega)) ?_
   repeat' (first|((first|refine WO.n rfl ?_|refine WO.k rfl ?_);(first|refine dD ?_|refine kg ?_|refine aJ ?_|refine jC ?_))|with_reducible (first|refine WO.nil ?_|refine WC.aa ?_|refine WC.seq ?_)|refine WC.aB rfl ?_)
   refine WO.n rfl ?_
   refine aH.MQ rfl rfl Sx hv (by omega) (fun s3 fH=>?_)
   obtain ⟨jT,sr⟩:=Gv fH
   repeat' (refine WO.n rfl ?_;(first|refine dD ?_|refine jC ?_))
   refine WO.n rfl ?_
   refine aH.of (Act.P6 rfl rfl jT sr Q6 (by simp)) ?_
   have abL:Rd (aw H1 pb ([B5,sv].set (0 + 1) s3)) eb cs:=Rd.skip OX Nl
   repeat' (first|(refine WO.n rfl ?_;(first|refine dD ?_|refine aJ ?_|refine bu ?_|refine aZ ?_|refine gx ?_|refine jC ?_))|with_reducible (first|refine WO.nil ?_|refine WC.drawn ?_|refine aC ?_))
   refine WO.n rfl ?_
   have cy:∀(b:Nat) (c:Nat) (z':Option Nat) (q:Nat),B5=.slice (some ⟨b,0,z'⟩) q c→nx0≤b∧bj B5=some b:=by
    intro b c2 z' q e
    obtain ⟨_,⟨e2,_⟩|⟨b',e2,e3,_⟩⟩:=hg
    ·rw [e] at e2;cases e2
    ·rw [e] at e2;cases e2;exact ⟨e3,by rw [e];rfl⟩
   refine aH.wZ (nx0:=nx0) rfl rfl (hg.vh (fun b hb kl=>by rw [ai,if_neg (by omega),ai,if_neg (by omega)]) (Nat.le_succ _)) (dT Rd.self rfl) (by omega) (by omega) rfl (by unfold small;omega) (by unfold small;omega) ?_
   intro H3 YA hf3
   have hp3:ak H3 (at_ pb)=some (.cells [B5,s3]):=by rw [hf3 pb (by omega) (fun c z' q e=>by have:=(cy pb c z' q e).1;omega),ai,if_neg (by omega),ai,if_pos rfl];rfl
   repeat' (first|((first|refine WO.n rfl ?_|refine WO.k rfl ?_);(first|refine aK ?_|refine dD ?_|refine fj ?_|refine bO ?_|refine jC ?_))|with_reducible (first|refine WO.nil ?_|refine WC.aa ?_|refine aC ?_|refine eT ?_|refine kf ?_))
   have OY:(us++kept (ls.take k)++[Value.slice (some ⟨d,o,some 1⟩) n c']).length=(us++kept (ls.take k)).length + 1:=by rw [List.length_append];rfl
   refine ⟨k + 1,by omega,.cons rfl aW,by omega,by omega,_,⟨s3,_,_,aq,?_,fH,by omega,CU,by omega⟩,fun b hb=>?_,fun b hb kl HT=>?_⟩
   ·rw [SU,OY]
    exact ⟨by rw [OY];omega,.inr ⟨aT + 1,rfl,by omega,by omega,by rw [ai,if_neg (by omega)];exact YA⟩⟩
   ·cases hb;exact .inr (by omega)
   ·rw [ai,if_neg kl,hf3 b (by omega) (fun c z' q e=>by
     rcases dB b (cy b c z' q e).2 with h5|h5
     ·exact HT h5
     ·omega),ai,if_neg (by omega),ai,if_neg kl]
    exact Nk b hb kl HT
 ·have cI:k=ls.length:=by omega
  subst cI
  rw [List.take_length] at hg
  exact hC (vs:=[]) rfl ⟨cD,B5,⟨sv,a,s,Q6,hg,Sx,by omega,CU,vS⟩,dB,Nk⟩
end Go.Eng

namespace Go.Eng
variable {A:aG} {H H':Heap} {nx nx':Nat} {σ:aP} {Q:ct}
set_option maxRecDepth 100000
def m3 {α:Type} (f:Nat→α) (i:Nat) (x:α):Nat→α:=fun j=>if j=i then x else f j
theorem dw {α:Type} {f:Nat→α} {i:Nat} {x:α}:m3 f i x i=x:=by simp [m3]
theorem sK {α:Type} {f:Nat→α} {i:Nat} {x y:α}:m3 (m3 f i x) i y=m3 f i y:=by funext j;unfold m3;split<;>rfl
theorem ot {α:Type} {f:Nat→α} {i j:Nat} {x:α} (h:j≠i):m3 f i x j=f j:=by simp [m3,h]
structure B6 where
 pb:Nat
 rb:Nat
 m:Nat
 rc:Nat
 sv:Value
 d:Nat→Nat
 o:Nat→Nat
 c:Nat→Nat
def B6.v (D:B6) (n:Nat→Nat) (j:Nat):Value:=.slice (some ⟨D.d j,D.o j,some 1⟩) (n j) (2 * D.c j + 1)
def B6.row (D:B6) (n:Nat→Nat):List Value:=(List.range D.m).map (D.v n)
structure vi (D:B6) (H:Heap) (nx:Nat) (n:Nat→Nat) (cs:Nat→List Value):Prop where
 p:ak H (at_ D.pb)=some (.cells [.slice (some ⟨D.rb,0,some 1⟩) D.m D.rc,D.sv])
 r:ak H (at_ D.rb)=some (.cells (D.row n))
 l:∀j,j < D.m→ak H (at_ (D.d j))=some (.cells (cs j))∧(cs j).length=D.o j + n j∧n j≤D.c j∧D.c j≤dA∧D.d j < nx∧D.d j≠D.rb∧D.d j≠D.pb
 ne:D.rb≠D.pb
 lt:D.pb < nx∧D.rb < nx
 inj:∀i j,i < D.m→j < D.m→D.d i=D.d j→i=j
variable {D:B6} {n:Nat→Nat} {cs:Nat→List Value}
theorem B6.yN {j:Nat} (h:j < D.m):(D.row n)[0 + j * 1]?=some (D.v n j):=by
 unfold B6.row
 rw [Nat.zero_add,Nat.mul_one,List.getElem?_map,List.getElem?_range h];rfl
theorem vi.same (st:vi D H nx n cs) (hs:an H H' nx) (hn:nx≤nx'):vi D H' nx' n cs:=
 ⟨(hs _ st.lt.1).trans st.p,(hs _ st.lt.2).trans st.r,fun j hj=>let ⟨h1,h2,h3,h4,h5,h6,h7⟩:=st.l j hj;⟨(hs _ h5).trans h1,h2,h3,h4,Nat.lt_of_lt_of_le h5 hn,h6,h7⟩,st.ne,⟨Nat.lt_of_lt_of_le st.lt.1 hn,Nat.lt_of_lt_of_le st.lt.2 hn⟩,st.inj⟩
theorem vi.put (st:vi D H nx n cs) {i:Nat} (hi:i < D.m) {l:List Value} (hl:l.length=(cs i).length):vi D (aw H (D.d i) l) nx n (m3 cs i l):=by
 obtain ⟨h1,h2,h3,h4,h5,h6,h7⟩:=st.l i hi
 refine ⟨by rw [ai,if_neg (fun e=>h7 e.symm)];exact st.p,by rw [ai,if_neg (fun e=>h6 e.symm)];exact st.r,fun j hj=>?_,st.ne,st.lt,st.inj⟩
 by_cases e:j=i
 ·subst e
  rw [dw]
  exact ⟨aq,by rw [hl];exact h2,h3,h4,h5,h6,h7⟩
 ·obtain ⟨g1,g⟩:=st.l j hj
  rw [ot e]
  exact ⟨by rw [ai,if_neg (fun e'=>e (st.inj j i hj hi e'))];exact g1,g⟩
theorem vi.app (st:vi D H nx n cs) {i:Nat} (hi:i < D.m) {v:Value} (hc:n i < D.c i) :
  vi D (aw (aw H (D.d i) (cs i++[v])) D.rb ((D.row n).set i (.slice (some ⟨D.d i,D.o i,some 1⟩) (n i + 1) (2 * D.c i + 1)))) nx (m3 n i (n i + 1)) (m3 cs i (cs i++[v])):=by
 obtain ⟨h1,h2,h3,h4,h5,h6,h7⟩:=st.l i hi
 refine ⟨by rw [ai,if_neg (fun e=>st.ne e.symm),ai,if_neg (fun e=>h7 e.symm)];exact st.p,?_,fun j hj=>?_,st.ne,st.lt,st.inj⟩
 ·rw [aq]
  congr 2
  apply List.ext_getElem?
  intro j
  unfold B6.row
  rw [List.getElem?_set]
  by_cases e:i=j
  ·subst e
   rw [if_pos rfl,if_pos (by simpa using hi),List.getElem?_map,List.getElem?_range hi]
   show some _=some (D.v _ i)
   unfold B6.v
   rw [dw]
  ·rw [if_neg e,List.getElem?_map,List.getElem?_map]
   cases hj:(List.range D.m)[j]? with
   | none=>rfl
   | some q=>
    have:q=j:=by
     have cf:=(List.getElem?_eq_some_iff.1 hj).1
     rw [List.getElem?_range (by simpa using cf)] at hj
     exact (Option.some.inj hj).symm
    subst this
    show some (D.v n q)=some (D.v _ q)
    unfold B6.v
    rw [ot (fun e'=>e e'.symm)]
 ·by_cases e:j=i
  ·subst e
   rw [dw,dw]
   exact ⟨by rw [ai,if_neg h6,aq],by rw [List.length_append,h2];rfl,by omega,h4,h5,h6,h7⟩
  ·obtain ⟨g1,g2,g3,g4,g5,g6,g7⟩:=st.l j hj
   rw [ot e,ot e]
   exact ⟨by rw [ai,if_neg g6,ai,if_neg (fun e'=>e (st.inj j i hj hi e'))];exact g1,g2,g3,g4,g5,g6,g7⟩
theorem gn {base:Option Addr} {n c:Nat}:jK (.slice base n c) (.slice base n c)=true:=tY
theorem ur {g:FuncId} (hf:A.funcs g=some pF) (hh:∀vs H nx,A.aF g vs H nx=none) {n c:Nat} (hn:n≤100000) :
  WF A g [.int .i64 (n:Int),.int .i64 (c:Int)] H nx fun v H' nx'=>H'=H∧nx'=nx∧v=.int .i64 ((min c (n + 2000):Nat):Int):=by
 refine WF.enter (hh _ _ _) hf ?_
 repeat' (first|((first|refine WO.n rfl ?_|refine WO.k rfl ?_);(first|refine aK ?_|refine bO ?_|refine UQ ?_))|with_reducible (first|refine WO.nil ?_|refine WC.aa ?_|refine WC.seq ?_|refine WC.ret ?_|refine aC ?_))
 refine az (vs:=[_]) rfl ⟨rfl,rfl,?_⟩
 show Value.int .i64 _=.int .i64 _
 congr 1
 omega
theorem aap (st:vi D H nx n cs) {i N:Nat} (hi:i < D.m) (hm:D.m≤100000) (hN:N≤D.c i) (hN2:N≤100000) (OZ:n i≤100000)
  (aN:∀σ H' nx' r l,bg [([],.pointer (some ⟨D.pb,0,none⟩)),(S3,.int .i64 ((i:Nat):Int))] σ→nx≤nx'→r≤100000→vi D H' nx' (m3 n i r) (m3 cs i l)→Q (.exit 2) σ H' nx') :
  WC A (.loop JN) [([],.pointer (some ⟨D.pb,0,none⟩)),(S3,.int .i64 ((i:Nat):Int)),(S4,.int .i64 ((N:Nat):Int))] H nx Q:=by
 refine WC.loop (α:=Nat×List Value) (fun _=>[([],.pointer (some ⟨D.pb,0,none⟩)),(S3,.int .i64 ((i:Nat):Int)),(S4,.int .i64 ((N:Nat):Int))])
  (fun k H' nx'=>nx≤nx'∧k.1≤100000∧vi D H' nx' (m3 n i k.1) (m3 cs i k.2)) (fun k=>N - k.1)
  ?_ (n i,cs i) aW ⟨Nat.le_refl _,OZ,by
   have e1:m3 n i (n i)=n:=by funext j;unfold m3;split<;>simp_all
   have e2:m3 cs i (cs i)=cs:=by funext j;unfold m3;split<;>simp_all
   rw [e1,e2];exact st⟩
 rintro ⟨r,l⟩ H1 aT ⟨cD,nS,jf⟩
 simp only at nS jf ⊢
 have hp:=jf.p
 have hr:=jf.r
 have q1:(D.row (m3 n i r))[0 + i * 1]?=some (.slice (some ⟨D.d i,D.o i,some 1⟩) r (2 * D.c i + 1)):=by
  rw [D.yN hi];unfold B6.v;rw [dw]
 obtain ⟨h1,h2,h3,h4,h5,h6,h7⟩:=jf.l i hi
 simp only [dw] at h1 h2 h3
 have cf:=jf.lt
 have zq:(D.row (m3 n i r)).length=D.m:=by simp [B6.row]
 unfold JN
 repeat' (first|((first|refine WO.n rfl ?_|refine WO.k rfl ?_);(first|refine dD ?_|refine cM ?_|refine aJ ?_|refine bu ?_|refine aZ ?_|refine gx ?_|(refine ei (fun h=>?_) (fun h=>?_)<;>(try simp only [Int.ofNat_eq_natCast] at h))|refine jC ?_))|with_reducible (first|refine WO.nil ?_|refine WC.aa ?_|refine WC.drawn ?_|refine WC.seq ?_|refine WC.skip ?_|refine WC.exit ?_|refine WC.block ?_)|refine WC.aB rfl ?_|refine WC.ax rfl ?_|with_reducible (first|refine aC ?_|refine dQ ?_))
 ·have qO:r < D.c i:=by omega
  have nH:ak (aw H1 aT [.int .i64 0]) (at_ (D.d i))=some (.cells l):=by rw [ai,if_neg (by omega)];exact h1
  refine WO.na rfl ?_
  refine aH.of (Act.oJ (n:=1) (l:=l++[.int .i64 0]) rfl rfl (dT Rd.self rfl) (by omega) (by omega) rfl nH (by rw [cw];omega) (w4 (by simp) (by omega))) ?_
  refine ⟨.look rfl (Rd.skip (by omega) (Rd.skip (by omega) (Rd.own hp))) rfl rfl gn .nil,?_⟩
  have nn:ak (aw (aw H1 aT [.int .i64 0]) (D.d i) (l++[.int .i64 0])) (at_ D.rb)=some (.cells (D.row (m3 n i r))):=by rw [ai,if_neg (by omega),ai,if_neg (by omega)];exact hr
  repeat' (first|(refine WO.n rfl ?_;(first|refine aZ ?_|refine fj ?_))|with_reducible (first|refine WO.nil ?_|refine eT ?_|refine kf ?_))
  refine ⟨(r + 1,l++[.int .i64 0]),by show N - (r + 1) < N - r;omega,.cons rfl aW,by omega,by show r + 1≤_;omega,?_⟩
  have rK:vi D (aw H1 aT [.int .i64 0]) (aT + 1) (m3 n i r) (m3 cs i l):=jf.same (an.refl.set (Nat.le_refl _)) (Nat.le_succ _)
  have GR:=rK.app hi (v:=.int .i64 0) (by rw [dw];exact qO)
  rw [dw,dw,sK,sK] at GR
  rw [show 0 + i * 1=i by omega]
  exact GR
 ·exact aN _ _ _ r l aW cD nS jf
theorem aaq (st:vi D H nx n cs) {i:Nat} (hi:i < D.m) (hm:D.m≤100000) (OZ:n i≤100000)
  (aN:∀σ H' nx' l,bg [([],.pointer (some ⟨D.pb,0,none⟩)),(S3,.int .i64 ((i:Nat):Int))] σ→nx≤nx'→vi D H' nx' n (m3 cs i l)→(∀q,q < n i→l[D.o i + q]?=some (.int .i64 (-1000 - (i:Int))))→Q (.exit 4) σ H' nx') :
  WC A (.loop JO) [([],.pointer (some ⟨D.pb,0,none⟩)),(S3,.int .i64 ((i:Nat):Int)),(S5,.int .i64 0)] H nx Q:=by
 refine WC.loop (α:=Nat×List Value) (fun k=>[([],.pointer (some ⟨D.pb,0,none⟩)),(S3,.int .i64 ((i:Nat):Int)),(S5,.int .i64 ((k.1:Nat):Int))])
  (fun k H' nx'=>nx≤nx'∧k.1≤n i∧vi D H' nx' n (m3 cs i k.2)∧∀q,q < k.1→k.2[D.o i + q]?=some (.int .i64 (-1000 - (i:Int)))) (fun k=>n i - k.1)
  ?_ (0,cs i) aW ⟨Nat.le_refl _,Nat.zero_le _,by
   have e2:m3 cs i (cs i)=cs:=by funext j;unfold m3;split<;>simp_all
   rw [e2];exact st,fun q hq=>absurd hq (Nat.not_lt_zero _)⟩
 rintro ⟨k,l⟩ H1 aT ⟨cD,hk,jf,fA⟩
 simp only at hk jf fA ⊢
 have hp:=jf.p
 have hr:=jf.r
 have q1:(D.row n)[0 + i * 1]?=some (.slice (some ⟨D.d i,D.o i,some 1⟩) (n i) (2 * D.c i + 1)):=D.yN hi
 obtain ⟨h1,h2,h3,h4,h5,h6,h7⟩:=jf.l i hi
 simp only [dw] at h1 h2
 have cf:=jf.lt
 unfold JO
 repeat' (first|((first|refine WO.n rfl ?_|refine WO.k rfl ?_);(first|refine aK ?_|refine dD ?_|refine cM ?_|refine aJ ?_|refine bu ?_|refine aZ ?_|refine fj ?_|(refine ei (fun h=>?_) (fun h=>?_)<;>(try simp only [Int.ofNat_eq_natCast] at h))|refine bO ?_|refine Db ?_|refine jC ?_))|with_reducible (first|refine WO.nil ?_|refine WC.aa ?_|refine WC.seq ?_|refine WC.skip ?_|refine WC.exit ?_|refine WC.block ?_)|refine WC.aB rfl ?_|refine WC.ax rfl ?_|with_reducible (first|refine aC ?_|refine dQ ?_|refine eT ?_))
 ·try (refine WO.n rfl ?_;refine aH.of (Act.sub (a:=-1000) (b:=(i:Int)) rfl rfl (by unfold tW;omega)) ?_)
  repeat' (fail)
  refine ⟨(k + 1,l.set (D.o i + k * 1) (.int .i64 (-1000 - (i:Int)))),by show n i - (k + 1) < n i - k;omega,.cons rfl aW,by omega,by show k + 1≤_;omega,?_,fun q hq=>?_⟩
  ·have rK:=jf.put hi (l:=l.set (D.o i + k * 1) (.int .i64 (-1000 - (i:Int)))) (by rw [dw,List.length_set])
   rw [sK] at rK
   exact rK
  ·show (l.set _ _)[_]?=_
   rw [Nat.mul_one,List.getElem?_set]
   by_cases e:k=q
   ·subst e
    rw [if_pos rfl,if_pos (by omega)]
   ·rw [if_neg (by omega)]
    exact fA q (by show q < k;have:q < k + 1:=hq;omega)
 ·have:k=n i:=by omega
  subst this
  exact aN _ _ _ l aW cD jf fA
theorem aar (st:vi D H nx n cs) {i:Nat} (hi:i < D.m) (hm:D.m≤100000) (OZ:n i≤100000) (fA:∀q,q < n i→(cs i)[D.o i + q * 1]?=some (.int .i64 (-1000 - (i:Int))))
  (aN:∀σ,bg [([],.pointer (some ⟨D.pb,0,none⟩)),(S6,.int .i64 ((i:Nat):Int))] σ→Q (.exit 8) σ H nx) :
  WC A (.loop JP) [([],.pointer (some ⟨D.pb,0,none⟩)),(S6,.int .i64 ((i:Nat):Int)),(S7,.int .i64 0)] H nx Q:=by
 refine WC.loop (α:=Nat) (fun k=>[([],.pointer (some ⟨D.pb,0,none⟩)),(S6,.int .i64 ((i:Nat):Int)),(S7,.int .i64 ((k:Nat):Int))])
  (fun k H' nx'=>k≤n i∧H'=H∧nx'=nx) (fun k=>n i - k)
  ?_ 0 aW ⟨Nat.zero_le _,rfl,rfl⟩
 rintro k _ _ ⟨hk,rfl,rfl⟩
 have hp:=st.p
 have hr:=st.r
 have q1:(D.row n)[0 + i * 1]?=some (.slice (some ⟨D.d i,D.o i,some 1⟩) (n i) (2 * D.c i + 1)):=D.yN hi
 obtain ⟨h1,h2,h3,h4,h5,h6,h7⟩:=st.l i hi
 unfold JP
 repeat' (first|((first|refine WO.n rfl ?_|refine WO.k rfl ?_);(first|refine dD ?_|refine cM ?_|refine aJ ?_|refine bu ?_|refine aZ ?_|(refine ei (fun h=>?_) (fun h=>?_)<;>(try simp only [Int.ofNat_eq_natCast] at h))|refine jC ?_))|with_reducible (first|refine WO.nil ?_|refine WC.aa ?_|refine WC.seq ?_|refine WC.skip ?_|refine WC.exit ?_|refine WC.block ?_)|refine WC.aB rfl ?_|refine WC.ax rfl ?_|with_reducible (first|refine aC ?_|refine dQ ?_))
 ·have q2:=fA k (by omega)
  repeat' (first|((first|refine WO.n rfl ?_|refine WO.k rfl ?_);(first|refine aK ?_|refine bu ?_|(refine om (fun h=>?_) (fun h=>?_)<;>(try simp only [Int.ofNat_eq_natCast] at h))|refine bO ?_|refine Db ?_))|with_reducible (first|refine WO.nil ?_|refine WC.aa ?_|refine WC.seq ?_|refine WC.skip ?_|refine WC.ret ?_)|refine WC.aB rfl ?_|refine WC.ax rfl ?_|with_reducible (first|refine aC ?_|refine gM ?_|refine eT ?_|refine pZ ?_))
  try (refine WO.n rfl ?_;refine aH.of (Act.sub (a:=-1000) (b:=(i:Int)) rfl rfl (by unfold tW;omega)) ?_)
  repeat' (fail)
  ·exact absurd rfl h
  ·exact ⟨k + 1,by omega,.cons rfl aW,by omega,rfl,rfl⟩
 ·exact aN _ aW
theorem ap2 (st:vi D H nx n cs) (hm:D.m≤100000) (OZ:∀i,i < D.m→n i≤100000) (fA:∀i q,i < D.m→q < n i→(cs i)[D.o i + q * 1]?=some (.int .i64 (-1000 - (i:Int))))
  (aN:∀σ,Q (.exit 6) σ H nx) :
  WC A (.loop Qn) [([],.pointer (some ⟨D.pb,0,none⟩)),(S6,.int .i64 0)] H nx Q:=by
 refine WC.loop (α:=Nat) (fun k=>[([],.pointer (some ⟨D.pb,0,none⟩)),(S6,.int .i64 ((k:Nat):Int))])
  (fun k H' nx'=>k≤D.m∧H'=H∧nx'=nx) (fun k=>D.m - k)
  ?_ 0 aW ⟨Nat.zero_le _,rfl,rfl⟩
 rintro k _ _ ⟨hk,rfl,rfl⟩
 have hp:=st.p
 unfold Qn
 repeat' (first|((first|refine WO.n rfl ?_|refine WO.k rfl ?_);(first|refine aK ?_|refine dD ?_|refine cM ?_|refine aJ ?_|(refine ei (fun h=>?_) (fun h=>?_)<;>(try simp only [Int.ofNat_eq_natCast] at h))|refine jC ?_))|with_reducible (first|refine WO.nil ?_|refine WC.aa ?_|refine WC.seq ?_|refine WC.skip ?_|refine WC.exit ?_|refine WC.block ?_)|refine WC.aB rfl ?_|refine WC.ax rfl ?_|with_reducible (first|refine aC ?_|refine dQ ?_))
 ·refine WC.sub aW (aar st (i:=k) (by omega) hm (OZ k (by omega)) (fun q hq=>fA k q (by omega) hq) (fun σ hσ=>?_))
  refine eh (eT (aC (WC.sub hσ ?_)))
  repeat' (first|((first|refine WO.n rfl ?_|refine WO.k rfl ?_);(first|refine aK ?_|refine bO ?_))|with_reducible (first|refine WO.nil ?_|refine WC.aa ?_))
  exact ⟨k + 1,by omega,.cons rfl aW,by omega,rfl,rfl⟩
 ·exact aN _
theorem ap1 (OW:A.funcs 41=some pF) (Bq:∀vs H nx,A.aF 41 vs H nx=none) (st:vi D H nx n cs) (hm:D.m≤100000) (OZ:∀i,i < D.m→n i≤4000)
  (aN:∀σ H' nx' n' cs',bg [([],.pointer (some ⟨D.pb,0,none⟩))] σ→vi D H' nx' n' cs'→(∀i,i < D.m→n' i≤100000)→(∀i q,i < D.m→q < n' i→(cs' i)[D.o i + q * 1]?=some (.int .i64 (-1000 - (i:Int))))→Q (.exit 0) σ H' nx') :
  WC A (.loop Ql) [([],.pointer (some ⟨D.pb,0,none⟩)),(S3,.int .i64 0)] H nx Q:=by
 refine WC.loop (α:=Nat×(Nat→Nat)×(Nat→List Value)) (fun k=>[([],.pointer (some ⟨D.pb,0,none⟩)),(S3,.int .i64 ((k.1:Nat):Int))])
  (fun k H' nx'=>k.1≤D.m∧vi D H' nx' k.2.1 k.2.2∧(∀i,i < D.m→k.2.1 i≤100000)∧(∀i,k.1≤i→i < D.m→k.2.1 i≤4000)∧∀i q,i < k.1→q < k.2.1 i→(k.2.2 i)[D.o i + q * 1]?=some (.int .i64 (-1000 - (i:Int)))) (fun k=>D.m - k.1)
  ?_ (0,n,cs) aW ⟨Nat.zero_le _,st,fun i hi=>Nat.le_trans (OZ i hi) (by omega),fun i _ hi=>OZ i hi,fun i q hi=>absurd hi (Nat.not_lt_zero _)⟩
 rintro ⟨k,n1,En⟩ H1 aT ⟨hk,jf,dB,kl,fA⟩
 simp only at hk jf dB kl fA ⊢
 have hp:=jf.p
 have hr:=jf.r
 unfold Ql
 repeat' (first|((first|refine WO.n rfl ?_|refine WO.k rfl ?_);(first|refine dD ?_|refine cM ?_|refine aJ ?_|refine aZ ?_|(refine ei (fun h=>?_) (fun h=>?_)<;>(try simp only [Int.ofNat_eq_natCast] at h))|refine jC ?_))|with_reducible (first|refine WO.nil ?_|refine WC.aa ?_|refine WC.drawn ?_|refine WC.seq ?_|refine WC.skip ?_|refine WC.exit ?_|refine WC.block ?_)|refine WC.aB rfl ?_|refine WC.ax rfl ?_|with_reducible (first|refine aC ?_|refine dQ ?_))
 ·have wT:k < D.m:=by omega
  have q1:(D.row n1)[0 + k * 1]?=some (.slice (some ⟨D.d k,D.o k,some 1⟩) (n1 k) (2 * D.c k + 1)):=D.yN wT
  repeat' (refine WO.n rfl ?_;(first|refine dD ?_|refine cM ?_|refine aJ ?_|refine bu ?_|refine aZ ?_|refine jC ?_))
  refine WO.n rfl ?_
  refine aH.of (Act.P9 rfl (w3 _)) ?_
  rw [cw]
  refine WO.cn rfl ?_
  refine (ur OW Bq (by have:=kl k (Nat.le_refl _) wT;omega)).of ?_
  rintro _ H1 aT ⟨rfl,rfl,rfl⟩
  repeat' (first|(refine WO.k rfl ?_;refine aK ?_)|with_reducible (first|refine WO.nil ?_|refine WC.block ?_|refine aC ?_|refine kf ?_))
  have hb:=kl k (Nat.le_refl _) wT
  refine WC.sub aW (aap jf wT hm (N:=min (D.c k) (n1 k + 2000)) (Nat.min_le_left _ _) (by omega) (dB k wT) (fun σ H2 nx2 r l hσ eW zT rK=>?_))
  refine eh (aC (WC.sub hσ ?_))
  repeat' (first|(refine WO.k rfl ?_;refine aK ?_)|with_reducible (first|refine WO.nil ?_|refine WC.aa ?_|refine WC.seq ?_|refine WC.block ?_|refine aC ?_))
  refine WC.sub aW (aaq rK wT hm (by rw [dw];exact zT) (fun σ H3 nx3 l2 hσ mG GR lR=>?_))
  rw [sK] at GR
  rw [dw] at lR
  refine eh (eT (aC (WC.sub hσ ?_)))
  repeat' (first|((first|refine WO.n rfl ?_|refine WO.k rfl ?_);(first|refine aK ?_|refine bO ?_))|with_reducible (first|refine WO.nil ?_|refine WC.aa ?_))
  refine ⟨(k + 1,m3 n1 k r,m3 En k l2),by show D.m - (k + 1) < D.m - k;omega,.cons rfl aW,by show k + 1≤_;omega,GR,fun i hi=>?_,fun i hi him=>?_,fun i q hi hq=>?_⟩
  ·show m3 n1 k r i≤_
   by_cases e:i=k
   ·subst e;rw [dw];exact zT
   ·rw [ot e];exact dB i hi
  ·have xO:k + 1≤i:=hi
   show m3 n1 k r i≤_
   rw [ot (by omega)]
   exact kl i (by omega) him
  ·have xO:i < k + 1:=hi
   have fQ:q < m3 n1 k r i:=hq
   show (m3 En k l2 i)[_]?=_
   by_cases e:i=k
   ·subst e
    rw [dw] at fQ ⊢
    rw [Nat.mul_one]
    exact lR q fQ
   ·rw [ot e] at fQ ⊢
    exact fA i q (by omega) fQ
 ·have wT:k=D.m:=by omega
  subst wT
  exact aN _ _ _ n1 En aW jf dB fA
theorem apart_spec {g:FuncId} (hf:A.funcs g=some Di) (OW:A.funcs 41=some pF) (hh:∀vs H nx,A.aF g vs H nx=none) (Bq:∀vs H nx,A.aF 41 vs H nx=none)
  (st:vi D H nx n cs) (hm:D.m≤100000) (hn:∀j,j < D.m→n j≤4000) :
  WF A g [.pointer (some ⟨D.pb,0,none⟩)] H nx fun v _ _=>v=.bool true:=by
 refine WF.enter (hh _ _ _) hf ?_
 repeat' (first|(refine WO.k rfl ?_;refine aK ?_)|with_reducible (first|refine WO.nil ?_|refine WC.aa ?_|refine WC.seq ?_|refine WC.block ?_|refine aC ?_))
 refine WC.sub aW (ap1 OW Bq st hm hn (fun σ H2 nx2 n2 gR hσ rK kl KG=>?_))
 refine eh (aC (WC.sub hσ ?_))
 repeat' (first|(refine WO.k rfl ?_;refine aK ?_)|with_reducible (first|refine WO.nil ?_|refine WC.aa ?_|refine WC.seq ?_|refine WC.block ?_|refine aC ?_))
 refine WC.sub aW (ap2 rK hm kl KG (fun σ=>?_))
 refine eh (aC ?_)
 repeat' (first|(refine WO.k rfl ?_;refine aK ?_)|with_reducible (first|refine WO.nil ?_|refine WC.aa ?_|refine WC.seq ?_|refine WC.ret ?_|refine aC ?_))
 exact az (vs:=[_]) rfl rfl
end Go.Eng

namespace Go.Eng
variable {A:aG} {H H':Heap} {nx nx':Nat} {σ:aP} {Q:ct} {P:Program} {ins:List Nat}
set_option maxRecDepth 100000
theorem GU {g:FuncId} (hf:A.funcs g=some Di) (hh:∀vs H nx,A.aF g vs H nx=none) {pb:Nat} {sv:Value} (hp:ak H (at_ pb)=some (.cells [.slice none 0 0,sv])) :
  WF A g [.pointer (some ⟨pb,0,none⟩)] H nx fun v _ _=>v=.bool true:=by
 refine WF.enter (hh _ _ _) hf ?_
 repeat' (first|(refine WO.k rfl ?_;refine aK ?_)|with_reducible (first|refine WO.nil ?_|refine WC.aa ?_|refine WC.seq ?_|refine WC.block ?_|refine aC ?_))
 refine WC.loop (α:=Unit) (fun _=>[([],.pointer (some ⟨pb,0,none⟩)),(S3,.int .i64 0)]) (fun _ H' nx'=>H'=H∧nx'=nx) (fun _=>0) ?_ () aW ⟨rfl,rfl⟩
 rintro _ _ _ ⟨rfl,rfl⟩
 repeat' (first|((first|refine WO.n rfl ?_|refine WO.k rfl ?_);(first|refine aK ?_|refine dD ?_|refine cM ?_|refine aJ ?_|(refine ei (fun h=>?_) (fun h=>?_)<;>(try simp only [Int.ofNat_eq_natCast] at h))|refine jC ?_))|with_reducible (first|refine WO.nil ?_|refine WC.aa ?_|refine WC.drawn ?_|refine WC.seq ?_|refine WC.skip ?_|refine WC.exit ?_|refine WC.block ?_)|refine WC.aB rfl ?_|refine WC.ax rfl ?_|with_reducible (first|refine aC ?_|refine dQ ?_|refine eh ?_))
 all_goals try (exfalso;omega)
 refine WC.loop (α:=Unit) (fun _=>[([],.pointer (some ⟨pb,0,none⟩)),(S6,.int .i64 0)]) (fun _ H' nx'=>H'=_∧nx'=_) (fun _=>0) ?_ () aW ⟨rfl,rfl⟩
 rintro _ _ _ ⟨rfl,rfl⟩
 repeat' (first|((first|refine WO.n rfl ?_|refine WO.k rfl ?_);(first|refine aK ?_|refine dD ?_|refine cM ?_|refine aJ ?_|(refine ei (fun h=>?_) (fun h=>?_)<;>(try simp only [Int.ofNat_eq_natCast] at h))|refine jC ?_))|with_reducible (first|refine WO.nil ?_|refine WC.aa ?_|refine WC.seq ?_|refine WC.skip ?_|refine WC.ret ?_|refine WC.exit ?_|refine WC.block ?_)|refine WC.aB rfl ?_|refine WC.ax rfl ?_|with_reducible (first|refine aC ?_|refine dQ ?_|refine eh ?_))
 all_goals first|exact az (vs:=[_]) rfl rfl|(exfalso;omega)
def sD:Value→Nat
 | .slice (some ⟨d,_,_⟩) _ _=>d
 | _=>0
def sO:Value→Nat
 | .slice (some ⟨_,o,_⟩) _ _=>o
 | _=>0
def sN:Value→Nat
 | .slice _ n _=>n
 | _=>0
def sC:Value→Nat
 | .slice _ _ c=>c
 | _=>0
noncomputable def yO (H:Heap) (d:Nat):List Value:=match ak H (at_ d) with
 | some (.cells l)=>l
 | _=>[]
def Bj (vs:List Value) (H:Heap) (nx:Nat):Prop:=∃pb lv sv nx0 us,vs=[.pointer (some ⟨pb,0,none⟩)]∧ak H (at_ pb)=some (.cells [lv,sv])∧bA H nx0 nx 1 lv us.length us∧pb < nx0∧nx0≤nx∧us.length≤100000∧
 (∀(i:Nat) (u:Value),us[i]?=some u→∃d o n c cs,u=.slice (some ⟨d,o,some 1⟩) n c∧ak H (at_ d)=some (.cells cs)∧cs.length=o + n∧n≤4000∧d < nx∧d≠pb∧bj lv≠some d)∧
 ∀(i j:Nat) (u w:Value),us[i]?=some u→us[j]?=some w→bj u=bj w→i=j
theorem Dj (hA:zw P ins A) {g:FuncId} (np:er P g) (hf:A.funcs g=some Di) (OW:A.funcs 41=some pF) (hh:∀vs H nx,A.aF g vs H nx=none) (Bq:∀vs H nx,A.aF 41 vs H nx=none)
  {vs:List Value} (hp:Bj vs H nx):cO P g vs H nx (.ok (.bool true) .e nx):=by
 obtain ⟨pb,lv,sv,nx0,us,rfl,lX,hg,CU,vS,kI,Bs,aas⟩:=hp
 refine cO.refined hA np rfl fun ρ ws w hv hH=>?_
 obtain ⟨hgl,⟨rfl,h0⟩|⟨rb,rfl,yr,dB,hr⟩⟩:=hg
 ·exact ⟨_,H,hv,hH,fun _ h=>h,GU hf hh lX⟩
 obtain ⟨gR,lR,PW,hH2,nU⟩:=hH.roomy hr
 have form:∀j,j < us.length→∃d o n c' cs,gR[j]?=some (.slice (some ⟨d,o,some 1⟩) n (2 * c' + 1))∧n≤c'∧c'≤dA∧ak H (at_ d)=some (.cells cs)∧cs.length=o + n∧n≤4000∧d < nx∧d≠pb∧d≠rb∧∃c,us[j]?=some (.slice (some ⟨d,o,some 1⟩) n c):=by
  intro j hj
  have hu:us[j]?=some us[j]:=List.getElem?_eq_getElem hj
  have sr:gR[j]?=some gR[j]:=List.getElem?_eq_getElem (by omega)
  obtain ⟨d,o,n,c,cs,he,g1,g2,g3,g4,g5,g6⟩:=Bs j _ hu
  have nS:=(PW j _ _ hu sr).1 d o 1 n c he
  obtain ⟨c',q1,q2,q3⟩:=nS
  refine ⟨d,o,n,c',cs,by rw [sr,q1],q2,q3,g1,g2,g3,g4,g5,fun e=>g6 (by rw [e];rfl),c,by rw [hu,he]⟩
 let D:B6:=⟨pb,rb,us.length,2 * us.length,sv,fun j=>sD (gR.getD j undef),fun j=>sO (gR.getD j undef),fun j=>sC (gR.getD j undef) / 2⟩
 have dY:D.row (fun j=>sN (gR.getD j undef))=gR:=by
  apply List.ext_getElem?
  intro j
  unfold B6.row
  rw [List.getElem?_map]
  by_cases hj:j < us.length
  ·rw [List.getElem?_range (by exact hj)]
   obtain ⟨d,o,n,c',cs,h1,_⟩:=form j hj
   rw [h1]
   show some (D.v _ j)=_
   unfold B6.v
   have hd:gR.getD j undef=.slice (some ⟨d,o,some 1⟩) n (2 * c' + 1):=by rw [List.getD_eq_getElem?_getD,h1];rfl
   show some (Value.slice (some ⟨sD (gR.getD j undef),sO (gR.getD j undef),some 1⟩) (sN (gR.getD j undef)) (2 * (sC (gR.getD j undef) / 2) + 1))=_
   rw [hd]
   show some (Value.slice (some ⟨d,o,some 1⟩) n (2 * ((2 * c' + 1) / 2) + 1))=_
   congr 2
   omega
  ·have h1:(List.range D.m)[j]?=none:=List.getElem?_eq_none (by simp;exact Nat.le_of_not_lt hj)
   have h2:gR[j]?=none:=List.getElem?_eq_none (by omega)
   rw [h1,h2];rfl
 refine ⟨_,_,hv,hH2,nU,apart_spec (D:=D) (n:=fun j=>sN (gR.getD j undef)) (cs:=fun j=>yO H (sD (gR.getD j undef))) hf OW hh Bq ⟨?_,?_,fun j hj=>?_,?_,⟨?_,dB⟩,fun i j hi hj he=>?_⟩ kI fun j hj=>?_⟩
 ·show ak (aw H rb gR) (at_ pb)=_
  rw [ai,if_neg (by omega)]
  exact lX
 ·show ak (aw H rb gR) (at_ rb)=_
  rw [aq,dY]
 ·obtain ⟨d,o,n,c',cs,h1,h2,h3,h4,h5,h6,h7,h8,h9,_⟩:=form j hj
  have hd:gR.getD j undef=.slice (some ⟨d,o,some 1⟩) n (2 * c' + 1):=by rw [List.getD_eq_getElem?_getD,h1];rfl
  have e1:D.d j=d:=by show sD (gR.getD j undef)=d;rw [hd];rfl
  have e2:D.o j=o:=by show sO (gR.getD j undef)=o;rw [hd];rfl
  have e3:D.c j=c':=by show sC (gR.getD j undef) / 2=c';rw [hd];show (2 * c' + 1) / 2=c';omega
  have e4:sD (gR.getD j undef)=d:=by rw [hd];rfl
  have e5:sN (gR.getD j undef)=n:=by rw [hd];rfl
  simp only [e1,e2,e3,e4,e5]
  have hc:yO H d=cs:=by unfold yO;rw [h4]
  rw [hc]
  refine ⟨?_,h5,h2,h3,h7,h9,h8⟩
  show ak (aw H rb gR) (at_ d)=_
  rw [ai,if_neg h9]
  exact h4
 ·show rb≠pb
  omega
 ·show pb < nx
  omega
 ·obtain ⟨d,o,n,c',cs,h1,_,_,_,_,_,_,_,_,c,h2⟩:=form i hi
  obtain ⟨d',o',n',I5,cs',nH,_,_,_,_,_,_,_,_,cc,zk⟩:=form j hj
  have hd:gR.getD i undef=.slice (some ⟨d,o,some 1⟩) n (2 * c' + 1):=by rw [List.getD_eq_getElem?_getD,h1];rfl
  have Fu:gR.getD j undef=.slice (some ⟨d',o',some 1⟩) n' (2 * I5 + 1):=by rw [List.getD_eq_getElem?_getD,nH];rfl
  have vd:sD (gR.getD i undef)=sD (gR.getD j undef):=he
  rw [hd,Fu] at vd
  have:d=d':=vd
  subst this
  exact aas i j _ _ h2 zk rfl
 ·obtain ⟨d,o,n,c',cs,h1,_,_,_,_,h6,_⟩:=form j hj
  have hd:gR.getD j undef=.slice (some ⟨d,o,some 1⟩) n (2 * c' + 1):=by rw [List.getD_eq_getElem?_getD,h1];rfl
  show sN (gR.getD j undef)≤_
  rw [hd]
  exact h6
end Go.Eng

namespace Go.Eng
variable {A:aG} {H:Heap} {nx:Nat} {σ:aP} {Q:ct}
set_option maxRecDepth 100000
def vV (n:Int) (e:Int×Int):Prop:=0≤e.1∧e.1 < n∧0≤e.2∧e.2 < n
instance (n:Int) (e:Int×Int):Decidable (vV n e):=by unfold vV;infer_instance
def jF (n:Int) (es:List (Int×Int)):Prop:=0≤n∧n≤1024∧es.length≤3072∧∀e∈es,vV n e
instance (n:Int) (es:List (Int×Int)):Decidable (jF n es):=by unfold jF;infer_instance
theorem KH {P:Prop} [Decidable P] (h:P):Value.bool true=.bool (decide P):=by rw [decide_eq_true h]
theorem mH {P:Prop} [Decidable P] (h:¬P):Value.bool false=.bool (decide P):=by rw [decide_eq_false h]
theorem aat {n:Int} {es:List (Int×Int)} {c k b o:Nat} {cs:List Value} {e:Int×Int} (hk:k < es.length) (hb:b < nx) (hr:Rd H b cs) (g1:cs[o + k * 2]?=some (.int .i64 e.1)) (g2:cs[o + k * 2 + 1]?=some (.int .i64 e.2))
  (gL:¬vV n e→∀σ,bg [(S2,.bool false)] σ→Q .ret σ (aw H nx [.int .i64 n,.slice (some ⟨b,o,some 2⟩) es.length c]) (nx + 1))
  (aN:vV n e→∀σ,bg [(S1,.pointer (some ⟨nx,0,none⟩)),(S3,.int .i64 k)] σ→Q (.exit 2) σ (aw H nx [.int .i64 n,.slice (some ⟨b,o,some 2⟩) es.length c]) (nx + 1)) :
  WC A (.loop JQ) [(S1,.pointer (some ⟨nx,0,none⟩)),(S3,.int .i64 k),(S4,.int .i64 (Int.ofNat 0))] (aw H nx [.int .i64 n,.slice (some ⟨b,o,some 2⟩) es.length c]) (nx + 1) Q:=by
 refine WC.loop (α:=Nat) (fun j=>[(S1,.pointer (some ⟨nx,0,none⟩)),(S3,.int .i64 k),(S4,.int .i64 j)])
  (fun j H' nx'=>H'=aw H nx [.int .i64 n,.slice (some ⟨b,o,some 2⟩) es.length c]∧nx'=nx + 1∧j≤2∧(0 < j→0≤e.1∧e.1 < n)∧(1 < j→0≤e.2∧e.2 < n)) (fun j=>2 - j)
  ?_ 0 (bg.cons rfl (bg.cons rfl (bg.cons rfl (bg.nil _)))) ⟨rfl,rfl,Nat.zero_le _,fun h=>by omega,fun h=>by omega⟩
 rintro j _ _ ⟨rfl,rfl,hj,hj0,VI⟩
 have hc:j < 2→cs[o + k * 2 + j * 1]?=some (.int .i64 (if j=0 then e.1 else e.2)):=by
  intro cf
  rcases (show j=0∨j=1 by omega) with rfl|rfl
  ·exact g1
  ·exact g2
 unfold JQ
 repeat' (first|((first|refine WO.n rfl ?_|refine WO.k rfl ?_);(first|refine dD ?_|refine aJ ?_|refine aZ ?_|refine GA ?_|(refine ei (fun h=>?_) (fun h=>?_)<;>(try simp only [Int.ofNat_eq_natCast] at h))))|with_reducible (first|refine WO.nil ?_|refine WC.aa ?_|refine WC.drawn ?_|refine WC.seq ?_|refine WC.skip ?_|refine WC.exit ?_|refine WC.block ?_)|refine WC.aB rfl ?_|refine WC.ax rfl ?_|with_reducible (first|refine aC ?_|refine dQ ?_))
 ·have hc':=hc (by omega)
  clear hc
  repeat' (first|((first|refine WO.n rfl ?_|refine WO.k rfl ?_);(first|refine aK ?_|refine dD ?_|refine kg ?_|refine aJ ?_|refine bu ?_|refine aZ ?_|refine GA ?_|(refine ei (fun h=>?_) (fun h=>?_)<;>(try simp only [Int.ofNat_eq_natCast] at h))|(refine C9 (fun h=>?_) (fun h=>?_)<;>(try simp only [Int.ofNat_eq_natCast] at h))|refine bO ?_))|refine WO.dC rfl ?_|refine WO.nI rfl ?_|with_reducible (first|refine WO.nil ?_|refine WC.aa ?_|refine WC.seq ?_|refine WC.skip ?_|refine WC.ret ?_)|refine WC.aB rfl ?_|refine WC.ax rfl ?_|with_reducible (first|refine aC ?_|refine gM ?_|refine eT ?_|refine pZ ?_|refine kf ?_))
  ·exact gL (fun h=>by unfold vV at h;split at *<;>omega) _ (bg.cons rfl (bg.nil _))
  ·exact gL (fun h=>by unfold vV at h;split at *<;>omega) _ (bg.cons rfl (bg.nil _))
  ·exact ⟨j + 1,by omega,bg.cons rfl (bg.cons rfl (bg.cons rfl (bg.nil _))),rfl,rfl,by omega,fun _=>by split at *<;>omega,fun _=>by split at *<;>omega⟩
 ·exact aN (by have:=hj0 (by omega);have:=VI (by omega);unfold vV;omega) _ (bg.cons rfl (bg.cons rfl (bg.nil _)))
theorem aau {n:Int} {es:List (Int×Int)} {base:Option Addr} {c:Nat} (he:bS H nx 2 a5 (.slice base es.length c) es) (hlen:es.length≤3072)
  (gL:¬(∀e∈es,vV n e)→∀σ,bg [(S2,.bool false)] σ→Q .ret σ (aw H nx [.int .i64 n,.slice base es.length c]) (nx + 1))
  (aN:(∀e∈es,vV n e)→∀σ,Q (.exit 0) σ (aw H nx [.int .i64 n,.slice base es.length c]) (nx + 1)) :
  WC A (.loop JR) [(S1,.pointer (some ⟨nx,0,none⟩)),(S3,.int .i64 (Int.ofNat 0))] (aw H nx [.int .i64 n,.slice base es.length c]) (nx + 1) Q:=by
 refine WC.loop (α:=Nat) (fun k=>[(S1,.pointer (some ⟨nx,0,none⟩)),(S3,.int .i64 k)]) (fun k H' nx'=>H'=aw H nx [.int .i64 n,.slice base es.length c]∧nx'=nx + 1∧k≤es.length∧∀(i:Nat) e,i < k→es[i]?=some e→vV n e) (fun k=>es.length - k)
  ?_ 0 (bg.cons rfl (bg.cons rfl (bg.nil _))) ⟨rfl,rfl,Nat.zero_le _,fun i e h=>by omega⟩
 rintro k _ _ ⟨rfl,rfl,hk,fA⟩
 unfold JR
 repeat' (first|((first|refine WO.n rfl ?_|refine WO.k rfl ?_);(first|refine aK ?_|refine dD ?_|refine cM ?_|refine aJ ?_|(refine ei (fun h=>?_) (fun h=>?_)<;>(try simp only [Int.ofNat_eq_natCast] at h))))|with_reducible (first|refine WO.nil ?_|refine WC.aa ?_|refine WC.seq ?_|refine WC.skip ?_|refine WC.exit ?_|refine WC.block ?_)|refine WC.aB rfl ?_|refine WC.ax rfl ?_|with_reducible (first|refine aC ?_|refine dQ ?_))
 ·obtain ⟨b,o,cs,rfl,hb,_,_,hr,nj⟩:=he.at (by intro e;rw [e] at h;simp at h;omega)
  have cf:k < es.length:=by omega
  obtain ⟨g1,g2⟩:=Ol (nj k es[k] (by simp [cf]))
  refine WC.sub (bg.cons rfl (bg.cons rfl (bg.cons rfl (bg.nil _)))) (aat (e:=es[k]) cf hb hr g1 g2 (fun hn σ hσ=>?_) (fun hy σ hσ=>?_))
  ·repeat' (first|with_reducible (first|refine gM ?_|refine pZ ?_))
   exact gL (fun h=>hn (h _ (List.getElem_mem cf))) _ hσ
  ·refine WC.sub hσ ?_
   repeat' (first|((first|refine WO.n rfl ?_|refine WO.k rfl ?_);(first|refine aK ?_|refine bO ?_))|with_reducible (first|refine WO.nil ?_|refine WC.aa ?_))
   exact ⟨k + 1,by omega,bg.cons rfl (bg.cons rfl (bg.nil _)),rfl,rfl,by omega,fun i e hi he=>by
    rcases (show i < k∨i=k by omega) with h|rfl
    ·exact fA i e h he
    ·have:e=es[i]:=by rw [List.getElem?_eq_getElem cf] at he;simpa using he.symm
     rw [this];exact hy⟩
 ·refine aN (fun e vd=>?_) _
  obtain ⟨i,hi,rfl⟩:=List.getElem_of_mem vd
  exact fA i _ (by omega) (List.getElem?_eq_getElem hi)
theorem uu {g:FuncId} (hf:A.funcs g=some M3) (hh:∀vs H nx,A.aF g vs H nx=none) {n:Int} {ev:Value} {es:List (Int×Int)} (he:bS H nx 2 a5 ev es) :
  WF A g [.agg #[.int .i64 n,ev]] H nx fun v H' nx'=>v=.bool (decide (jF n es))∧an H H' nx∧nx≤nx':=by
 obtain ⟨base,c,rfl⟩:=he.form
 refine WF.enter (hh _ _ _) hf ?_
 repeat' (first|((first|refine WO.n rfl ?_|refine WO.k rfl ?_);(first|refine aK ?_|refine dD ?_|refine cM ?_|refine jN ?_|refine kg ?_|refine aJ ?_|(refine ei (fun h=>?_) (fun h=>?_)<;>(try simp only [Int.ofNat_eq_natCast] at h))|(refine LQ (fun h=>?_) (fun h=>?_)<;>(try simp only [Int.ofNat_eq_natCast] at h))))|refine WO.dC rfl ?_|refine WO.nI rfl ?_|with_reducible (first|refine WO.nil ?_|refine WC.aa ?_|refine WC.seq ?_|refine WC.skip ?_|refine WC.ret ?_|refine WC.block ?_)|refine WC.aB rfl ?_|refine WC.ax rfl ?_|with_reducible (first|refine aC ?_|refine gM ?_))
 ·exact az rfl ⟨mH fun hm=>by have:=hm.1;omega,an.refl.set (Nat.le_refl _),by omega⟩
 ·exact az rfl ⟨mH fun hm=>by have:=hm.2.1;omega,an.refl.set (Nat.le_refl _),by omega⟩
 ·exact az rfl ⟨mH fun hm=>by have:=hm.2.2.1;omega,an.refl.set (Nat.le_refl _),by omega⟩
 ·refine WC.sub (bg.cons rfl (bg.cons rfl (bg.nil _))) (aau he (by omega) (fun hn σ hσ=>?_) (fun hy σ=>?_))
  ·repeat' (first|with_reducible (first|refine gM ?_|refine pZ ?_))
   exact py (vs:=[_]) hσ rfl ⟨mH fun hm=>hn hm.2.2.2,an.refl.set (Nat.le_refl _),by omega⟩
  ·refine eh (aC (WC.sub (bg.nil _) ?_))
   repeat' (first|(refine WO.k rfl ?_;refine aK ?_)|with_reducible (first|refine WO.nil ?_|refine WC.aa ?_|refine WC.seq ?_|refine WC.ret ?_|refine aC ?_))
   exact az (vs:=[_]) rfl ⟨KH (P:=jF n es) ⟨by omega,by omega,by omega,hy⟩,an.refl.set (Nat.le_refl _),by omega⟩
end Go.Eng

namespace Go.Eng
variable {A:aG} {H:Heap} {nx:Nat} {σ:aP} {Q:ct}
set_option maxRecDepth 100000
theorem VJ {n:Int} {k m:Nat} {sv:Value} {e:Int×Int} (hr:Rd H nx [.int .i64 n,sv]) {nx':Nat}
  (gL:¬vV n e→∀σ,bg [(S2,.bool false)] σ→Q .ret σ H nx')
  (aN:vV n e→∀σ,bg [(S1,.pointer (some ⟨nx,0,none⟩)),(sf,sv),(rG,.int .i64 m),(se,.int .i64 k)] σ→Q (.exit 2) σ H nx') :
  WC A (.loop Dg) [(S1,.pointer (some ⟨nx,0,none⟩)),(sf,sv),(rG,.int .i64 m),(se,.int .i64 k),(JU,.agg ⟨a5 e⟩),(M0,.int .i64 (Int.ofNat 0))] H nx' Q:=by
 refine WC.loop (α:=Nat) (fun j=>[(S1,.pointer (some ⟨nx,0,none⟩)),(sf,sv),(rG,.int .i64 m),(se,.int .i64 k),(JU,.agg ⟨a5 e⟩),(M0,.int .i64 j)])
  (fun j H' nx2=>H'=H∧nx2=nx'∧j≤2∧(0 < j→0≤e.1∧e.1 < n)∧(1 < j→0≤e.2∧e.2 < n)) (fun j=>2 - j)
  ?_ 0 aW ⟨rfl,rfl,Nat.zero_le _,fun h=>by omega,fun h=>by omega⟩
 rintro j _ _ ⟨rfl,rfl,hj,hj0,VI⟩
 have hc:j < 2→(a5 e)[j * 1]?=some (.int .i64 (if j=0 then e.1 else e.2)):=by
  intro cf
  rcases (show j=0∨j=1 by omega) with rfl|rfl<;>rfl
 unfold Dg
 repeat' (first|((first|refine WO.n rfl ?_|refine WO.k rfl ?_);(refine ei (fun h=>?_) (fun h=>?_)<;>(try simp only [Int.ofNat_eq_natCast] at h)))|with_reducible (first|refine WO.nil ?_|refine WC.aa ?_|refine WC.seq ?_|refine WC.skip ?_|refine WC.exit ?_|refine WC.block ?_)|refine WC.aB rfl ?_|refine WC.ax rfl ?_|with_reducible (first|refine aC ?_|refine dQ ?_))
 ·have hc':=hc (by omega)
  clear hc
  repeat' (first|((first|refine WO.n rfl ?_|refine WO.k rfl ?_);(first|refine aK ?_|refine dD ?_|refine kg ?_|refine aJ ?_|refine UP ?_|(refine ei (fun h=>?_) (fun h=>?_)<;>(try simp only [Int.ofNat_eq_natCast] at h))|(refine C9 (fun h=>?_) (fun h=>?_)<;>(try simp only [Int.ofNat_eq_natCast] at h))|refine bO ?_))|refine WO.dC rfl ?_|refine WO.nI rfl ?_|with_reducible (first|refine WO.nil ?_|refine WC.aa ?_|refine WC.seq ?_|refine WC.skip ?_|refine WC.ret ?_)|refine WC.aB rfl ?_|refine WC.ax rfl ?_|with_reducible (first|refine aC ?_|refine gM ?_|refine eT ?_|refine pZ ?_))
  ·exact gL (fun h=>by unfold vV at h;split at *<;>omega) _ aW
  ·exact gL (fun h=>by unfold vV at h;split at *<;>omega) _ aW
  ·exact ⟨j + 1,by omega,.cons rfl aW,rfl,rfl,by omega,fun _=>by split at *<;>omega,fun _=>by split at *<;>omega⟩
 ·exact aN (by have:=hj0 (by omega);have:=VI (by omega);unfold vV;omega) _ aW
theorem VK {H0:Heap} {n:Int} {es:List (Int×Int)} {base:Option Addr} {c aT:Nat} (he:bS H0 nx 2 a5 (.slice base es.length c) es) (hlen:es.length≤3072) (hr:Rd H nx [.int .i64 n,.slice base es.length c]) (hs:an H0 H nx) (hn:nx < aT)
  (gL:¬(∀e∈es,vV n e)→∀σ H' nx',bg [(S2,.bool false)] σ→an H0 H' nx→nx≤nx'→Q .ret σ H' nx')
  (aN:(∀e∈es,vV n e)→∀σ H' nx',an H0 H' nx→nx≤nx'→Q (.exit 0) σ H' nx') :
  WC A (.loop Dh) [(S1,.pointer (some ⟨nx,0,none⟩)),(sf,.slice base es.length c),(rG,.int .i64 es.length),(se,.int .i64 (Int.ofNat 0))] H aT Q:=by
 refine WC.loop (α:=Nat) (fun k=>[(S1,.pointer (some ⟨nx,0,none⟩)),(sf,.slice base es.length c),(rG,.int .i64 es.length),(se,.int .i64 k)]) (fun k H' nx'=>Rd H' nx [.int .i64 n,.slice base es.length c]∧an H0 H' nx∧nx < nx'∧k≤es.length∧∀(i:Nat) e,i < k→es[i]?=some e→vV n e) (fun k=>es.length - k)
  ?_ 0 aW ⟨hr,hs,hn,Nat.zero_le _,fun i e h=>by omega⟩
 clear hr hs hn
 rintro k H aT ⟨hr,hs,hn,hk,fA⟩
 unfold Dh
 repeat' (first|((first|refine WO.n rfl ?_|refine WO.k rfl ?_);(refine ei (fun h=>?_) (fun h=>?_)<;>(try simp only [Int.ofNat_eq_natCast] at h)))|with_reducible (first|refine WO.nil ?_|refine WC.aa ?_|refine WC.seq ?_|refine WC.skip ?_|refine WC.exit ?_|refine WC.block ?_)|refine WC.aB rfl ?_|refine WC.ax rfl ?_|with_reducible (first|refine aC ?_|refine dQ ?_))
 ·obtain ⟨b,o,cs,rfl,hb,_,_,rV,nj⟩:=he.at (by intro e;rw [e] at h;simp at h;omega)
  have cf:k < es.length:=by omega
  have A4:=nj k es[k] (by simp [cf])
  have abM:=hs.rd hb rV
  repeat' (first|((first|refine WO.n rfl ?_|refine WO.k rfl ?_);(first|refine aK ?_|refine sE ?_|refine aJ ?_|refine MT ?_|refine aZ ?_|refine fL ?_))|with_reducible (first|refine WO.nil ?_|refine WC.aa ?_|refine WC.seq ?_|refine WC.block ?_|refine aC ?_))
  refine WC.sub aW (VJ (nx:=nx) (e:=es[k]) (n:=n) Xi (fun N3 σ hσ=>?_) (fun hy σ hσ=>?_))
  ·repeat' (first|with_reducible (first|refine gM ?_|refine pZ ?_))
   exact gL (fun h=>N3 (h _ (List.getElem_mem cf))) _ _ _ hσ ((hs.set (by omega)).set (by omega)) (by omega)
  ·refine eh (eT (aC (WC.sub hσ ?_)))
   repeat' (first|((first|refine WO.n rfl ?_|refine WO.k rfl ?_);(first|refine aK ?_|refine bO ?_))|with_reducible (first|refine WO.nil ?_|refine WC.aa ?_))
   exact ⟨k + 1,by omega,.cons rfl aW,by (first|with_reducible apply Rd.self|with_reducible assumption|(with_reducible apply Rd.own;with_reducible assumption)|((repeat ((with_reducible apply Rd.skip);omega));first|with_reducible apply Rd.self|with_reducible assumption|(with_reducible apply Rd.own;with_reducible assumption))),(hs.set (by omega)).set (by omega),by omega,by omega,fun i e hi he=>by
    rcases (show i < k∨i=k by omega) with h|rfl
    ·exact fA i e h he
    ·have:e=es[i]:=by rw [List.getElem?_eq_getElem cf] at he;simpa using he.symm
     rw [this];exact hy⟩
 ·refine aN (fun e vd=>?_) _ _ _ hs (by omega)
  obtain ⟨i,hi,rfl⟩:=List.getElem_of_mem vd
  exact fA i _ (by omega) (List.getElem?_eq_getElem hi)
theorem qP {g:FuncId} (hf:A.funcs g=some rH) (hh:∀vs H nx,A.aF g vs H nx=none) {n:Int} {ev:Value} {es:List (Int×Int)} (he:bS H nx 2 a5 ev es) :
  WF A g [.agg #[.int .i64 n,ev]] H nx fun v H' nx'=>v=.bool (decide (jF n es))∧an H H' nx∧nx≤nx':=by
 obtain ⟨base,c,rfl⟩:=he.form
 refine WF.enter (hh _ _ _) hf ?_
 repeat' (first|((first|refine WO.n rfl ?_|refine WO.k rfl ?_);(first|refine aK ?_|refine dD ?_|refine cM ?_|refine jN ?_|refine kg ?_|refine aJ ?_|(refine ei (fun h=>?_) (fun h=>?_)<;>(try simp only [Int.ofNat_eq_natCast] at h))|(refine LQ (fun h=>?_) (fun h=>?_)<;>(try simp only [Int.ofNat_eq_natCast] at h))))|refine WO.dC rfl ?_|refine WO.nI rfl ?_|with_reducible (first|refine WO.nil ?_|refine WC.aa ?_|refine WC.seq ?_|refine WC.skip ?_|refine WC.ret ?_|refine WC.block ?_)|refine WC.aB rfl ?_|refine WC.ax rfl ?_|with_reducible (first|refine aC ?_|refine gM ?_))
 ·exact az rfl ⟨mH fun hm=>by have:=hm.1;omega,an.refl.set (Nat.le_refl _),by omega⟩
 ·exact az rfl ⟨mH fun hm=>by have:=hm.2.1;omega,an.refl.set (Nat.le_refl _),by omega⟩
 ·exact az rfl ⟨mH fun hm=>by have:=hm.2.2.1;omega,an.refl.set (Nat.le_refl _),by omega⟩
 ·refine WC.sub aW (VK he (by omega) Rd.self (an.refl.set (Nat.le_refl _)) (by omega) (fun hn σ H' nx' hσ hs hx=>?_) (fun hy σ H' nx' hs hx=>?_))
  ·repeat' (first|with_reducible (first|refine gM ?_|refine pZ ?_))
   exact py (vs:=[_]) hσ rfl ⟨mH fun hm=>hn hm.2.2.2,hs,hx⟩
  ·refine eh (aC (WC.sub (bg.nil _) ?_))
   repeat' (first|(refine WO.k rfl ?_;refine aK ?_)|with_reducible (first|refine WO.nil ?_|refine WC.aa ?_|refine WC.seq ?_|refine WC.ret ?_|refine aC ?_))
   exact az (vs:=[_]) rfl ⟨KH (P:=jF n es) ⟨by omega,by omega,by omega,hy⟩,hs,hx⟩
end Go.Eng

namespace Go.Eng
variable {A:aG} {H:Heap} {nx:Nat} {σ:aP} {Q:ct}
set_option maxRecDepth 100000
theorem GV {g:FuncId} (hf:A.funcs g=some OI) (hh:∀vs H nx,A.aF g vs H nx=none) {av bv:Value} {a b:List Int} (ha:bS H nx 1 bq av a) (hb:bS H nx 1 bq bv b) (hm4:a.length≤4000) :
  WF A g [av,bv] H nx fun v H' nx'=>H'=H∧nx'=nx∧v=.bool (decide (a=b)):=by
 obtain ⟨base,c,rfl⟩:=ha.form
 obtain ⟨KI,bc,rfl⟩:=hb.form
 refine WF.enter (hh _ _ _) hf ?_
 repeat' (first|((first|refine WO.n rfl ?_|refine WO.k rfl ?_);(first|refine aK ?_|refine cM ?_|(refine om (fun h=>?_) (fun h=>?_)<;>(try simp only [Int.ofNat_eq_natCast] at h))))|with_reducible (first|refine WO.nil ?_|refine WC.aa ?_|refine WC.seq ?_|refine WC.skip ?_|refine WC.ret ?_|refine WC.block ?_)|refine WC.aB rfl ?_|refine WC.ax rfl ?_|with_reducible (first|refine aC ?_|refine gM ?_))
 ·exact az (vs:=[_]) rfl ⟨rfl,rfl,by rw [decide_eq_false (fun e=>by rw [e] at h;exact h rfl)];rfl⟩
 ·have qg:a.length=b.length:=by omega
  refine WC.loop (α:=Nat) (fun k=>[([],.slice base a.length c),(S1,.slice KI b.length bc),(S5,.int .i64 k)]) (fun k H' nx'=>H'=H∧nx'=nx∧k≤a.length∧∀i:Nat,i < k→a[i]?=b[i]?) (fun k=>a.length - k)
   ?_ 0 aW ⟨rfl,rfl,Nat.zero_le _,fun i h=>by omega⟩
  rintro k _ _ ⟨rfl,rfl,hk,fA⟩
  repeat' (first|((first|refine WO.n rfl ?_|refine WO.k rfl ?_);(first|refine aK ?_|refine cM ?_|(refine ei (fun h=>?_) (fun h=>?_)<;>(try simp only [Int.ofNat_eq_natCast] at h))))|with_reducible (first|refine WO.nil ?_|refine WC.aa ?_|refine WC.drawn ?_|refine WC.seq ?_|refine WC.skip ?_|refine WC.ret ?_|refine WC.exit ?_|refine WC.block ?_)|refine WC.aB rfl ?_|refine WC.ax rfl ?_|with_reducible (first|refine aC ?_|refine dQ ?_|refine eh ?_))
  ·have SC:k < a.length:=by omega
   have B1:k < b.length:=by omega
   obtain ⟨b1,o1,En,rfl,_,_,_,nS,aav⟩:=ha.at (by intro e;rw [e] at SC;simp at SC)
   obtain ⟨b2,o2,gR,rfl,_,_,_,zT,GD⟩:=hb.at (by intro e;rw [e] at B1;simp at B1)
   have hx:=ft (v:=.int .i64 a[k]) (aav k a[k] (by simp [SC]))
   have hy:=ft (v:=.int .i64 b[k]) (GD k b[k] (by simp [B1]))
   repeat' (first|((first|refine WO.n rfl ?_|refine WO.k rfl ?_);(first|refine aK ?_|refine bu ?_|refine aZ ?_|(refine om (fun h=>?_) (fun h=>?_)<;>(try simp only [Int.ofNat_eq_natCast] at h))|refine bO ?_))|with_reducible (first|refine WO.nil ?_|refine WC.aa ?_|refine WC.seq ?_|refine WC.skip ?_|refine WC.ret ?_)|refine WC.aB rfl ?_|refine WC.ax rfl ?_|with_reducible (first|refine aC ?_|refine gM ?_|refine eT ?_|refine pZ ?_|refine kf ?_))
   ·exact az (vs:=[_]) rfl ⟨rfl,rfl,by rw [decide_eq_false (fun e=>h (by simp only [e]))];rfl⟩
   ·refine ⟨k + 1,by omega,.cons rfl aW,rfl,rfl,by omega,fun i hi=>?_⟩
    rcases (show i < k∨i=k by omega) with h5|rfl
    ·exact fA i h5
    ·rw [List.getElem?_eq_getElem SC,List.getElem?_eq_getElem B1,Classical.not_not.1 h]
  ·refine az (vs:=[_]) rfl ⟨rfl,rfl,?_⟩
   rw [decide_eq_true (List.ext_getElem? fun i=>?_)]
   ·rfl
   ·rcases Nat.lt_or_ge i k with h5|h5
    ·exact fA i h5
    ·rw [List.getElem?_eq_none (by omega),List.getElem?_eq_none (by omega)]
end Go.Eng

namespace Go.Eng
abbrev Ed:=Int×Int
def cq (es:List Ed) (h:Nat):Int:=if h % 2=0 then (es.getD (h / 2) (0,0)).1 else (es.getD (h / 2) (0,0)).2
def bad (es:List Ed) (s:List Bool) (x:Nat×Int):Bool:=decide (x.2 < 0)||(decide ((s.length:Int)≤x.2)||(s.getD x.2.toNat false||decide (cq es x.2.toNat≠x.1)))
def fF (es:List Ed) (s:Option (List Bool)) (x:Nat×Int):Option (List Bool):=s.bind fun s=>if bad es s x then none else some (s.set x.2.toNat true)
def rowP (r:List (List Int)) (v k:Nat):List (Nat×Int):=((r.getD v []).take k).map fun h=>(v,h)
def dZ (r:List (List Int)) (v:Nat):List (Nat×Int):=(List.range v).flatMap fun v=>(r.getD v []).map fun h=>(v,h)
def iw (es:List Ed):List Bool:=List.replicate (2 * es.length) false
def e9 (es:List Ed) (xs:List (Nat×Int)):Option (List Bool):=xs.foldl (fF es) (some (iw es))
def aQ (n:Int) (es:List Ed) (r:List (List Int)):Int:=if jF n es then (if (r.length:Int)=n then (match e9 es (dZ r r.length) with
  | none=>4
  | some _=>if (dZ r r.length).length=2 * es.length then 0 else 4) else 4) else 1
theorem dM (r:List (List Int)) (v:Nat):dZ r (v + 1)=dZ r v++rowP r v (r.getD v []).length:=by
 unfold dZ rowP
 rw [List.range_succ,List.flatMap_append,List.take_length];simp
theorem xm {r:List (List Int)} {v k:Nat} (hk:k < (r.getD v []).length):rowP r v (k + 1)=rowP r v k++[(v,(r.getD v [])[k])]:=by
 unfold rowP
 rw [List.take_succ_eq_append_getElem hk,List.map_append];rfl
theorem m4 (r:List (List Int)) (v:Nat):rowP r v 0=[]:=by simp [rowP]
theorem ux (es:List Ed):∀xs:List (Nat×Int),xs.foldl (fF es) none=none:=by
 intro xs
 induction xs with
 | nil=>rfl
 | cons x xs ih=>exact ih
theorem Bt (es:List Ed) (xs ys:List (Nat×Int)):e9 es (xs++ys)=ys.foldl (fF es) (e9 es xs):=by
 unfold e9;rw [List.foldl_append]
theorem pK (es:List Ed) (xs:List (Nat×Int)) (x:Nat×Int):e9 es (xs++[x])=fF es (e9 es xs) x:=by rw [Bt];rfl
theorem uy {es:List Ed} {xs ys:List (Nat×Int)} (h:e9 es xs=none):e9 es (xs++ys)=none:=by rw [Bt,h,ux]
theorem E5 (r:List (List Int)) {v w:Nat} (h:v≤w):∃ys,dZ r w=dZ r v++ys:=by
 induction w with
 | zero=>
   obtain rfl:v=0:=by omega
   exact ⟨[],by simp⟩
 | succ w ih=>
  by_cases e:v=w + 1
  ·subst e;exact ⟨[],by simp⟩
  ·obtain ⟨ys,h1⟩:=ih (by omega)
   exact ⟨ys++rowP r w (r.getD w []).length,by rw [dM,h1,List.append_assoc]⟩
theorem uz (r:List (List Int)) (v:Nat) {k:Nat} (hk:k≤(r.getD v []).length):∃ys,rowP r v (r.getD v []).length=rowP r v k++ys:=by
 refine ⟨((r.getD v []).drop k).map fun h=>(v,h),?_⟩
 unfold rowP
 rw [← List.map_append,List.take_append_drop,List.take_length]
theorem Bu {es:List Ed} {r:List (List Int)} {v k:Nat} (hv:v < r.length) (hk:k≤(r.getD v []).length) (h:e9 es (dZ r v++rowP r v k)=none):e9 es (dZ r r.length)=none:=by
 obtain ⟨ys,h1⟩:=E5 r (show v + 1≤r.length from hv)
 obtain ⟨zs,h2⟩:=uz r v hk
 rw [h1,dM,h2,← List.append_assoc (dZ r v),List.append_assoc]
 exact uy h
theorem Bv {es:List Ed} {s s1:List Bool} {x:Nat×Int} (h:fF es (some s) x=some s1):bad es s x=false∧s1=s.set x.2.toNat true:=by
 have h':(if bad es s x then none else some (s.set x.2.toNat true))=some s1:=h
 cases hb:bad es s x with
 | true=>rw [hb] at h';cases h'
 | false=>rw [hb] at h';cases h';exact ⟨rfl,rfl⟩
theorem mI {es:List Ed} {s:List Bool} {x:Nat×Int} (h:x.2 < 0∨(s.length:Int)≤x.2∨s.getD x.2.toNat false=true∨cq es x.2.toNat≠x.1):bad es s x=true:=by
 simp only [bad,Bool.or_eq_true,decide_eq_true_eq]
 exact h
theorem yP {es:List Ed} {s:List Bool} {x:Nat×Int} (h1:0≤x.2) (h2:x.2 < (s.length:Int)) (h3:s.getD x.2.toNat false=false) (h4:cq es x.2.toNat=x.1):bad es s x=false:=by
 cases hb:bad es s x with
 | false=>rfl
 | true=>
  simp only [bad,Bool.or_eq_true,decide_eq_true_eq] at hb
  rcases hb with h|h|h|h
  ·omega
  ·omega
  ·rw [h3] at h;cases h
  ·exact absurd h4 h
theorem xn {es:List Ed} {s:List Bool} {x:Nat×Int} (h:bad es s x=false):0≤x.2∧x.2 < s.length∧s[x.2.toNat]?=some false∧cq es x.2.toNat=x.1:=by
 simp only [bad,Bool.or_eq_false_iff,decide_eq_false_iff_not] at h
 obtain ⟨b1,b2,b3,b4⟩:=h
 have cf:x.2.toNat < s.length:=by omega
 refine ⟨by omega,by omega,?_,Classical.not_not.1 b4⟩
 rw [List.getD_eq_getElem?_getD,List.getElem?_eq_getElem cf] at b3
 rw [List.getElem?_eq_getElem cf]
 exact congrArg some b3
theorem Dp {es:List Ed}:∀{xs:List (Nat×Int)} {s0 s:List Bool},xs.foldl (fF es) (some s0)=some s→s.length=s0.length∧s.count true=s0.count true + xs.length:=by
 intro xs
 induction xs with
 | nil=>intro s0 s h;cases h;exact ⟨rfl,rfl⟩
 | cons x xs ih=>
  intro s0 s h
  rw [List.foldl_cons] at h
  cases h1:fF es (some s0) x with
  | none=>rw [h1,ux] at h;cases h
  | some s1=>
   rw [h1] at h
   obtain ⟨hb,rfl⟩:=Bv h1
   obtain ⟨b1,b2,b3,_⟩:=xn hb
   obtain ⟨g1,g2⟩:=ih h
   have cf:x.2.toNat < s0.length:=by omega
   refine ⟨by simpa using g1,?_⟩
   rw [g2,List.count_set cf]
   have:s0[x.2.toNat]=false:=by rw [List.getElem?_eq_getElem cf] at b3;exact Option.some.inj b3
   rw [this,List.length_cons]
   simp
   omega
theorem lg {es:List Ed} {xs:List (Nat×Int)} {s:List Bool} (h:e9 es xs=some s):s.length=2 * es.length∧s.count true=xs.length:=by
 obtain ⟨h1,h2⟩:=Dp h
 exact ⟨by simpa [iw] using h1,by simpa [iw,List.count_replicate] using h2⟩
theorem sL {es:List Ed} {xs:List (Nat×Int)} {s:List Bool} (h:e9 es xs=some s):xs.length≤2 * es.length:=by
 obtain ⟨h1,h2⟩:=lg h
 have:=List.count_le_length (a:=true) (l:=s)
 omega
end Go.Eng

namespace Go.Eng
variable {A:aG} {H H':Heap} {nx nx':Nat} {σ:aP} {Q:ct}
set_option maxRecDepth 100000
def bT (H:Heap) (b:Nat) (s:List Bool):Prop:=ak H (at_ b)=some (.cells (s.map .bool))
theorem bT.set {b:Nat} {s:List Bool} {i:Nat} (h:bT H b s):bT (aw H b ((s.map .bool).set i (.bool true))) b (s.set i true):=by
 unfold bT
 rw [aq,List.map_set]
theorem KJ {s:List Bool} {i:Nat} {x:Bool} (h:s[i]?=some x):(s.map Value.bool)[0 + i * 1]?=some (.bool x):=by
 rw [Nat.zero_add,Nat.mul_one,List.getElem?_map,h];rfl
theorem pL {es:List Ed} {eo:Nat} {Q7:List Value} {e:Nat} (he:e < es.length) (xk:∀(i:Nat) (x:Ed),es[i]?=some x→take? 2 (Q7.drop (eo + i * 2))=some (a5 x)) {q:Nat} (hq:q < 2) :
  Q7[eo + e * 2 + q * 1]?=some (.int .i64 (cq es (2 * e + q))):=by
 have hx:es[e]?=some es[e]:=List.getElem?_eq_getElem he
 obtain ⟨g1,g2⟩:=Ol (v:=.int .i64 es[e].1) (u:=.int .i64 es[e].2) (xk e _ hx)
 have hg:es.getD e (0,0)=es[e]:=by rw [List.getD_eq_getElem?_getD,hx];rfl
 rcases (show q=0∨q=1 by omega) with rfl|rfl
 ·unfold cq
  rw [if_pos (by omega),show (2 * e + 0) / 2=e by omega,hg]
  simpa using g1
 ·unfold cq
  rw [if_neg (by omega),show (2 * e + 1) / 2=e by omega,hg]
  simpa using g2
theorem rmI {n:Int} {es:List Ed} {r:List (List Int)} {nb sb v:Nat} {base ib:Option Addr} {ec ic sc:Nat} {ov oc:Value} {H0:Heap} {s:List Bool}
  (he:bS H0 nb 2 a5 (.slice base es.length ec) es) (hi:bS H0 nb 1 bq (.slice ib (r.getD v []).length ic) (r.getD v [])) (ml:(r.getD v []).length≤1048576) (dP:es.length≤4000) (yt:v≤1048576)
  (hs:bT H sb s) (zN:e9 es (dZ r v)=some s) (KK:nb < sb) (nG:sb < nx) (bV:an H0 H nb) (jJ:Rd H nb [.int .i64 n,.slice base es.length ec]) (lE:2 * es.length≤au sc)
  (gL:∀σ H' nx',e9 es (dZ r v++rowP r v (r.getD v []).length)=none→bg [(S4,.int .i64 4)] σ→an H0 H' nb→nx≤nx'→Q .ret σ H' nx')
  (aN:∀σ H' nx' s',bg [(S2,.pointer (some ⟨nb,0,none⟩)),(S5,.slice (some ⟨sb,0,some 1⟩) (2 * es.length) sc),(S6,.int .i64 (((dZ r v++rowP r v (r.getD v []).length).length:Nat):Int)),(se,ov),(zo,oc),(vU,.int .i64 ((v:Nat):Int))] σ→
   e9 es (dZ r v++rowP r v (r.getD v []).length)=some s'→bT H' sb s'→an H0 H' nb→Rd H' nb [.int .i64 n,.slice base es.length ec]→nx≤nx'→Q (.exit 2) σ H' nx') :
  WC A (.loop QC) [(S2,.pointer (some ⟨nb,0,none⟩)),(S5,.slice (some ⟨sb,0,some 1⟩) (2 * es.length) sc),(S6,.int .i64 (((dZ r v).length:Nat):Int)),(se,ov),(zo,oc),(vU,.int .i64 ((v:Nat):Int)),(S7,.int .i64 ((v:Nat):Int)),(LS,.slice ib (r.getD v []).length ic),(EN,.int .i64 (((r.getD v []).length:Nat):Int)),(zn,.int .i64 0)] H nx Q:=by
 refine WC.loop (α:=Nat×List Bool) (fun k=>[(S2,.pointer (some ⟨nb,0,none⟩)),(S5,.slice (some ⟨sb,0,some 1⟩) (2 * es.length) sc),(S6,.int .i64 (((dZ r v++rowP r v k.1).length:Nat):Int)),(se,ov),(zo,oc),(vU,.int .i64 ((v:Nat):Int)),(S7,.int .i64 ((v:Nat):Int)),(LS,.slice ib (r.getD v []).length ic),(EN,.int .i64 (((r.getD v []).length:Nat):Int)),(zn,.int .i64 ((k.1:Nat):Int))])
  (fun k H' nx'=>k.1≤(r.getD v []).length∧nx≤nx'∧e9 es (dZ r v++rowP r v k.1)=some k.2∧bT H' sb k.2∧an H0 H' nb∧Rd H' nb [.int .i64 n,.slice base es.length ec]) (fun k=>(r.getD v []).length - k.1)
  ?_ (0,s) (.cons rfl (.cons rfl (.cons ?_ (.cons rfl (.cons rfl (.cons rfl (.cons rfl (.cons rfl (.cons rfl (.cons rfl (.nil _))))))))))) ⟨Nat.zero_le _,Nat.le_refl _,by rw [m4,List.append_nil];exact zN,hs,bV,jJ⟩
 ·rintro ⟨k,s1⟩ H1 aT ⟨hk,cD,iR,a7,aM,eO⟩
  simp only at hk iR a7 ⊢
  obtain ⟨iA,jT⟩:=lg iR
  have hle:=sL iR
  have KL:ak H1 (at_ sb)=some (.cells (s1.map .bool)):=a7
  unfold QC
  repeat' (first|((first|refine WO.n rfl ?_|refine WO.k rfl ?_);(refine ei (fun h=>?_) (fun h=>?_)<;>(try simp only [Int.ofNat_eq_natCast] at h)))|with_reducible (first|refine WO.nil ?_|refine WC.aa ?_|refine WC.seq ?_|refine WC.skip ?_|refine WC.exit ?_|refine WC.block ?_)|refine WC.aB rfl ?_|refine WC.ax rfl ?_|with_reducible (first|refine aC ?_|refine dQ ?_))
  ·have cI:k < (r.getD v []).length:=by omega
   obtain ⟨bb,bo,uA,rfl,je,_,_,Dq,uB⟩:=hi.at (by intro e;rw [e] at cI;simp at cI)
   have q1:=ft (v:=.int .i64 (r.getD v [])[k]) (uB k _ (List.getElem?_eq_getElem cI))
   have KM:=aM.rd je Dq
   generalize hx:(r.getD v [])[k]=x at q1
   have dY:rowP r v (k + 1)=rowP r v k++[(v,x)]:=by rw [xm cI,hx]
   have iW:bad es s1 (v,x)=true→e9 es (dZ r v++rowP r v (r.getD v []).length)=none:=by
    intro hb
    obtain ⟨ys,hy⟩:=uz r v (k:=k + 1) cI
    rw [hy,dY,← List.append_assoc,← List.append_assoc]
    refine uy ?_
    rw [pK,iR]
    show (if bad es s1 (v,x) then none else _)=_
    rw [hb];rfl
   repeat' (first|((first|refine WO.n rfl ?_|refine WO.k rfl ?_);(first|refine aK ?_|refine cM ?_|refine kg ?_|refine bu ?_|refine aZ ?_|(refine ei (fun h=>?_) (fun h=>?_)<;>(try simp only [Int.ofNat_eq_natCast] at h))|(refine C9 (fun h=>?_) (fun h=>?_)<;>(try simp only [Int.ofNat_eq_natCast] at h))))|refine WO.dC rfl ?_|refine WO.nI rfl ?_|with_reducible (first|refine WO.nil ?_|refine WC.aa ?_|refine WC.seq ?_|refine WC.ret ?_)|refine WC.aB rfl ?_|with_reducible (first|refine aC ?_|refine gM ?_|refine pZ ?_))
   ·exact gL _ _ _ (iW (mI (.inl (by show x < 0;omega)))) aW aM cD
   ·exact gL _ _ _ (iW (mI (.inr (.inl (by show (s1.length:Int)≤x;omega))))) aW aM cD
   ·obtain ⟨w,rfl⟩:∃w:Nat,x=(w:Int):=⟨x.toNat,by omega⟩
    have yQ:w < s1.length:=by omega
    have hg:=List.getElem?_eq_getElem yQ
    generalize HU:s1[w]=bw at hg
    have q2:=KJ hg
    have qE:s1.getD w false=bw:=by rw [List.getD_eq_getElem?_getD,hg];rfl
    have Dr:w / 2 < es.length:=by omega
    obtain ⟨eb,eo,Q7,rfl,Br,_,_,Nl,xk⟩:=he.at (by intro e;rw [e] at Dr;simp at Dr)
    have VL:=aM.rd Br Nl
    have q3:=pL Dr xk (q:=w % 2) (Nat.mod_lt _ (by omega))
    rw [show 2 * (w / 2) + w % 2=w by omega] at q3
    cases bw with
    | true=>
     repeat' (first|((first|refine WO.n rfl ?_|refine WO.k rfl ?_);(first|refine aK ?_|refine kg ?_|refine bu ?_|refine aZ ?_))|refine WO.dC rfl ?_|refine WO.nI rfl ?_|with_reducible (first|refine WO.nil ?_|refine WC.aa ?_|refine WC.seq ?_|refine WC.ret ?_)|refine WC.aB rfl ?_|with_reducible (first|refine aC ?_|refine gM ?_|refine pZ ?_))
     exact gL _ _ _ (iW (mI (.inr (.inr (.inl qE))))) aW aM cD
    | false=>
     repeat' (first|((first|refine WO.n rfl ?_|refine WO.k rfl ?_);(first|refine aK ?_|refine dD ?_|refine kg ?_|refine aJ ?_|refine bu ?_|refine aZ ?_|refine GA ?_|refine fj ?_|(refine om (fun h=>?_) (fun h=>?_)<;>(try simp only [Int.ofNat_eq_natCast] at h))|refine bO ?_|refine MU ?_|refine Bc ?_))|refine WO.dC rfl ?_|with_reducible (first|refine WO.nil ?_|refine WC.aa ?_|refine WC.seq ?_|refine WC.skip ?_|refine WC.ret ?_)|refine WC.aB rfl ?_|refine WC.ax rfl ?_|with_reducible (first|refine aC ?_|refine gM ?_|refine eT ?_|refine pZ ?_))
     ·exact gL _ _ _ (iW (mI (.inr (.inr (.inr (fun e=>h (by first|exact e|exact e.symm))))))) aW aM cD
     ·have LX:cq es w=v:=by first|omega|exact Classical.not_not.1 h
      have hbf:bad es s1 (v,(w:Int))=false:=yP (by show (0:Int)≤(w:Int);omega) (by show (w:Int) < _;omega) qE LX
      have nk:e9 es (dZ r v++rowP r v (k + 1))=some (s1.set w true):=by
       rw [dY,← List.append_assoc,pK,iR]
       show (if bad es s1 (v,(w:Int)) then none else some (s1.set w true))=_
       rw [hbf];rfl
      have hlen:(dZ r v++rowP r v (k + 1)).length=(dZ r v++rowP r v k).length + 1:=by rw [dY,← List.append_assoc,List.length_append];rfl
      refine ⟨(k + 1,s1.set w true),by show (r.getD v []).length - (k + 1) < (r.getD v []).length - k;omega,.cons rfl (.cons rfl (.cons ?_ (.cons rfl (.cons rfl (.cons rfl (.cons rfl (.cons rfl (.cons rfl (.cons rfl (.nil _)))))))))),by show k + 1≤_;omega,cD,nk,?_,aM.set (by omega),Rd.skip (by omega) eO⟩
      ·show some _=some _
       congr 2
       show _=(((dZ r v++rowP r v (k + 1)).length:Nat):Int)
       rw [hlen]
       first|done|rfl|omega
      ·show bT (aw H1 sb _) sb _
       unfold bT
       rw [aq,List.map_set]
       congr 3
       first|done|omega
  ·have:k=(r.getD v []).length:=by omega
   subst this
   exact aN _ _ _ s1 aW iR a7 aM eO cD
 ·show some _=some _
  rw [m4,List.append_nil]
def b8 (r:List (List Int)):Prop:=r.length≤1048576∧∀l∈r,l.length≤1048576
theorem b8.row {r:List (List Int)} (h:b8 r) (v:Nat):(r.getD v []).length≤1048576:=by
 rw [List.getD_eq_getElem?_getD]
 cases hv:r[v]? with
 | none=>simp
 | some l=>exact h.2 l (List.mem_of_getElem? hv)
theorem rmO {n:Int} {es:List Ed} {r:List (List Int)} {nb sb:Nat} {base bW:Option Addr} {ec rc sc:Nat} {H0:Heap}
  (he:bS H0 nb 2 a5 (.slice base es.length ec) es) (hr:eY H0 nb 1 bq (.slice bW r.length rc) r) (cj:b8 r) (dP:es.length≤4000)
  (hs:bT H sb (iw es)) (KK:nb < sb) (nG:sb < nx) (bV:an H0 H nb) (jJ:Rd H nb [.int .i64 n,.slice base es.length ec]) (lE:2 * es.length≤au sc)
  (gL:∀σ H' nx',e9 es (dZ r r.length)=none→bg [(S4,.int .i64 4)] σ→an H0 H' nb→nx≤nx'→Q .ret σ H' nx')
  (aN:∀σ H' nx' s',bg [(S5,.slice (some ⟨sb,0,some 1⟩) (2 * es.length) sc),(S6,.int .i64 (((dZ r r.length).length:Nat):Int))] σ→
   e9 es (dZ r r.length)=some s'→an H0 H' nb→nx≤nx'→Q (.exit 0) σ H' nx') :
  WC A (.loop QD) [(S2,.pointer (some ⟨nb,0,none⟩)),(S5,.slice (some ⟨sb,0,some 1⟩) (2 * es.length) sc),(S6,.int .i64 0),(se,.slice bW r.length rc),(zo,.int .i64 ((r.length:Nat):Int)),(vU,.int .i64 0)] H nx Q:=by
 refine WC.loop (α:=Nat×List Bool) (fun v=>[(S2,.pointer (some ⟨nb,0,none⟩)),(S5,.slice (some ⟨sb,0,some 1⟩) (2 * es.length) sc),(S6,.int .i64 (((dZ r v.1).length:Nat):Int)),(se,.slice bW r.length rc),(zo,.int .i64 ((r.length:Nat):Int)),(vU,.int .i64 ((v.1:Nat):Int))])
  (fun v H' nx'=>v.1≤r.length∧nx≤nx'∧e9 es (dZ r v.1)=some v.2∧bT H' sb v.2∧an H0 H' nb∧Rd H' nb [.int .i64 n,.slice base es.length ec]) (fun v=>r.length - v.1)
  ?_ (0,iw es) aW ⟨Nat.zero_le _,Nat.le_refl _,rfl,hs,bV,jJ⟩
 rintro ⟨v,s1⟩ H1 aT ⟨hv,cD,iR,a7,aM,eO⟩
 simp only at hv iR a7 ⊢
 have nS:=cj.1
 unfold QD
 repeat' (first|((first|refine WO.n rfl ?_|refine WO.k rfl ?_);(refine ei (fun h=>?_) (fun h=>?_)<;>(try simp only [Int.ofNat_eq_natCast] at h)))|with_reducible (first|refine WO.nil ?_|refine WC.aa ?_|refine WC.seq ?_|refine WC.skip ?_|refine WC.exit ?_|refine WC.block ?_)|refine WC.aB rfl ?_|refine WC.ax rfl ?_|with_reducible (first|refine aC ?_|refine dQ ?_))
 ·have nM:v < r.length:=by omega
  have qE:r.getD v []=r[v]:=by rw [List.getD_eq_getElem?_getD,List.getElem?_eq_getElem nM];rfl
  obtain ⟨rb,ro,O0,ib,ic,rfl,rV,oF,qO,fA⟩:=hr.at nM
  rw [← qE] at qO fA
  have Bw:=aM.rd rV oF
  repeat' (first|((first|refine WO.n rfl ?_|refine WO.k rfl ?_);(first|refine aK ?_|refine cM ?_|refine bu ?_|refine aZ ?_))|with_reducible (first|refine WO.nil ?_|refine WC.aa ?_|refine WC.seq ?_|refine WC.block ?_|refine aC ?_))
  refine WC.sub aW (rmI (sb:=sb) he fA (cj.row v) dP (by have:=cj.1;omega) a7 iR KK (by omega) aM eO lE (fun σ H2 nx2 uC hσ bL eW=>?_) (fun σ H2 nx2 s2 hσ nk bL cZ lS eW=>?_))
  ·exact pZ (pZ (gM (gL _ _ _ (Bu nM (Nat.le_refl _) uC) hσ bL (by omega))))
  ·refine eh (eT (aC (WC.sub hσ ?_)))
   repeat' (first|((first|refine WO.n rfl ?_|refine WO.k rfl ?_);(first|refine aK ?_|refine bO ?_))|with_reducible (first|refine WO.nil ?_|refine WC.aa ?_))
   refine ⟨(v + 1,s2),by show r.length - (v + 1) < r.length - v;omega,.cons rfl (.cons rfl (.cons ?_ (.cons rfl (.cons rfl (.cons rfl (.nil _)))))),by show v + 1≤_;omega,by omega,by show e9 es (dZ r (v + 1))=_;rw [dM];exact nk,bL,cZ,lS⟩
   show some _=some _
   rw [dM]
 ·have:v=r.length:=by omega
  subst this
  exact aN _ _ _ s1 aW iR aM cD
theorem fa (v:Value) (m:Nat):aU [v] m=List.replicate m v:=by
 induction m with
 | zero=>rfl
 | succ m ih=>rw [kW,ih];rfl
theorem xo {b:Nat} {es:List Ed} (h:ak H (at_ b)=some (.cells (aU [.bool false] (2 * es.length)))):bT H b (iw es):=by
 unfold bT iw
 rw [h,fa,List.map_replicate]
theorem j2 {g:FuncId} (hf:A.funcs g=some pG) (HV:A.funcs 46=some rH) (hh:∀vs H nx,A.aF g vs H nx=none) (sg:∀vs H nx,A.aF 46 vs H nx=none)
  {n:Int} {ev rv:Value} {es:List Ed} {r:List (List Int)} (he:bS H nx 2 a5 ev es) (hr:eY H nx 1 bq rv r) (cj:b8 r) :
  WF A g [.agg #[.int .i64 n,ev],rv] H nx fun v H' nx'=>v=.int .i64 (aQ n es r)∧an H H' nx∧nx≤nx':=by
 obtain ⟨base,ec,rfl⟩:=he.form
 obtain ⟨bW,rc,rfl⟩:=hr.form
 refine WF.enter (hh _ _ _) hf ?_
 repeat' (first|((first|refine WO.n rfl ?_|refine WO.k rfl ?_);(first|refine aK ?_|refine jN ?_|refine aJ ?_))|with_reducible (first|refine WO.nil ?_|refine WC.aa ?_|refine WC.seq ?_|refine aC ?_))
 refine WO.cn rfl ?_
 have bM:an H (aw H nx [.int .i64 n,.slice base es.length ec]) nx:=an.refl.set (Nat.le_refl _)
 refine (qP HV sg ((he.same bM).up (Nat.le_succ _))).of ?_
 rintro _ H1 aT ⟨rfl,a7,cD⟩
 have dB:Rd H1 nx [.int .i64 n,.slice base es.length ec]:=a7.rd (by omega) Rd.self
 have bp:=bM.trans a7 (by omega)
 have nS:=cj.1
 by_cases hm:jF n es
 ·rw [decide_eq_true hm]
  obtain ⟨zH,zt,Q8,VM⟩:=hm
  repeat' (first|((first|refine WO.n rfl ?_|refine WO.k rfl ?_);(first|refine aK ?_|refine dD ?_|refine cM ?_|refine pA ?_|refine aJ ?_|refine mD ?_|(refine om (fun h=>?_) (fun h=>?_)<;>(try simp only [Int.ofNat_eq_natCast] at h))|refine qL ?_))|with_reducible (first|refine WO.nil ?_|refine WC.aa ?_|refine WC.seq ?_|refine WC.skip ?_|refine WC.ret ?_|refine WC.block ?_)|refine WC.aB rfl ?_|refine WC.ax rfl ?_|with_reducible (first|refine aC ?_|refine gM ?_))
  ·refine az (vs:=[_]) rfl ⟨?_,bp,by omega⟩
   unfold aQ
   rw [if_pos ⟨zH,zt,Q8,VM⟩,if_neg (by omega)];rfl
  have hlen:(r.length:Int)=n:=by omega
  have yR:aQ n es r=match e9 es (dZ r r.length) with
    | none=>4
    | some _=>if (dZ r r.length).length=2 * es.length then 0 else 4:=by
   unfold aQ
   rw [if_pos ⟨zH,zt,Q8,VM⟩,if_pos hlen]
   all_goals rfl
  refine WC.sub aW (rmO (nb:=nx) (sb:=aT) he hr cj (by omega) (xo aq) (by omega) (by omega) (bp.set (by omega)) (Rd.skip (by omega) dB) (by rw [cw];omega) (fun σ H2 nx2 uC hσ bL eW=>?_) (fun σ H2 nx2 s2 hσ nk bL eW=>?_))
  ·refine pZ (gM ?_)
   exact py hσ (vs:=[_]) rfl ⟨by rw [yR,uC];rfl,bL,by omega⟩
  ·refine eh (aC (WC.sub hσ ?_))
   have hle:=sL nk
   repeat' (first|((first|refine WO.n rfl ?_|refine WO.k rfl ?_);(first|refine aK ?_|refine cM ?_|(refine om (fun h=>?_) (fun h=>?_)<;>(try simp only [Int.ofNat_eq_natCast] at h))))|with_reducible (first|refine WO.nil ?_|refine WC.aa ?_|refine WC.seq ?_|refine WC.skip ?_|refine WC.ret ?_)|refine WC.aB rfl ?_|refine WC.ax rfl ?_|with_reducible (first|refine aC ?_|refine gM ?_))
   all_goals refine az (vs:=[_]) rfl ⟨?_,bL,by omega⟩
   ·rw [yR,nk]
    show Value.int .i64 4=.int .i64 (if _ then _ else _)
    rw [if_neg (by omega)]
   ·rw [yR,nk]
    show Value.int .i64 0=.int .i64 (if _ then _ else _)
    rw [if_pos (by omega)]
 ·rw [decide_eq_false hm]
  repeat' (first|(refine WO.k rfl ?_;(first|refine aK ?_|refine pA ?_))|with_reducible (first|refine WO.nil ?_|refine WC.aa ?_|refine WC.seq ?_|refine WC.ret ?_)|refine WC.aB rfl ?_|with_reducible (first|refine aC ?_|refine gM ?_))
  refine az (vs:=[_]) rfl ⟨?_,bp,by omega⟩
  unfold aQ
  rw [if_neg hm];rfl
end Go.Eng

namespace Go.Eng
variable {A:aG} {H H':Heap} {nx nx':Nat} {σ:aP} {Q:ct}
set_option maxRecDepth 100000
def da (h:Nat):Nat:=if h % 2=0 then h + 1 else h - 1
theorem sM (h:Nat):da h=2 * (h / 2) + (1 - h % 2):=by unfold da;split<;>omega
theorem eI {h m:Nat} (hl:h < 2 * m):da h < 2 * m:=by unfold da;split<;>omega
theorem hM (h:Nat):da (da h)=h:=by
 unfold da
 by_cases e:h % 2=0
 ·rw [if_pos e,if_neg (by omega)];omega
 ·rw [if_neg e,if_pos (by omega)];omega
theorem qQ {g:FuncId} (hf:A.funcs g=some mF) (hh:∀vs H nx,A.aF g vs H nx=none) {n:Int} {ev:Value} {es:List Ed} (he:bS H nx 2 a5 ev es) {h:Nat} (hl:h < 2 * es.length) (dP:es.length≤4000) :
  WF A g [.agg #[.int .i64 n,ev],.int .i64 (h:Int)] H nx fun v H' nx'=>v=.int .i64 (cq es h)∧an H H' nx∧nx≤nx':=by
 obtain ⟨base,ec,rfl⟩:=he.form
 have Dr:h / 2 < es.length:=by omega
 obtain ⟨eb,eo,Q7,rfl,Br,_,_,Nl,xk⟩:=he.at (by intro e;rw [e] at Dr;simp at Dr)
 have q3:=pL Dr xk (q:=h % 2) (Nat.mod_lt _ (by omega))
 rw [show 2 * (h / 2) + h % 2=h by omega] at q3
 refine WF.enter (hh _ _ _) hf ?_
 repeat' (first|((first|refine WO.n rfl ?_|refine WO.k rfl ?_);(first|refine aK ?_|refine dD ?_|refine jN ?_|refine aJ ?_|refine bu ?_|refine aZ ?_|refine GA ?_|refine MU ?_|refine Bc ?_))|with_reducible (first|refine WO.nil ?_|refine WC.aa ?_|refine WC.seq ?_|refine WC.ret ?_|refine aC ?_))
 exact az (vs:=[_]) rfl ⟨rfl,an.refl.set (Nat.le_refl _),by omega⟩
theorem E6 {g:FuncId} (hf:A.funcs g=some HS) (hh:∀vs H nx,A.aF g vs H nx=none) {n:Int} {ev:Value} {es:List Ed} (he:bS H nx 2 a5 ev es) {h:Nat} (hl:h < 2 * es.length) (dP:es.length≤4000) :
  WF A g [.agg #[.int .i64 n,ev],.int .i64 (h:Int)] H nx fun v H' nx'=>v=.int .i64 (cq es (da h))∧an H H' nx∧nx≤nx':=by
 obtain ⟨base,ec,rfl⟩:=he.form
 have Dr:h / 2 < es.length:=by omega
 obtain ⟨eb,eo,Q7,rfl,Br,_,_,Nl,xk⟩:=he.at (by intro e;rw [e] at Dr;simp at Dr)
 have q3:=pL Dr xk (q:=1 - h % 2) (by omega)
 rw [← sM] at q3
 refine WF.enter (hh _ _ _) hf ?_
 repeat' (first|((first|refine WO.n rfl ?_|refine WO.k rfl ?_);(first|refine aK ?_|refine dD ?_|refine jN ?_|refine aJ ?_|refine bu ?_|refine aZ ?_|refine GA ?_|refine Bb ?_|refine MU ?_|refine Bc ?_))|with_reducible (first|refine WO.nil ?_|refine WC.aa ?_|refine WC.seq ?_|refine WC.ret ?_|refine aC ?_))
 exact az (vs:=[_]) rfl ⟨rfl,an.refl.set (Nat.le_refl _),by omega⟩
theorem GW {g:FuncId} (hf:A.funcs g=some rI) (hh:∀vs H nx,A.aF g vs H nx=none) {h:Nat} (hl:h≤1048576) :
  WF A g [.int .i64 (h:Int)] H nx fun v H' nx'=>v=.int .i64 ((da h:Nat):Int)∧H'=H∧nx'=nx:=by
 refine WF.enter (hh _ _ _) hf ?_
 repeat' (first|((first|refine WO.n rfl ?_|refine WO.k rfl ?_);(first|refine aK ?_|(refine zl (fun h=>?_) (fun h=>?_)<;>(try simp only [Int.ofNat_eq_natCast] at h))|refine bO ?_|refine Bb ?_|refine Bc ?_))|with_reducible (first|refine WO.nil ?_|refine WC.aa ?_|refine WC.seq ?_|refine WC.skip ?_|refine WC.ret ?_)|refine WC.aB rfl ?_|refine WC.ax rfl ?_|with_reducible (first|refine aC ?_|refine gM ?_))
 all_goals
  refine az (vs:=[_]) rfl ⟨?_,rfl,rfl⟩
  show Value.int .i64 _=.int .i64 _
  congr 1
  unfold da
  split<;>omega
end Go.Eng

namespace Go.Eng
variable {A:aG} {H H':Heap} {nx nx':Nat} {σ:aP} {Q:ct}
set_option maxRecDepth 100000
theorem qmI (yS:A.funcs 60=some mF) (lh:∀vs H nx,A.aF 60 vs H nx=none) {n:Int} {es:List Ed} {r:List (List Int)} {nb sb v:Nat} {base bW:Option Addr} {ec rc sc:Nat} {H0:Heap} {s:List Bool}
  (he:bS H0 nb 2 a5 (.slice base es.length ec) es) (hr:eY H0 nb 1 bq (.slice bW r.length rc) r) (hv:v < r.length) (ml:(r.getD v []).length≤1048576) (dP:es.length≤4000) (yt:v≤1048576)
  (hs:bT H sb s) (zN:e9 es (dZ r v)=some s) (KK:nb < sb) (nG:sb < nx) (bV:an H0 H nb) (jJ:Rd H nb [.int .i64 n,.slice base es.length ec]) (lE:2 * es.length≤au sc)
  (gL:∀σ H' nx',e9 es (dZ r v++rowP r v (r.getD v []).length)=none→bg [(S4,.int .i64 4)] σ→an H0 H' nb→nx≤nx'→Q .ret σ H' nx')
  (aN:∀σ H' nx' s',bg [(S1,.slice bW r.length rc),(S2,.pointer (some ⟨nb,0,none⟩)),(S5,.slice (some ⟨sb,0,some 1⟩) (2 * es.length) sc),(S6,.int .i64 (((dZ r v++rowP r v (r.getD v []).length).length:Nat):Int)),(S7,.int .i64 ((v:Nat):Int))] σ→
   e9 es (dZ r v++rowP r v (r.getD v []).length)=some s'→bT H' sb s'→an H0 H' nb→Rd H' nb [.int .i64 n,.slice base es.length ec]→nx≤nx'→Q (.exit 2) σ H' nx') :
  WC A (.loop Qo) [(S1,.slice bW r.length rc),(S2,.pointer (some ⟨nb,0,none⟩)),(S5,.slice (some ⟨sb,0,some 1⟩) (2 * es.length) sc),(S6,.int .i64 (((dZ r v).length:Nat):Int)),(S7,.int .i64 ((v:Nat):Int)),(S8,.int .i64 0)] H nx Q:=by
 refine WC.loop (α:=Nat×List Bool) (fun k=>[(S1,.slice bW r.length rc),(S2,.pointer (some ⟨nb,0,none⟩)),(S5,.slice (some ⟨sb,0,some 1⟩) (2 * es.length) sc),(S6,.int .i64 (((dZ r v++rowP r v k.1).length:Nat):Int)),(S7,.int .i64 ((v:Nat):Int)),(S8,.int .i64 ((k.1:Nat):Int))])
  (fun k H' nx'=>k.1≤(r.getD v []).length∧nx≤nx'∧e9 es (dZ r v++rowP r v k.1)=some k.2∧bT H' sb k.2∧an H0 H' nb∧Rd H' nb [.int .i64 n,.slice base es.length ec]) (fun k=>(r.getD v []).length - k.1)
  ?_ (0,s) (.cons rfl (.cons rfl (.cons rfl (.cons ?_ (.cons rfl (.cons rfl (.nil _))))))) ⟨Nat.zero_le _,Nat.le_refl _,by rw [m4,List.append_nil];exact zN,hs,bV,jJ⟩
 ·rintro ⟨k,s1⟩ H1 aT ⟨hk,cD,iR,a7,aM,eO⟩
  simp only at hk iR a7 ⊢
  obtain ⟨iA,jT⟩:=lg iR
  have hle:=sL iR
  have KL:ak H1 (at_ sb)=some (.cells (s1.map .bool)):=a7
  have j3:r.getD v []=r[v]:=by rw [List.getD_eq_getElem?_getD,List.getElem?_eq_getElem hv];rfl
  obtain ⟨rb,ro,O0,ib,ic,rfl,rV,oF,qO,hi⟩:=hr.at hv
  rw [← j3] at qO hi
  have Bw:=aM.rd rV oF
  unfold Qo
  repeat' (first|((first|refine WO.n rfl ?_|refine WO.k rfl ?_);(first|refine cM ?_|refine bu ?_|refine aZ ?_|(refine ei (fun h=>?_) (fun h=>?_)<;>(try simp only [Int.ofNat_eq_natCast] at h))))|with_reducible (first|refine WO.nil ?_|refine WC.aa ?_|refine WC.seq ?_|refine WC.skip ?_|refine WC.exit ?_|refine WC.block ?_)|refine WC.aB rfl ?_|refine WC.ax rfl ?_|with_reducible (first|refine aC ?_|refine dQ ?_))
  ·have cI:k < (r.getD v []).length:=by omega
   obtain ⟨bb,bo,uA,rfl,je,_,_,Dq,uB⟩:=hi.at (by intro e;rw [e] at cI;simp at cI)
   have q1:=ft (v:=.int .i64 (r.getD v [])[k]) (uB k _ (List.getElem?_eq_getElem cI))
   have KM:=aM.rd je Dq
   generalize hx:(r.getD v [])[k]=x at q1
   have dY:rowP r v (k + 1)=rowP r v k++[(v,x)]:=by rw [xm cI,hx]
   have iW:bad es s1 (v,x)=true→e9 es (dZ r v++rowP r v (r.getD v []).length)=none:=by
    intro hb
    obtain ⟨ys,hy⟩:=uz r v (k:=k + 1) cI
    rw [hy,dY,← List.append_assoc,← List.append_assoc]
    refine uy ?_
    rw [pK,iR]
    show (if bad es s1 (v,x) then none else _)=_
    rw [hb];rfl
   repeat' (first|((first|refine WO.n rfl ?_|refine WO.k rfl ?_);(first|refine aK ?_|refine cM ?_|refine kg ?_|refine bu ?_|refine aZ ?_|(refine ei (fun h=>?_) (fun h=>?_)<;>(try simp only [Int.ofNat_eq_natCast] at h))|(refine C9 (fun h=>?_) (fun h=>?_)<;>(try simp only [Int.ofNat_eq_natCast] at h))))|refine WO.dC rfl ?_|refine WO.nI rfl ?_|with_reducible (first|refine WO.nil ?_|refine WC.aa ?_|refine WC.seq ?_|refine WC.ret ?_)|refine WC.aB rfl ?_|with_reducible (first|refine aC ?_|refine gM ?_|refine pZ ?_))
   ·exact gL _ _ _ (iW (mI (.inl (by show x < 0;omega)))) aW aM cD
   ·exact gL _ _ _ (iW (mI (.inr (.inl (by show (s1.length:Int)≤x;omega))))) aW aM cD
   ·obtain ⟨w,rfl⟩:∃w:Nat,x=(w:Int):=⟨x.toNat,by omega⟩
    have yQ:w < s1.length:=by omega
    have hg:=List.getElem?_eq_getElem yQ
    generalize HU:s1[w]=bw at hg
    have q2:=KJ hg
    have qE:s1.getD w false=bw:=by rw [List.getD_eq_getElem?_getD,hg];rfl
    cases bw with
    | true=>
     repeat' (first|((first|refine WO.n rfl ?_|refine WO.k rfl ?_);(first|refine aK ?_|refine kg ?_|refine bu ?_|refine aZ ?_))|refine WO.dC rfl ?_|refine WO.nI rfl ?_|with_reducible (first|refine WO.nil ?_|refine WC.aa ?_|refine WC.seq ?_|refine WC.ret ?_)|refine WC.aB rfl ?_|with_reducible (first|refine aC ?_|refine gM ?_|refine pZ ?_))
     exact gL _ _ _ (iW (mI (.inr (.inr (.inl qE))))) aW aM cD
    | false=>
     repeat' (first|(refine WO.n rfl ?_;(first|refine aK ?_|refine kg ?_|refine aJ ?_|refine bu ?_|refine aZ ?_))|refine WO.dC rfl ?_)
     refine WO.cn rfl ?_
     refine (qQ yS lh ((he.same aM).up (show nb≤aT by omega)) (h:=w) (by omega) dP).of ?_
     rintro _ H2 nx2 ⟨rfl,bL,eW⟩
     have cZ:=aM.trans bL (by omega)
     have Nm:ak H2 (at_ sb)=some (.cells (s1.map .bool)):=(bL sb (by omega)).trans KL
     have lS:=bL.rd (by omega) eO
     repeat' (first|((first|refine WO.n rfl ?_|refine WO.k rfl ?_);(first|refine aK ?_|refine kg ?_|refine aZ ?_|refine fj ?_|(refine om (fun h=>?_) (fun h=>?_)<;>(try simp only [Int.ofNat_eq_natCast] at h))|refine bO ?_))|refine WO.dC rfl ?_|with_reducible (first|refine WO.nil ?_|refine WC.aa ?_|refine WC.seq ?_|refine WC.skip ?_|refine WC.ret ?_)|refine WC.aB rfl ?_|refine WC.ax rfl ?_|with_reducible (first|refine aC ?_|refine gM ?_|refine eT ?_|refine pZ ?_))
     ·exact gL _ _ _ (iW (mI (.inr (.inr (.inr (fun e=>h (by first|exact e|exact e.symm))))))) aW cZ (by omega)
     ·have LX:cq es w=v:=by first|omega|exact Classical.not_not.1 h
      have hbf:bad es s1 (v,(w:Int))=false:=yP (by show (0:Int)≤(w:Int);omega) (by show (w:Int) < _;omega) qE LX
      have nk:e9 es (dZ r v++rowP r v (k + 1))=some (s1.set w true):=by
       rw [dY,← List.append_assoc,pK,iR]
       show (if bad es s1 (v,(w:Int)) then none else some (s1.set w true))=_
       rw [hbf];rfl
      have hlen:(dZ r v++rowP r v (k + 1)).length=(dZ r v++rowP r v k).length + 1:=by rw [dY,← List.append_assoc,List.length_append];rfl
      refine ⟨(k + 1,s1.set w true),by show (r.getD v []).length - (k + 1) < (r.getD v []).length - k;omega,.cons rfl (.cons rfl (.cons rfl (.cons ?_ (.cons rfl (.cons rfl (.nil _)))))),by show k + 1≤_;omega,by omega,nk,?_,cZ.set (by omega),Rd.skip (by omega) lS⟩
      ·show some _=some _
       congr 2
       show _=(((dZ r v++rowP r v (k + 1)).length:Nat):Int)
       rw [hlen]
       first|done|rfl|omega
      ·show bT (aw H2 sb _) sb _
       unfold bT
       rw [aq,List.map_set]
       congr 3
       first|done|omega
  ·have:k=(r.getD v []).length:=by omega
   subst this
   exact aN _ _ _ s1 aW iR a7 aM eO cD
 ·show some _=some _
  rw [m4,List.append_nil]
theorem qmO (yS:A.funcs 60=some mF) (lh:∀vs H nx,A.aF 60 vs H nx=none) {n:Int} {es:List Ed} {r:List (List Int)} {nb sb:Nat} {base bW:Option Addr} {ec rc sc:Nat} {H0:Heap}
  (he:bS H0 nb 2 a5 (.slice base es.length ec) es) (hr:eY H0 nb 1 bq (.slice bW r.length rc) r) (cj:b8 r) (dP:es.length≤4000) (hlen:(r.length:Int)=n)
  (hs:bT H sb (iw es)) (KK:nb < sb) (nG:sb < nx) (bV:an H0 H nb) (jJ:Rd H nb [.int .i64 n,.slice base es.length ec]) (lE:2 * es.length≤au sc)
  (gL:∀σ H' nx',e9 es (dZ r r.length)=none→bg [(S4,.int .i64 4)] σ→an H0 H' nb→nx≤nx'→Q .ret σ H' nx')
  (aN:∀σ H' nx' s',bg [(S5,.slice (some ⟨sb,0,some 1⟩) (2 * es.length) sc),(S6,.int .i64 (((dZ r r.length).length:Nat):Int))] σ→
   e9 es (dZ r r.length)=some s'→an H0 H' nb→nx≤nx'→Q (.exit 0) σ H' nx') :
  WC A (.loop Qp) [(S1,.slice bW r.length rc),(S2,.pointer (some ⟨nb,0,none⟩)),(S5,.slice (some ⟨sb,0,some 1⟩) (2 * es.length) sc),(S6,.int .i64 0),(S7,.int .i64 0)] H nx Q:=by
 refine WC.loop (α:=Nat×List Bool) (fun v=>[(S1,.slice bW r.length rc),(S2,.pointer (some ⟨nb,0,none⟩)),(S5,.slice (some ⟨sb,0,some 1⟩) (2 * es.length) sc),(S6,.int .i64 (((dZ r v.1).length:Nat):Int)),(S7,.int .i64 ((v.1:Nat):Int))])
  (fun v H' nx'=>v.1≤r.length∧nx≤nx'∧e9 es (dZ r v.1)=some v.2∧bT H' sb v.2∧an H0 H' nb∧Rd H' nb [.int .i64 n,.slice base es.length ec]) (fun v=>r.length - v.1)
  ?_ (0,iw es) aW ⟨Nat.zero_le _,Nat.le_refl _,rfl,hs,bV,jJ⟩
 rintro ⟨v,s1⟩ H1 aT ⟨hv,cD,iR,a7,aM,eO⟩
 simp only at hv iR a7 ⊢
 have nS:=cj.1
 unfold Qp
 repeat' (first|((first|refine WO.n rfl ?_|refine WO.k rfl ?_);(first|refine aK ?_|refine dD ?_|refine aJ ?_|(refine ei (fun h=>?_) (fun h=>?_)<;>(try simp only [Int.ofNat_eq_natCast] at h))))|with_reducible (first|refine WO.nil ?_|refine WC.aa ?_|refine WC.seq ?_|refine WC.skip ?_|refine WC.exit ?_|refine WC.block ?_)|refine WC.aB rfl ?_|refine WC.ax rfl ?_|with_reducible (first|refine aC ?_|refine dQ ?_))
 ·have nM:v < r.length:=by omega
  refine WC.sub aW (qmI yS lh (sb:=sb) he hr nM (cj.row v) dP (by omega) a7 iR KK (by omega) aM eO lE (fun σ H2 nx2 uC hσ bL eW=>?_) (fun σ H2 nx2 s2 hσ nk bL cZ lS eW=>?_))
  ·exact pZ (pZ (gM (gL _ _ _ (Bu nM (Nat.le_refl _) uC) hσ bL (by omega))))
  ·refine eh (eT (aC (WC.sub hσ ?_)))
   repeat' (first|((first|refine WO.n rfl ?_|refine WO.k rfl ?_);(first|refine aK ?_|refine bO ?_))|with_reducible (first|refine WO.nil ?_|refine WC.aa ?_))
   refine ⟨(v + 1,s2),by show r.length - (v + 1) < r.length - v;omega,.cons rfl (.cons rfl (.cons rfl (.cons ?_ (.cons rfl (.nil _))))),by show v + 1≤_;omega,by omega,by show e9 es (dZ r (v + 1))=_;rw [dM];exact nk,bL,cZ,lS⟩
   show some _=some _
   rw [dM]
 ·have:v=r.length:=by omega
  subst this
  exact aN _ _ _ s1 aW iR aM cD
theorem GX {g:FuncId} (hf:A.funcs g=some J8) (h22:A.funcs 24=some M3) (yS:A.funcs 60=some mF) (hh:∀vs H nx,A.aF g vs H nx=none) (Q9:∀vs H nx,A.aF 24 vs H nx=none) (lh:∀vs H nx,A.aF 60 vs H nx=none)
  {n:Int} {ev rv:Value} {es:List Ed} {r:List (List Int)} (he:bS H nx 2 a5 ev es) (hr:eY H nx 1 bq rv r) (cj:b8 r) :
  WF A g [.agg #[.int .i64 n,ev],rv] H nx fun v H' nx'=>v=.int .i64 (aQ n es r)∧an H H' nx∧nx≤nx':=by
 obtain ⟨base,ec,rfl⟩:=he.form
 obtain ⟨bW,rc,rfl⟩:=hr.form
 refine WF.enter (hh _ _ _) hf ?_
 repeat' (first|((first|refine WO.n rfl ?_|refine WO.k rfl ?_);(first|refine aK ?_|refine jN ?_|refine aJ ?_))|with_reducible (first|refine WO.nil ?_|refine WC.aa ?_|refine WC.seq ?_|refine aC ?_))
 refine WO.cn rfl ?_
 have bM:an H (aw H nx [.int .i64 n,.slice base es.length ec]) nx:=an.refl.set (Nat.le_refl _)
 refine (uu h22 Q9 ((he.same bM).up (Nat.le_succ _))).of ?_
 rintro _ H1 aT ⟨rfl,a7,cD⟩
 have dB:Rd H1 nx [.int .i64 n,.slice base es.length ec]:=a7.rd (by omega) Rd.self
 have bp:=bM.trans a7 (by omega)
 have nS:=cj.1
 by_cases hm:jF n es
 ·rw [decide_eq_true hm]
  obtain ⟨zH,zt,Q8,VM⟩:=hm
  repeat' (first|((first|refine WO.n rfl ?_|refine WO.k rfl ?_);(first|refine aK ?_|refine dD ?_|refine cM ?_|refine pA ?_|refine aJ ?_|refine mD ?_|(refine om (fun h=>?_) (fun h=>?_)<;>(try simp only [Int.ofNat_eq_natCast] at h))|refine qL ?_))|with_reducible (first|refine WO.nil ?_|refine WC.aa ?_|refine WC.seq ?_|refine WC.skip ?_|refine WC.ret ?_|refine WC.block ?_)|refine WC.aB rfl ?_|refine WC.ax rfl ?_|with_reducible (first|refine aC ?_|refine gM ?_))
  ·refine az (vs:=[_]) rfl ⟨?_,bp,by omega⟩
   unfold aQ
   rw [if_pos ⟨zH,zt,Q8,VM⟩,if_neg (by omega)];rfl
  have hlen:(r.length:Int)=n:=by omega
  have yR:aQ n es r=match e9 es (dZ r r.length) with
    | none=>4
    | some _=>if (dZ r r.length).length=2 * es.length then 0 else 4:=by
   unfold aQ
   rw [if_pos ⟨zH,zt,Q8,VM⟩,if_pos hlen]
   all_goals rfl
  refine WC.sub aW (qmO yS lh (nb:=nx) (sb:=aT) he hr cj (by omega) hlen (xo aq) (by omega) (by omega) (bp.set (by omega)) (Rd.skip (by omega) dB) (by rw [cw];omega) (fun σ H2 nx2 uC hσ bL eW=>?_) (fun σ H2 nx2 s2 hσ nk bL eW=>?_))
  ·refine pZ (gM ?_)
   exact py hσ (vs:=[_]) rfl ⟨by rw [yR,uC];rfl,bL,by omega⟩
  ·refine eh (aC (WC.sub hσ ?_))
   have hle:=sL nk
   repeat' (first|((first|refine WO.n rfl ?_|refine WO.k rfl ?_);(first|refine aK ?_|refine cM ?_|(refine ei (fun h=>?_) (fun h=>?_)<;>(try simp only [Int.ofNat_eq_natCast] at h))))|with_reducible (first|refine WO.nil ?_|refine WC.aa ?_|refine WC.seq ?_|refine WC.skip ?_|refine WC.ret ?_)|refine WC.aB rfl ?_|refine WC.ax rfl ?_|with_reducible (first|refine aC ?_|refine gM ?_))
   all_goals refine az (vs:=[_]) rfl ⟨?_,bL,by omega⟩
   ·rw [yR,nk]
    show Value.int .i64 4=.int .i64 (if _ then _ else _)
    rw [if_neg (by omega)]
   ·rw [yR,nk]
    show Value.int .i64 0=.int .i64 (if _ then _ else _)
    rw [if_pos (by omega)]
 ·rw [decide_eq_false hm]
  repeat' (first|(refine WO.k rfl ?_;(first|refine aK ?_|refine pA ?_))|with_reducible (first|refine WO.nil ?_|refine WC.aa ?_|refine WC.seq ?_|refine WC.ret ?_)|refine WC.aB rfl ?_|with_reducible (first|refine aC ?_|refine gM ?_))
  refine az (vs:=[_]) rfl ⟨?_,bp,by omega⟩
  unfold aQ
  rw [if_neg hm];rfl
end Go.Eng

namespace Go.Eng
theorem uD {es:List Ed}:∀{xs:List (Nat×Int)} {s0 s:List Bool},xs.foldl (fF es) (some s0)=some s→
  (∀x∈xs,0≤x.2∧x.2 < (s0.length:Int)∧cq es x.2.toNat=x.1∧s0[x.2.toNat]?=some false)∧xs.Pairwise (fun x y=>x.2≠y.2)∧∀h:Nat,s[h]?=some true→s0[h]?=some true∨∃x∈xs,x.2=(h:Int):=by
 intro xs
 induction xs with
 | nil=>intro s0 s h;cases h;exact ⟨fun x hx=>by simp at hx,.nil,fun h hs=>.inl hs⟩
 | cons x xs ih=>
  intro s0 s h
  rw [List.foldl_cons] at h
  cases h1:fF es (some s0) x with
  | none=>rw [h1,ux] at h;cases h
  | some s1=>
   rw [h1] at h
   obtain ⟨hb,rfl⟩:=Bv h1
   obtain ⟨b1,b2,b3,b4⟩:=xn hb
   obtain ⟨g1,g2,g3⟩:=ih h
   have cf:x.2.toNat < s0.length:=by omega
   have key:∀y∈xs,y.2≠x.2∧s0[y.2.toNat]?=some false:=by
    intro y hy
    obtain ⟨q1,q2,q3,q4⟩:=g1 y hy
    rw [List.getElem?_set] at q4
    by_cases e:x.2.toNat=y.2.toNat
    ·rw [if_pos e,if_pos (by omega)] at q4;cases q4
    ·rw [if_neg e] at q4
     exact ⟨fun e'=>e (by rw [e']),q4⟩
   refine ⟨fun y hy=>?_,.cons (fun y hy=>(key y hy).1.symm) g2,fun q hq=>?_⟩
   ·rcases List.mem_cons.1 hy with rfl|hy
    ·exact ⟨b1,b2,b4,b3⟩
    ·obtain ⟨q1,q2,q3,_⟩:=g1 y hy
     exact ⟨q1,by simpa using q2,q3,(key y hy).2⟩
   ·rcases g3 q hq with hq|⟨y,hy,e⟩
    ·rw [List.getElem?_set] at hq
     by_cases e:x.2.toNat=q
     ·exact .inr ⟨x,List.mem_cons_self,by omega⟩
     ·rw [if_neg e] at hq;exact .inl hq
    ·exact .inr ⟨y,List.mem_cons_of_mem _ hy,e⟩
def iX (r:List (List Int)) (v k:Nat):Int:=(r.getD v []).getD k 0
def gN (r:List (List Int)) (v:Nat):Nat:=(r.getD v []).length
structure cJ (n:Int) (es:List Ed) (r:List (List Int)):Prop where
 may:jF n es
 len:(r.length:Int)=n
 ok:∀v k,v < r.length→k < gN r v→0≤iX r v k∧iX r v k < ((2 * es.length:Nat):Int)∧cq es (iX r v k).toNat=v
 inj:∀v k v' k',v < r.length→k < gN r v→v' < r.length→k' < gN r v'→iX r v k=iX r v' k'→v=v'∧k=k'
 all:∀h:Nat,h < 2 * es.length→∃v k,v < r.length∧k < gN r v∧iX r v k=(h:Int)
theorem Nn {r:List (List Int)} {w:Nat} {x:Nat×Int} (hx:x∈dZ r w):∃v k,v < w∧k < gN r v∧x=(v,iX r v k):=by
 unfold dZ at hx
 obtain ⟨v,hv,hm⟩:=List.mem_flatMap.1 hx
 obtain ⟨h,hh,rfl⟩:=List.mem_map.1 hm
 obtain ⟨k,hk,rfl⟩:=List.getElem_of_mem hh
 refine ⟨v,k,by simpa using hv,hk,?_⟩
 unfold iX
 rw [List.getD_eq_getElem?_getD (l:=r.getD v []),List.getElem?_eq_getElem hk];rfl
theorem yT {r:List (List Int)} {w v k:Nat} (hv:v < w) (hk:k < gN r v):(v,iX r v k)∈dZ r w:=by
 unfold dZ
 refine List.mem_flatMap.2 ⟨v,by simpa using hv,List.mem_map.2 ⟨iX r v k,?_,rfl⟩⟩
 unfold iX
 have iE:k < (r.getD v []).length:=hk
 rw [List.getD_eq_getElem?_getD (l:=r.getD v []),List.getElem?_eq_getElem iE]
 exact List.getElem_mem iE
theorem Ra {r:List (List Int)} (P:Nat×Int→Nat×Int→Prop) (hs:∀x y,P x y→P y x):∀{w:Nat},(dZ r w).Pairwise P→∀v k v' k',v < w→k < gN r v→v' < w→k' < gN r v'→(v≠v'∨k≠k')→P (v,iX r v k) (v',iX r v' k'):=by
 intro w
 induction w with
 | zero=>intro _ v k v' k' hv;omega
 | succ w ih=>
  intro hp v k v' k' hv hk lF iE cy
  rw [dM,List.pairwise_append] at hp
  obtain ⟨h1,h2,h3⟩:=hp
  have fA:∀k,k < gN r w→(w,iX r w k)∈rowP r w (r.getD w []).length:=by
   intro k hk
   unfold rowP
   rw [List.take_length]
   refine List.mem_map.2 ⟨iX r w k,?_,rfl⟩
   have iE:k < (r.getD w []).length:=hk
   unfold iX
   rw [List.getD_eq_getElem?_getD (l:=r.getD w []),List.getElem?_eq_getElem iE]
   exact List.getElem_mem iE
  have dY:∀i j,i < j→j < gN r w→P (w,iX r w i) (w,iX r w j):=by
   intro i j FT hj
   have Fw:j < (r.getD w []).length:=hj
   have hl:(rowP r w (r.getD w []).length).length=(r.getD w []).length:=by unfold rowP;simp
   have:=List.pairwise_iff_getElem.1 h2 i j (by omega) (by omega) FT
   have e:∀q (hq:q < (r.getD w []).length),(rowP r w (r.getD w []).length)[q]'(by omega)=(w,iX r w q):=by
    intro q hq
    have h5:(rowP r w (r.getD w []).length)[q]?=some (w,iX r w q):=by
     unfold rowP iX
     rw [List.take_length,List.getElem?_map,List.getElem?_eq_getElem hq,List.getD_eq_getElem?_getD (l:=r.getD w []),List.getElem?_eq_getElem hq]
     rfl
    rw [List.getElem?_eq_getElem (by omega)] at h5
    exact Option.some.inj h5
   rw [e i (by omega),e j Fw] at this
   exact this
  by_cases c1:v=w
  ·subst c1
   by_cases c2:v'=v
   ·subst c2
    rcases cy with h|h
    ·exact absurd rfl h
    ·rcases Nat.lt_or_ge k k' with h4|h4
     ·exact dY k k' h4 iE
     ·exact hs _ _ (dY k' k (by omega) hk)
   ·exact hs _ _ (h3 _ (yT (show v' < v by omega) iE) _ (fA k hk))
  ·by_cases c2:v'=w
   ·subst c2
    exact h3 _ (yT (show v < v' by omega) hk) _ (fA k' iE)
   ·exact ih h1 v k v' k' (by omega) hk (by omega) iE cy
theorem iy {n:Int} {es:List Ed} {r:List (List Int)} (h:aQ n es r=0):cJ n es r:=by
 unfold aQ at h
 split at h
 case isFalse=>omega
 rename_i hm
 split at h
 case isFalse=>omega
 rename_i hl
 split at h
 ·omega
 ·rename_i s hf
  split at h
  case isFalse=>omega
  rename_i hc
  obtain ⟨c1,c2⟩:=lg hf
  obtain ⟨f1,f2,f3⟩:=uD hf
  have h0:(iw es).length=2 * es.length:=by simp [iw]
  refine ⟨hm,hl,fun v k hv hk=>?_,fun v k v' k' hv hk lF iE he=>?_,fun q hq=>?_⟩
  ·obtain ⟨g1,g2,g3,_⟩:=f1 _ (yT hv hk)
   exact ⟨g1,by rw [h0] at g2;exact g2,g3⟩
  ·apply Classical.byContradiction
   intro cy
   exact Ra _ (fun _ _ h=>h.symm) f2 v k v' k' hv hk lF iE (by omega) he
  ·have ij:s.count true=s.length:=by omega
   have ht:∀b∈s,true=b:=List.count_eq_length.1 ij
   have hs:s[q]?=some true:=by
    rw [List.getElem?_eq_getElem (by omega)]
    exact congrArg some (ht _ (List.getElem_mem _)).symm
   rcases f3 q hs with h5|⟨x,hx,e⟩
   ·simp [iw,List.getElem?_replicate] at h5
   ·obtain ⟨v,k,hv,hk,rfl⟩:=Nn hx
    exact ⟨v,k,hv,hk,e⟩
def fe (es:List Ed) (r:List (List Int)) (l:List Int):Prop:=l.length=2 * es.length∧∀v k,v < r.length→k < gN r v→l[da (iX r v k).toNat]?=some (iX r v ((k + 1) % gN r v))
theorem fe.uniq {n:Int} {es:List Ed} {r:List (List Int)} {l l':List Int} (g:cJ n es r) (h:fe es r l) (h':fe es r l'):l=l':=by
 apply List.ext_getElem?
 intro i
 by_cases hi:i < 2 * es.length
 ·obtain ⟨v,k,hv,hk,e⟩:=g.all (da i) (eI hi)
  have e1:=h.2 v k hv hk
  have e2:=h'.2 v k hv hk
  rw [e,show ((da i:Nat):Int).toNat=da i from Int.toNat_natCast _,hM] at e1 e2
  rw [e1,e2]
 ·rw [List.getElem?_eq_none (by have:=h.1;omega),List.getElem?_eq_none (by have:=h'.1;omega)]
theorem fe.lt {n:Int} {es:List Ed} {r:List (List Int)} {l:List Int} (g:cJ n es r) (h:fe es r l) {i:Nat} (hi:i < 2 * es.length):∃q:Nat,l[i]?=some (q:Int)∧q < 2 * es.length:=by
 obtain ⟨v,k,hv,hk,e⟩:=g.all (da i) (eI hi)
 have e1:=h.2 v k hv hk
 rw [e,show ((da i:Nat):Int).toNat=da i from Int.toNat_natCast _,hM] at e1
 obtain ⟨g1,g2,_⟩:=g.ok v ((k + 1) % gN r v) hv (Nat.mod_lt _ (by omega))
 exact ⟨(iX r v ((k + 1) % gN r v)).toNat,by rw [e1];congr 1;omega,by omega⟩
def kh (f:Nat→Nat) (es:List Ed) (r:List (List Int)) (v k:Nat) (l:List Int):Prop:=l.length=2 * es.length∧∀v' k',v' < r.length→k' < gN r v'→(v' < v∨v'=v∧k' < k)→l[f (iX r v' k').toNat]?=some (iX r v' ((k' + 1) % gN r v'))
theorem kh.step {f:Nat→Nat} {n:Int} {es:List Ed} {r:List (List Int)} {v k:Nat} {l:List Int} (g:cJ n es r) (hf:∀a b,f a=f b→a=b) (hl:∀a,a < 2 * es.length→f a < 2 * es.length) (h:kh f es r v k l) (hv:v < r.length) (hk:k < gN r v):kh f es r v (k + 1) (l.set (f (iX r v k).toNat) (iX r v ((k + 1) % gN r v))):=by
 refine ⟨by rw [List.length_set];exact h.1,fun v' k' lF iE hb=>?_⟩
 obtain ⟨g1,g2,_⟩:=g.ok v k hv hk
 obtain ⟨g3,g4,_⟩:=g.ok v' k' lF iE
 rw [List.getElem?_set]
 by_cases e:f (iX r v k).toNat=f (iX r v' k').toNat
 ·have e1:=hf _ _ e
  obtain ⟨rfl,rfl⟩:=g.inj v k v' k' hv hk lF iE (by omega)
  rw [if_pos rfl,if_pos (by rw [h.1];exact hl _ (by omega))]
 ·rw [if_neg e]
  refine h.2 v' k' lF iE ?_
  rcases hb with hb|⟨rfl,hb⟩
  ·exact .inl hb
  ·rcases Nat.lt_or_ge k' k with h5|h5
   ·exact .inr ⟨rfl,h5⟩
   ·exact absurd (by rw [show k'=k by omega]) e
theorem kh.row {f:Nat→Nat} {es:List Ed} {r:List (List Int)} {v:Nat} {l:List Int} (h:kh f es r v (gN r v) l):kh f es r (v + 1) 0 l:=by
 refine ⟨h.1,fun v' k' lF iE hb=>h.2 v' k' lF iE ?_⟩
 rcases hb with hb|⟨_,hb⟩
 ·by_cases e:v'=v
  ·subst e;exact .inr ⟨rfl,iE⟩
  ·exact .inl (by omega)
 ·omega
theorem kh.zero {f:Nat→Nat} {es:List Ed} {r:List (List Int)} {l:List Int} (h:l.length=2 * es.length):kh f es r 0 0 l:=⟨h,fun _ _ _ _ hb=>by omega⟩
theorem kh.all {es:List Ed} {r:List (List Int)} {l:List Int} (h:kh da es r r.length 0 l):fe es r l:=⟨h.1,fun v k hv hk=>h.2 v k hv hk (.inl hv)⟩
theorem KN (a b:Nat) (h:da a=da b):a=b:=by
 rw [← hM a,h,hM]
def ay (H:Heap) (b:Nat) (l:List Int):Prop:=ak H (at_ b)=some (.cells (l.map (.int .i64)))
theorem hO {H:Heap} {b k:Nat} (h:ak H (at_ b)=some (.cells (aU [.int .i64 0] k))):ay H b (List.replicate k 0):=by
 unfold ay
 rw [h,fa,List.map_replicate]
theorem ay.cell {l:List Int} {i:Nat} {x:Int} (h:l[i]?=some x):(l.map (Value.int .i64))[0 + i * 1]?=some (.int .i64 x):=by
 rw [Nat.zero_add,Nat.mul_one,List.getElem?_map,h];rfl
theorem ay.sle {H:Heap} {b nx c:Nat} {l:List Int} (h:ay H b l) (hb:b < nx) (hc:l.length≤au c):bS H nx 1 bq (.slice (some ⟨b,0,some 1⟩) l.length c) l:=by
 refine ⟨_,_,rfl,(fun e=>by cases e),fun a ha=>?_⟩
 cases ha
 refine .inr ⟨hc,b,0,rfl,hb,fun _=>⟨_,.inl h,fun i x hx=>?_⟩⟩
 have h1:(l.map (Value.int .i64))[i]?=some (.int .i64 x):=by rw [List.getElem?_map,hx];rfl
 have hi:i < (l.map (Value.int .i64)).length:=by
  have:=List.getElem?_eq_some_iff.1 hx
  simpa using this.1
 rw [Nat.zero_add,Nat.mul_one,List.drop_eq_getElem_cons hi]
 rw [List.getElem?_eq_getElem hi] at h1
 rw [Option.some.inj h1]
 rfl
theorem No (h:Nat):h ^^^ 1=da h:=by
 unfold da
 have h1:(h ^^^ 1) / 2=h / 2:=by rw [Nat.xor_div_two];simp
 have h2:=Nat.xor_mod_two_eq_one (a:=h) (b:=1)
 split<;>omega
section
variable {A:aG} {H:Heap} {nx:Nat} {σ:aP} {L:List Value} {t:TypeId} {x y:Od}
theorem KO {h:Nat} (hs:h≤4611686018427387904):Op.intBits .xor .i64 (h:Int) (1:Int)=(pure (.int .i64 ((da h:Nat):Int)):Sem Value):=by
 unfold Op.intBits
 show (pure (Value.int .i64 (IntKind.i64.wrap ((BitVec.ofInt 64 (h:Int) ^^^ BitVec.ofInt 64 1).toNat:Int))):Sem Value)=_
 have e1:(BitVec.ofInt 64 (h:Int) ^^^ BitVec.ofInt 64 1).toNat=da h:=by
  rw [BitVec.toNat_xor,BitVec.toNat_ofInt,BitVec.toNat_ofInt]
  rw [show ((h:Int) % ((2 ^ 64:Nat):Int)).toNat=h by omega,show ((1:Int) % ((2 ^ 64:Nat):Int)).toNat=1 by decide]
  exact No h
 have ht:da h≤h + 1:=by unfold da;split<;>omega
 rw [e1]
 congr 2
 exact mZ (by unfold tW;omega)
theorem Act.Zu {h:Nat} (hx:ev σ L x=some (.int .i64 (h:Int))) (hy:ev σ L y=some (.int .i64 ((1:Nat):Int))) (hs:h≤4611686018427387904):Act A (.bin .xor t x y) σ L H nx (.int .i64 ((da h:Nat):Int)) H nx:=
 .eA hx hy (fR rfl rfl dG (by simp only [binOp];exact KO hs) rfl)
end
end Go.Eng
