import Derived.Test.YtlffogombmhmfaaGreatWc
/- Walks over the program: part 4. -/

namespace Go.Eng
variable {A:aG} {H H':Heap} {nx nx':Nat} {σ:aP} {Q:ct}
set_option maxRecDepth 100000
def Vl (c0:List Int) (N:Int) (c:List Int):Prop:=∀w,c[w]?=c0[w]?∨(c[w]?=some N∧¬Mk c0 w)
theorem Vl.set {c0 c:List Int} {N x:Int} {w:Nat} (h:Vl c0 N c) (hw:c[w]?=some x) (hx:x < 0):Vl c0 N (c.set w N):=by
 intro u
 have hl:w < c.length:=(List.getElem?_eq_some_iff.1 hw).1
 by_cases e:w=u
 ·subst e
  right
  rw [List.getElem?_set,if_pos rfl,if_pos hl]
  refine ⟨rfl,fun ⟨y,h1,h2⟩=>?_⟩
  rcases h w with h3|h3
  ·rw [← h3,hw] at h1;cases h1;omega
  ·exact h3.2 ⟨y,h1,h2⟩
 ·rw [List.getElem?_set,if_neg e]
  exact h u
theorem Vl.mP {n:Int} {es:List Ed} {m s:Nat} {c c':List Int} (hl:ln es m s c) (iQ:¬Old es s s) (h:Vl c ((aE es s:Nat):Int) c') (iP:c'.length=m) (hd:∀w,w < m→(Mk c' w↔Old es (s + 1) w)):ln es m (s + 1) c':=by
 refine hl.next iQ iP (fun w hw hr=>?_) (fun w hw hr=>?_)
 ·rcases h w with h1|h1
  ·obtain ⟨x,h2,h3⟩:=(hd w hw).2 (Old.succ.2 (.inr hr))
   rw [h1] at h2
   obtain ⟨t,h4,h5⟩:=(hl.marked hw).1 ⟨x,h2,h3⟩
   exact (iQ ⟨t,h4,h5.trans hr.symm⟩).elim
  ·exact h1.1
 ·rcases h w with h1|h1
  ·exact h1
  ·rcases Old.succ.1 ((hd w hw).1 ⟨_,h1.1,by omega⟩) with h2|h2
   ·exact (h1.2 ((hl.marked hw).2 h2)).elim
   ·exact (hr h2).elim
theorem aaW {n:Int} {m nb cb ob nxo s v:Nat} {es:List Ed} {base:Option Addr} {ec cc oc N:Nat} {H0:Heap} {c0 c todo:List Int} {tv:Value} (yX:A.funcs 71=some HS) (ll:∀vs H nx,A.aF 71 vs H nx=none)
  (hm:jF n es) (fB:n=(m:Int)) (he:bS H0 nb 2 a5 (.slice base es.length ec) es) (hN:N≤1048576) (hv:v < m) (hs:s < m) (K5:Mk c v)
  (ps:PS H0 H nb cb ob nxo n (.slice base es.length ec) es m c) (st:mM H nxo nx tv todo) (hx:nxo≤nx) (iv:Inv es m s (PK es v 0) c todo) (vl:Vl c0 (N:Int) c) (hb:2 * left c + todo.length≤2 * m + 1)
  (aN:∀σ H' nx' c' uM VW,bg [(S1,.slice none 0 0),(S2,.slice none 0 0),(S3,.pointer (some ⟨nb,0,none⟩)),(S8,.slice (some ⟨cb,0,some 1⟩) m cc),(S9,.int .i64 ((N:Nat):Int)),(dN,.slice (some ⟨ob,0,some 1⟩) m oc),(fE,.int .i64 ((s:Nat):Int)),(iU,VW)] σ→
   PS H0 H' nb cb ob nxo n (.slice base es.length ec) es m c'→mM H' nxo nx' VW uM→Inv es m s (fun _ _=>False) c' uM→Vl c0 (N:Int) c'→2 * left c' + uM.length≤2 * left c + todo.length→nx≤nx'→Q (.exit 4) σ H' nx') :
  WC A (.loop JW) [(S1,.slice none 0 0),(S2,.slice none 0 0),(S3,.pointer (some ⟨nb,0,none⟩)),(S8,.slice (some ⟨cb,0,some 1⟩) m cc),(S9,.int .i64 ((N:Nat):Int)),(dN,.slice (some ⟨ob,0,some 1⟩) m oc),(fE,.int .i64 ((s:Nat):Int)),(iU,tv),(nJ,.int .i64 ((v:Nat):Int)),(nK,.int .i64 0)] H nx Q:=by
 have dP:=hm.2.2.1
 have cD:=hm.2.1
 refine WC.loop (α:=Nat×List Int×List Int×Value) (fun k=>[(S1,.slice none 0 0),(S2,.slice none 0 0),(S3,.pointer (some ⟨nb,0,none⟩)),(S8,.slice (some ⟨cb,0,some 1⟩) m cc),(S9,.int .i64 ((N:Nat):Int)),(dN,.slice (some ⟨ob,0,some 1⟩) m oc),(fE,.int .i64 ((s:Nat):Int)),(iU,k.2.2.2),(nJ,.int .i64 ((v:Nat):Int)),(nK,.int .i64 ((k.1:Nat):Int))])
  (fun k H' nx'=>k.1≤(di es (2 * es.length) v).length∧nx≤nx'∧PS H0 H' nb cb ob nxo n (.slice base es.length ec) es m k.2.1∧mM H' nxo nx' k.2.2.2 k.2.2.1∧Inv es m s (PK es v k.1) k.2.1 k.2.2.1∧Mk k.2.1 v∧Vl c0 (N:Int) k.2.1∧2 * left k.2.1 + k.2.2.1.length≤2 * left c + todo.length) (fun k=>(di es (2 * es.length) v).length - k.1)
  ?_ (0,c,todo,tv) aW ⟨Nat.zero_le _,Nat.le_refl _,ps,st,iv,K5,vl,Nat.le_refl _⟩
 rintro ⟨k,c1,fN,Rl⟩ H1 aT ⟨hk,hU,iH,jf,uN,sj,O5,dB⟩
 simp only at hk iH jf uN sj O5 dB ⊢
 have K3:=kK (es:=es) (k:=2 * es.length) (v:=v)
 obtain ⟨us,u,kI,Bs,G6,rL⟩:=iH.gs.row (v:=v) (by rw [cU];exact hv)
 rw [cU] at kI
 rw [jg hv] at rL
 obtain ⟨ub,uc,hu⟩:=jG rL
 have Nu:Rd H1 ob us:=.inl Bs
 have o1:=iH.h1
 have o2:=iH.h2
 have o3:=iH.h3
 have eO:=iH.rd
 rw [hu] at G6
 have iP:=uN.len
 have Fe:ak H1 (at_ cb)=some (.cells (c1.map (.int .i64))):=iH.ci
 unfold JW
 repeat' (first|((first|refine WO.n rfl ?_|refine WO.k rfl ?_);(first|refine cM ?_|refine aJ ?_|refine bu ?_|refine aZ ?_|(refine ei (fun h=>?_) (fun h=>?_)<;>(try simp only [Int.ofNat_eq_natCast] at h))))|with_reducible (first|refine WO.nil ?_|refine WC.aa ?_|refine WC.drawn ?_|refine WC.seq ?_|refine WC.skip ?_|refine WC.exit ?_|refine WC.block ?_)|refine WC.aB rfl ?_|refine WC.ax rfl ?_|with_reducible (first|refine aC ?_|refine dQ ?_))
 ·have cI:k < (di es (2 * es.length) v).length:=by omega
  obtain ⟨q,hq,Fb,VX,K6⟩:=yW cI
  obtain ⟨rb,rc,qO,VY,Rm,oF,hrx⟩:=rL.cell hq
  rw [hu] at qO
  cases qO
  have VZ:Rd H1 rb _:=.inl oF
  repeat' (refine WO.n rfl ?_;(first|refine bu ?_|refine aZ ?_))
  refine WO.cn rfl ?_
  refine (E6 yX ll ((he.same iH.same).up (show nb≤aT by omega)) Fb (by omega)).of ?_
  rintro _ H2 nx2 ⟨rfl,bL,eW⟩
  have DH:=iH.frame (H2:=H2) (fun b hb=>bL b (by omega))
  have rK:=jf.frame (H':=H2) (nx':=nx2) (fun b _ hb=>bL b hb) eW
  have aaL:ak H2 (at_ cb)=some (.cells (c1.map (.int .i64))):=DH.ci
  obtain ⟨w,hw,hwn⟩:=qU hm (eI Fb)
  have O4:w < m:=by omega
  have DI:B7 es v w:=⟨q,Fb,VX,hw⟩
  rw [hw] at K6 ⊢
  have hwr:Old es s w∨Reach es s w:=by
   rcases uN.only v sj with h|h
   ·exact .inl (h.DG DI)
   ·exact .inr (.step h DI)
  have lJ:=List.getElem?_eq_getElem (show w < c1.length by omega)
  generalize c1[w]=x at lJ
  have AQ:=ay.cell lJ
  have hwc:w < (c1.map (Value.int .i64)).length:=by rw [List.length_map];omega
  repeat' (first|((first|refine WO.n rfl ?_|refine WO.k rfl ?_);(first|refine aK ?_|refine kg ?_|refine bu ?_|refine aZ ?_|refine gx ?_|refine fj ?_|(refine C9 (fun h=>?_) (fun h=>?_)<;>(try simp only [Int.ofNat_eq_natCast] at h))|refine bO ?_|refine JE ?_))|refine WO.dC rfl ?_|refine WO.nI rfl ?_|refine WO.P8 rfl ?_|with_reducible (first|refine WO.nil ?_|refine WC.aa ?_|refine WC.seq ?_|refine WC.skip ?_|refine WC.exit ?_)|refine WC.aB rfl ?_|refine WC.ax rfl ?_|with_reducible (first|refine aC ?_|refine dQ ?_|refine eh ?_|refine kf ?_))
  ·refine ⟨(k + 1,c1,fN,Rl),by show (di es (2 * es.length) v).length - (k + 1) < (di es (2 * es.length) v).length - k;omega,.cons rfl aW,by show k + 1≤_;omega,by omega,DH,rK,uN.skip ⟨x,lJ,by omega⟩ (fun _ _ h=>h.next K6.symm),sj,O5,dB⟩
  ·refine WO.n rfl ?_
   have Rn:=DH.mark (v:=w) (x:=((N:Nat):Int))
   have GR:=rK.frame (H':=aw H2 cb ((c1.map (Value.int .i64)).set (0 + w * 1) (.int .i64 (N:Int)))) (nx':=nx2) (fun b hb _=>by rw [ai,if_neg (by omega)]) (Nat.le_refl _)
   have V0:=GR.frame (H':=aw (aw H2 cb ((c1.map (Value.int .i64)).set (0 + w * 1) (.int .i64 (N:Int)))) nx2 [.int .i64 (w:Int)]) (nx':=nx2 + 1) (fun b _ hb=>by rw [ai,if_neg (by omega)]) (Nat.le_succ _)
   have hlf:=kL lJ (by omega) (show (0:Int)≤(N:Int) by omega)
   have K7:=uN.mark O4 (show (0:Int)≤(N:Int) by omega) hwr (P':=PK es v (k + 1)) (fun _ _ h=>h.next K6.symm)
   refine aH.O3 (lo:=nxo) rfl rfl Rd.self V0 (by omega) (by unfold small;omega) (by unfold small;omega) ?_
   intro Rp H3 nx3 mG SV V1
   have ps4:=Rn.frame (H2:=H3) (fun b hb=>by rw [V1 b hb,ai,if_neg (by omega)])
   repeat' (first|((first|refine WO.n rfl ?_|refine WO.k rfl ?_);(first|refine aK ?_|refine bO ?_))|with_reducible (first|refine WO.nil ?_|refine WC.aa ?_|refine aC ?_|refine eT ?_))
   refine ⟨(k + 1,c1.set w (N:Int),fN++[(w:Int)],Rp),by show (di es (2 * es.length) v).length - (k + 1) < (di es (2 * es.length) v).length - k;omega,.cons rfl aW,by show k + 1≤_;omega,by omega,ps4,SV,K7,(Mk.set (by omega) (by omega)).2 (.inr sj),O5.set lJ (by omega),?_⟩
   show 2 * left (c1.set w (N:Int)) + (fN++[(w:Int)]).length≤_
   rw [List.length_append]
   show _ + (fN.length + 1)≤_
   omega
 ·have:k=(di es (2 * es.length) v).length:=by omega
  subst this
  exact aN _ _ _ c1 fN Rl aW iH jf (uN.none fun _ _ h=>h.none) O5 dB hU
theorem aaX {n:Int} {m nb cb ob nxo s:Nat} {es:List Ed} {base:Option Addr} {ec cc oc N:Nat} {H0:Heap} {c0 c todo:List Int} {tv:Value} (yX:A.funcs 71=some HS) (ll:∀vs H nx,A.aF 71 vs H nx=none)
  (hm:jF n es) (fB:n=(m:Int)) (he:bS H0 nb 2 a5 (.slice base es.length ec) es) (hN:N≤1048576) (hs:s < m)
  (ps:PS H0 H nb cb ob nxo n (.slice base es.length ec) es m c) (st:mM H nxo nx tv todo) (hx:nxo≤nx) (iv:Inv es m s (fun _ _=>False) c todo) (vl:Vl c0 (N:Int) c) (hb:2 * left c + todo.length≤2 * m + 1)
  (aN:∀σ H' nx' c',bg [(S1,.slice none 0 0),(S2,.slice none 0 0),(S3,.pointer (some ⟨nb,0,none⟩)),(S8,.slice (some ⟨cb,0,some 1⟩) m cc),(S9,.int .i64 ((N:Nat):Int)),(dN,.slice (some ⟨ob,0,some 1⟩) m oc),(fE,.int .i64 ((s:Nat):Int))] σ→
   PS H0 H' nb cb ob nxo n (.slice base es.length ec) es m c'→Inv es m s (fun _ _=>False) c' []→Vl c0 (N:Int) c'→nx≤nx'→Q (.exit 2) σ H' nx') :
  WC A (.loop De) [(S1,.slice none 0 0),(S2,.slice none 0 0),(S3,.pointer (some ⟨nb,0,none⟩)),(S8,.slice (some ⟨cb,0,some 1⟩) m cc),(S9,.int .i64 ((N:Nat):Int)),(dN,.slice (some ⟨ob,0,some 1⟩) m oc),(fE,.int .i64 ((s:Nat):Int)),(iU,tv)] H nx Q:=by
 have cD:=hm.2.1
 refine WC.loop (α:=List Int×List Int×Value) (fun k=>[(S1,.slice none 0 0),(S2,.slice none 0 0),(S3,.pointer (some ⟨nb,0,none⟩)),(S8,.slice (some ⟨cb,0,some 1⟩) m cc),(S9,.int .i64 ((N:Nat):Int)),(dN,.slice (some ⟨ob,0,some 1⟩) m oc),(fE,.int .i64 ((s:Nat):Int)),(iU,k.2.2)])
  (fun k H' nx'=>nx≤nx'∧PS H0 H' nb cb ob nxo n (.slice base es.length ec) es m k.1∧mM H' nxo nx' k.2.2 k.2.1∧Inv es m s (fun _ _=>False) k.1 k.2.1∧Vl c0 (N:Int) k.1∧2 * left k.1 + k.2.1.length≤2 * m + 1) (fun k=>2 * left k.1 + k.2.1.length)
  ?_ (c,todo,tv) aW ⟨Nat.le_refl _,ps,st,iv,vl,hb⟩
 rintro ⟨c1,fN,Rl⟩ H1 aT ⟨hU,iH,jf,uN,O5,dB⟩
 simp only at iH jf uN O5 dB ⊢
 by_cases cy:fN=[]
 ·subst cy
  obtain ⟨b,tc,cs,rfl,_⟩:=jf
  unfold De
  repeat' (first|((first|refine WO.n rfl ?_|refine WO.k rfl ?_);(first|refine cM ?_|refine aZ ?_|(refine LQ (fun h=>?_) (fun h=>?_)<;>(try simp only [Int.ofNat_eq_natCast] at h))|refine Bb ?_))|with_reducible (first|refine WO.nil ?_|refine WC.aa ?_|refine WC.seq ?_|refine WC.skip ?_|refine WC.exit ?_|refine WC.block ?_)|refine WC.aB rfl ?_|refine WC.ax rfl ?_|with_reducible (first|refine aC ?_|refine dQ ?_))
  ·exact absurd h (by simp)
  exact aN _ _ _ c1 aW iH uN O5 hU
 ·obtain ⟨xs,x,rfl⟩:∃xs x,fN=xs++[x]:=⟨fN.dropLast,fN.getLast cy,(List.dropLast_concat_getLast cy).symm⟩
  obtain ⟨v,rfl,_,_⟩:=uN.Rk x (by simp)
  obtain ⟨K7,hv,K5⟩:=uN.pop
  obtain ⟨b,tc,cs,rfl,C3,hr,bC,rK⟩:=jf.last
  have hrR:Rd H1 b cs:=.inl hr
  have DJ:cs[0 + (xs.length + 1 - 1) * 1]?=some (.int .i64 (v:Int)):=bC
  rw [List.length_append] at dB
  have kl:2 * left c1 + (xs.length + 1)≤2 * m + 1:=dB
  unfold De
  repeat' (first|((first|refine WO.n rfl ?_|refine WO.k rfl ?_);(first|refine aK ?_|refine cM ?_|refine bu ?_|refine aZ ?_|refine Ba ?_|(refine LQ (fun h=>?_) (fun h=>?_)<;>(try simp only [Int.ofNat_eq_natCast] at h))|refine Bb ?_))|with_reducible (first|refine WO.nil ?_|refine WC.aa ?_|refine WC.seq ?_|refine WC.skip ?_|refine WC.exit ?_|refine WC.block ?_)|refine WC.aB rfl ?_|refine WC.ax rfl ?_|with_reducible (first|refine aC ?_|refine dQ ?_))
  ·refine WC.sub aW (aaW yX ll hm fB he hN hv hs K5 iH rK (by omega) K7 O5 (by omega) (fun σ H2 nx2 c2 uO Rp hσ DH GR Nw vl3 HT eW=>?_))
   refine eh (eT ⟨(c2,uO,Rp),?_,hσ,by omega,DH,GR,Nw,vl3,?_⟩)
   ·show 2 * left c2 + uO.length < 2 * left c1 + (xs++[(v:Int)]).length
    rw [List.length_append]
    show _ < _ + (xs.length + 1)
    omega
   ·show 2 * left c2 + uO.length≤2 * m + 1
    omega
  ·omega
theorem aaY {n:Int} {m nb cb ob nxo:Nat} {es:List Ed} {base:Option Addr} {ec cc oc:Nat} {H0:Heap} {c:List Int} (yX:A.funcs 71=some HS) (ll:∀vs H nx,A.aF 71 vs H nx=none)
  (hm:jF n es) (fB:n=(m:Int)) (he:bS H0 nb 2 a5 (.slice base es.length ec) es)
  (ps:PS H0 H nb cb ob nxo n (.slice base es.length ec) es m c) (hx:nxo≤nx) (hc:ln es m 0 c)
  (aN:∀σ H' nx' c',bg [(S8,.slice (some ⟨cb,0,some 1⟩) m cc),(S9,.int .i64 ((aE es m:Nat):Int))] σ→ay H' cb c'→ln es m m c'→an H0 H' nb→nx≤nx'→Q (.exit 0) σ H' nx') :
  WC A (.loop JX) [(S1,.slice none 0 0),(S2,.slice none 0 0),(S3,.pointer (some ⟨nb,0,none⟩)),(S8,.slice (some ⟨cb,0,some 1⟩) m cc),(S9,.int .i64 0),(dN,.slice (some ⟨ob,0,some 1⟩) m oc),(fE,.int .i64 0)] H nx Q:=by
 have cD:=hm.2.1
 refine WC.loop (α:=Nat×List Int) (fun k=>[(S1,.slice none 0 0),(S2,.slice none 0 0),(S3,.pointer (some ⟨nb,0,none⟩)),(S8,.slice (some ⟨cb,0,some 1⟩) m cc),(S9,.int .i64 ((aE es k.1:Nat):Int)),(dN,.slice (some ⟨ob,0,some 1⟩) m oc),(fE,.int .i64 ((k.1:Nat):Int))])
  (fun k H' nx'=>k.1≤m∧nx≤nx'∧PS H0 H' nb cb ob nxo n (.slice base es.length ec) es m k.2∧ln es m k.1 k.2) (fun k=>m - k.1)
  ?_ (0,c) aW ⟨Nat.zero_le _,Nat.le_refl _,ps,hc⟩
 rintro ⟨s,c1⟩ H1 aT ⟨hs,hU,iH,Hc⟩
 simp only at hs iH Hc ⊢
 have oy:=Hc.len
 have jT:=fun w hw=>Hc.marked (w:=w) hw
 have V2:=ed (es:=es) (k:=s)
 have o1:=iH.h1
 have o2:=iH.h2
 have o3:=iH.h3
 have eO:=iH.rd
 have Fe:ak H1 (at_ cb)=some (.cells (c1.map (.int .i64))):=iH.ci
 subst fB
 unfold JX
 repeat' (first|((first|refine WO.n rfl ?_|refine WO.k rfl ?_);(first|refine dD ?_|refine aJ ?_|refine aZ ?_|(refine ei (fun h=>?_) (fun h=>?_)<;>(try simp only [Int.ofNat_eq_natCast] at h))))|with_reducible (first|refine WO.nil ?_|refine WC.aa ?_|refine WC.seq ?_|refine WC.skip ?_|refine WC.exit ?_|refine WC.block ?_)|refine WC.aB rfl ?_|refine WC.ax rfl ?_|with_reducible (first|refine aC ?_|refine dQ ?_))
 ·have ml:s < m:=by omega
  have lJ:=List.getElem?_eq_getElem (show s < c1.length by omega)
  generalize c1[s]=x at lJ
  have AQ:=ay.cell lJ
  repeat' (first|((first|refine WO.n rfl ?_|refine WO.k rfl ?_);(first|refine aK ?_|refine kg ?_|refine bu ?_|refine aZ ?_|refine gx ?_|refine fj ?_|(refine C9 (fun h=>?_) (fun h=>?_)<;>(try simp only [Int.ofNat_eq_natCast] at h))|refine bO ?_|refine JE ?_))|refine WO.dC rfl ?_|refine WO.nI rfl ?_|refine WO.P8 rfl ?_|with_reducible (first|refine WO.nil ?_|refine WC.aa ?_|refine WC.seq ?_|refine WC.skip ?_|refine WC.exit ?_|refine WC.block ?_)|refine WC.aB rfl ?_|refine WC.ax rfl ?_|with_reducible (first|refine aC ?_|refine dQ ?_|refine eh ?_))
  ·have ho:Old es s s:=(jT s ml).1 ⟨x,lJ,by omega⟩
   refine ⟨(s + 1,c1),by show m - (s + 1) < m - s;omega,.cons rfl (.cons rfl (.cons rfl (.cons rfl (.cons ?_ (.cons rfl (.cons rfl (.nil _))))))),by show s + 1≤m;omega,by omega,iH,Hc.same ho⟩
   show some _=some _
   rw [fY ho]
  ·have iQ:¬Old es s s:=fun ho=>Mk.not lJ (by omega) ((jT s ml).2 ho)
   have hlf:=kL lJ (by omega) (show (0:Int)≤((aE es s:Nat):Int) by omega)
   have Ds:=Fc (c:=c1)
   have DH:=(iH.frame (H2:=aw H1 aT [.int .i64 (s:Int)]) (fun b hb=>by rw [ai,if_neg (by omega)])).mark (v:=s) (x:=((aE es s:Nat):Int))
   have rK:=(mM.one (H:=H1) (x:=(s:Int)) (show nxo≤aT by omega)).frame (H':=aw (aw H1 aT [.int .i64 (s:Int)]) cb ((c1.map (Value.int .i64)).set (0 + s * 1) (.int .i64 ((aE es s:Nat):Int)))) (nx':=aT + 1) (fun b hb _=>by rw [ai,if_neg (by omega)]) (Nat.le_refl _)
   have K7:=Inv.start (x:=((aE es s:Nat):Int)) hm rfl oy ml (by omega) jT
   refine WC.sub aW (aaX yX ll hm rfl he (by omega) ml DH rK (by omega) K7 (Vl.set (c0:=c1) (fun _=>.inl rfl) lJ (by omega)) (by show 2 * left _ + 1≤_;omega) (fun σ H3 nx3 c3 hσ Rn Nw vl3 mG=>?_))
   refine eh (aC (WC.sub hσ ?_))
   repeat' (first|((first|refine WO.n rfl ?_|refine WO.k rfl ?_);(first|refine aK ?_|refine bO ?_))|with_reducible (first|refine WO.nil ?_|refine WC.aa ?_|refine aC ?_|refine eT ?_))
   refine ⟨(s + 1,c3),by show m - (s + 1) < m - s;omega,.cons rfl (.cons rfl (.cons rfl (.cons rfl (.cons ?_ (.cons rfl (.cons rfl (.nil _))))))),by show s + 1≤m;omega,by omega,Rn,vl3.mP (n:=0) Hc iQ Nw.len (fun w hw=>Nw.done hm rfl ml hw)⟩
   show some _=some _
   rw [eJ iQ]
 ·have:s=m:=by omega
  subst this
  exact aN _ _ _ c1 aW iH.ci Hc iH.same hU
theorem y3 {f:FuncId} (hf:A.funcs f=some pI) (hh:∀vs H nx,A.aF f vs H nx=none) (yX:A.funcs 71=some HS) (ll:∀vs H nx,A.aF 71 vs H nx=none)
  (Rq:A.funcs 69=some qN) (DK:∀vs H nx,A.aF 69 vs H nx=none) (Rr:A.funcs 70=some xe) (DL:∀vs H nx,A.aF 70 vs H nx=none)
  (yS:A.funcs 60=some mF) (lh:∀vs H nx,A.aF 60 vs H nx=none)
  {n:Int} {m:Nat} {ev:Value} {es:List Ed} (hm:jF n es) (fB:n=(m:Int)) (he:bS H nx 2 a5 ev es) :
  WF A f [.agg #[.int .i64 n,ev],.slice none 0 0,.slice none 0 0] H nx fun v H' nx'=>∃b bc c,v=oneOf [.slice (some ⟨b,0,some 1⟩) m bc,.int .i64 ((aE es m:Nat):Int)]∧m≤au bc∧nx≤b∧b < nx'∧ay H' b c∧ln es m m c∧an H H' nx∧nx≤nx':=by
 obtain ⟨base,ec,rfl⟩:=he.form
 have cD:=hm.2.1
 subst fB
 refine WF.enter (hh _ _ _) hf ?_
 repeat' (first|((first|refine WO.n rfl ?_|refine WO.k rfl ?_);(first|refine aK ?_|refine dD ?_|refine jN ?_|refine aJ ?_))|with_reducible (first|refine WO.nil ?_|refine WC.aa ?_|refine WC.seq ?_|refine aC ?_))
 have bM:an H (aw H nx [.int .i64 (m:Int),.slice base es.length ec]) nx:=an.refl.set (Nat.le_refl _)
 refine WO.cn rfl ?_
 refine (uL Rq DK (m:=m) (x:=-1) (by omega)).of ?_
 rintro _ H1 aT ⟨cb,cc,rfl,ss,K8,DM,Fe,a7⟩
 have bp:an H H1 nx:=bM.trans a7 (by omega)
 have dB:Rd H1 nx [.int .i64 (m:Int),.slice base es.length ec]:=a7.rd (by omega) Rd.self
 repeat' (first|((first|refine WO.n rfl ?_|refine WO.k rfl ?_);(first|refine aK ?_|refine aJ ?_))|with_reducible (first|refine WO.nil ?_|refine WC.aa ?_|refine WC.seq ?_|refine aC ?_))
 refine WO.cn rfl ?_
 refine (xr Rr DL yS lh hm rfl ((he.same bp).up (by omega))).of ?_
 rintro _ H2 nx2 ⟨ob,oc,rfl,JJ,Rs,K9,hg,bL,eW⟩
 repeat' (first|(refine WO.k rfl ?_;refine aK ?_)|with_reducible (first|refine WO.nil ?_|refine WC.aa ?_|refine WC.seq ?_|refine WC.block ?_|refine aC ?_))
 refine WC.sub aW (aaY (nb:=nx) (cb:=cb) (ob:=ob) (nxo:=nx2) (c:=List.replicate m (-1)) yX ll hm rfl he ⟨bp.trans bL (by omega),bL.rd (by omega) dB,hg,(bL cb DM).trans Fe,by omega,by omega,K9⟩ (Nat.le_refl _) ln.start (fun σ H3 nx3 c3 hσ sQ lb3 fH mG=>?_))
 refine eh (aC (WC.sub hσ ?_))
 repeat' (first|(refine WO.k rfl ?_;refine aK ?_)|with_reducible (first|refine WO.nil ?_|refine WC.aa ?_|refine WC.seq ?_|refine WC.ret ?_|refine aC ?_))
 exact az (vs:=[_,_]) rfl ⟨cb,cc,c3,rfl,ss,by omega,by omega,sQ,lb3,fH,by omega⟩
end Go.Eng

namespace Go.Eng
def pP (l:List Int):Nat:=l.findIdx fun x=>decide (∀y∈l,x≤y)
def gP (l:List Int):List Int:=l.drop (pP l)++l.take (pP l)
def gI (r:List (List Int)):List (List Int):=r.map gP
theorem uR {l:List Int} {i:Nat} {x:Int} (hi:l[i]?=some x) (h1:∀y∈l,x≤y) (h2:∀j y,j < i→l[j]?=some y→x < y):pP l=i:=by
 obtain ⟨cf,hx⟩:=List.getElem?_eq_some_iff.1 hi
 unfold pP
 rw [List.findIdx_eq cf]
 refine ⟨by rw [hx];exact decide_eq_true h1,fun j hj=>?_⟩
 refine decide_eq_false fun h=>?_
 have Fw:j < l.length:=by omega
 have:=h2 j _ hj (List.getElem?_eq_getElem Fw)
 have:=h _ (List.mem_of_getElem? hi)
 omega
theorem m7 (l:List Int):(gP l).Perm l:=by
 unfold gP
 exact List.perm_append_comm.trans (by rw [List.take_append_drop])
theorem BJ (l:List Int):(gP l).length=l.length:=(m7 l).length_eq
theorem Wa:gP []=[]:=rfl
theorem qV (r:List (List Int)):(gI r).length=r.length:=by unfold gI;simp
theorem uS (r:List (List Int)) (v:Nat):(gI r).getD v []=gP (r.getD v []):=by
 unfold gI
 rw [List.getD_eq_getElem?_getD,List.getD_eq_getElem?_getD,List.getElem?_map]
 cases r[v]?<;>rfl
def fm (l:List Int) (h:Int):List Int:=match l with
 | []=>[h]
 | x::t=>x::h::t
def cg (l:List Int):Int:=match l with
 | []=>-1
 | x::_=>x
theorem xw (l:List Int) (h:Int):(fm l h).Perm (l++[h]):=by
 cases l with
 | nil=>exact .refl _
 | cons x t=>exact .cons x (List.perm_append_comm (l₁:=[h]) (l₂:=t))
theorem BK (l:List Int) (h:Int):(fm l h).length=l.length + 1:=by cases l<;>rfl
def gJ (r:List (List Int)) (v:Nat) (h:Int):List (List Int):=r.set v (fm (r.getD v []) h)
theorem dx (r:List (List Int)) (v:Nat) (h:Int):(gJ r v h).length=r.length:=by unfold gJ;simp
theorem lp {r:List (List Int)} {v u:Nat} {h:Int} (hv:v < r.length):(gJ r v h).getD u []=if u=v then fm (r.getD v []) h else r.getD u []:=by
 unfold gJ
 rw [List.getD_eq_getElem?_getD,List.getElem?_set]
 by_cases e:v=u
 ·subst e
  rw [if_pos rfl,if_pos hv,if_pos rfl];rfl
 ·rw [if_neg e,if_neg (fun h=>e h.symm),List.getD_eq_getElem?_getD]
def uT (m:Nat) (r:List (List Int)) (v w:Nat):List (List Int):=gI (gJ (gJ r v ((2 * m:Nat):Int)) w ((2 * m + 1:Nat):Int))
theorem pQ (m:Nat) (r:List (List Int)) (v w:Nat):(uT m r v w).length=r.length:=by unfold uT;rw [qV,dx,dx]
theorem uU {r r':List (List Int)}:∀{w:Nat},(∀v,v < w→(r'.getD v []).Perm (r.getD v []))→(dZ r' w).Perm (dZ r w):=by
 intro w
 induction w with
 | zero=>intro _;exact .refl _
 | succ w ih=>
  intro h
  rw [dM,dM]
  refine (ih fun v hv=>h v (by omega)).append ?_
  unfold rowP
  rw [List.take_length,List.take_length]
  exact (h w (by omega)).map _
theorem Lf {r r':List (List Int)}:∀{w:Nat},(∀v,v < w→r'.getD v []=r.getD v [])→dZ r' w=dZ r w:=by
 intro w
 induction w with
 | zero=>intro _;rfl
 | succ w ih=>
  intro h
  rw [dM,dM,ih fun v hv=>h v (by omega)]
  unfold rowP
  rw [h w (by omega)]
theorem Fh {r r':List (List Int)} {v:Nat} {h:Int} (h1:∀u,u≠v→r'.getD u []=r.getD u []) (h2:(r'.getD v []).Perm (r.getD v []++[h])):∀{w:Nat},v < w→(dZ r' w).Perm (dZ r w++[(v,h)]):=by
 intro w
 induction w with
 | zero=>intro hv;omega
 | succ w ih=>
  intro hv
  rw [dM,dM]
  by_cases e:w=v
  ·subst e
   rw [Lf (r:=r) (r':=r') (fun u hu=>h1 u (by omega)),List.append_assoc]
   refine (List.Perm.refl _).append ?_
   unfold rowP
   rw [List.take_length,List.take_length]
   have:=h2.map fun h=>(w,h)
   rwa [List.map_append] at this
  ·have e2:rowP r' w (r'.getD w []).length=rowP r w (r.getD w []).length:=by unfold rowP;rw [h1 w e]
   rw [e2]
   refine ((ih (by omega)).append (.refl _)).trans ?_
   rw [List.append_assoc,List.append_assoc]
   exact (List.Perm.refl _).append List.perm_append_comm
theorem Hd {es:List Ed}:∀{xs:List (Nat×Int)} {s0:List Bool},(∀x∈xs,0≤x.2∧x.2 < (s0.length:Int)∧cq es x.2.toNat=x.1∧s0[x.2.toNat]?=some false)→xs.Pairwise (fun x y=>x.2≠y.2)→∃s,xs.foldl (fF es) (some s0)=some s:=by
 intro xs
 induction xs with
 | nil=>intro s0 _ _;exact ⟨s0,rfl⟩
 | cons x xs ih=>
  intro s0 h hp
  obtain ⟨h1,h2,h3,h4⟩:=h x (by simp)
  obtain ⟨p1,p2⟩:=List.pairwise_cons.1 hp
  have hb:bad es s0 x=false:=yP h1 h2 (by rw [List.getD_eq_getElem?_getD,h4];rfl) h3
  have e:fF es (some s0) x=some (s0.set x.2.toNat true):=by
   show (if bad es s0 x then none else _)=_
   rw [hb];rfl
  rw [List.foldl_cons,e]
  refine ih (fun y hy=>?_) p2
  obtain ⟨g1,g2,g3,g4⟩:=h y (by simp [hy])
  refine ⟨g1,by simpa using g2,g3,?_⟩
  rw [List.getElem?_set,if_neg (fun e=>p1 y hy (by omega))]
  exact g4
def Rz (es:List Ed) (x:Nat×Int):Prop:=0≤x.2∧x.2 < ((2 * es.length:Nat):Int)∧cq es x.2.toNat=x.1
theorem Lg {n:Int} {es:List Ed} {r:List (List Int)} (hm:jF n es) (hl:(r.length:Int)=n) (h1:∀x∈dZ r r.length,Rz es x) (h2:(dZ r r.length).Pairwise fun x y=>x.2≠y.2) (h3:(dZ r r.length).length=2 * es.length):aQ n es r=0:=by
 obtain ⟨s,hs⟩:=Hd (es:=es) (xs:=dZ r r.length) (s0:=iw es) (fun x hx=>by
  obtain ⟨g1,g2,g3⟩:=h1 x hx
  refine ⟨g1,by unfold iw;rw [List.length_replicate];exact g2,g3,?_⟩
  unfold iw
  rw [List.getElem?_replicate,if_pos (by omega)]) h2
 unfold aQ
 rw [if_pos hm,if_pos hl]
 have:e9 es (dZ r r.length)=some s:=hs
 rw [this]
 show (if _ then _ else _)=_
 rw [if_pos h3]
theorem dU {n:Int} {es:List Ed} {r:List (List Int)} (h:aQ n es r=0):jF n es∧(r.length:Int)=n∧(∀x∈dZ r r.length,Rz es x)∧((dZ r r.length).Pairwise fun x y=>x.2≠y.2)∧(dZ r r.length).length=2 * es.length:=by
 unfold aQ at h
 split at h
 case isFalse=>omega
 rename_i hm
 split at h
 case isFalse=>omega
 rename_i hl
 split at h
 ·omega
 ·rename_i s hf
  split at h
  case isFalse=>omega
  rename_i hc
  obtain ⟨f1,f2,f3⟩:=uD hf
  have h0:(iw es).length=2 * es.length:=by simp [iw]
  exact ⟨hm,hl,fun x hx=>by obtain ⟨g1,g2,g3,_⟩:=f1 x hx;exact ⟨g1,by rw [h0] at g2;exact g2,g3⟩,f2,hc⟩
theorem BL {n:Int} {es:List Ed} {r r':List (List Int)} (h:aQ n es r=0) (hl:r'.length=r.length) (hp:(dZ r' r.length).Perm (dZ r r.length)):aQ n es r'=0:=by
 obtain ⟨h1,h2,h3,h4,h5⟩:=dU h
 have e:dZ r' r'.length=dZ r' r.length:=by rw [hl]
 refine Lg h1 (by omega) ?_ ?_ ?_
 ·rw [e];exact fun x hx=>h3 x (hp.mem_iff.1 hx)
 ·rw [e];exact (hp.pairwise_iff (fun h=>h.symm)).2 h4
 ·rw [e,hp.length_eq,h5]
theorem xx {n:Int} {es:List Ed} {r:List (List Int)} (h:aQ n es r=0):aQ n es (gI r)=0:=
 BL h (qV r) (uU fun v _=>by rw [uS];exact m7 _)
theorem qW {es:List Ed} {e:Ed} {h:Nat} (hh:h < 2 * es.length):cq (es++[e]) h=cq es h:=by
 unfold cq
 rw [List.getD_eq_getElem?_getD,List.getElem?_append_left (by omega),← List.getD_eq_getElem?_getD]
theorem oA {es:List Ed} {e:Ed}:cq (es++[e]) (2 * es.length)=e.1:=by
 unfold cq
 rw [if_pos (by omega),List.getD_eq_getElem?_getD,show 2 * es.length / 2=es.length by omega,List.getElem?_append_right (Nat.le_refl _),Nat.sub_self];rfl
theorem oB {es:List Ed} {e:Ed}:cq (es++[e]) (2 * es.length + 1)=e.2:=by
 unfold cq
 rw [if_neg (by omega),List.getD_eq_getElem?_getD,show (2 * es.length + 1) / 2=es.length by omega,List.getElem?_append_right (Nat.le_refl _),Nat.sub_self];rfl
theorem Fi {n:Int} {es:List Ed} {v w:Nat} (hm:jF n es) (hv:(v:Int) < n) (hw:(w:Int) < n) (dP:es.length < 3072):jF n (es++[((v:Int),(w:Int))]):=by
 obtain ⟨h1,h2,h3,h4⟩:=hm
 refine ⟨h1,h2,by rw [List.length_append];show es.length + 1≤3072;omega,fun e he=>?_⟩
 rcases List.mem_append.1 he with he|he
 ·exact h4 e he
 ·rw [List.mem_singleton] at he
  subst he
  unfold vV
  simp only
  omega
theorem NC {r:List (List Int)} {v w:Nat} {a b:Int} (hv:v < r.length) (hw:w < r.length):(dZ (gI (gJ (gJ r v a) w b)) r.length).Perm (dZ r r.length++[(v,a),(w,b)]):=by
 have p1:(dZ (gI (gJ (gJ r v a) w b)) r.length).Perm (dZ (gJ (gJ r v a) w b) r.length):=uU fun u _=>by rw [uS];exact m7 _
 have p2:(dZ (gJ (gJ r v a) w b) r.length).Perm (dZ (gJ r v a) r.length++[(w,b)]):=
  Fh (fun u hu=>by rw [lp (by rw [dx];exact hw),if_neg hu]) (by rw [lp (by rw [dx];exact hw),if_pos rfl];exact xw _ _) hw
 have p3:(dZ (gJ r v a) r.length).Perm (dZ r r.length++[(v,a)]):=
  Fh (fun u hu=>by rw [lp hv,if_neg hu]) (by rw [lp hv,if_pos rfl];exact xw _ _) hv
 refine p1.trans (p2.trans ((p3.append (.refl _)).trans ?_))
 rw [List.append_assoc]
 exact .refl _
theorem Fj {n:Int} {es:List Ed} {r:List (List Int)} {v w:Nat} (h:aQ n es r=0) (hv:(v:Int) < n) (hw:(w:Int) < n) (dP:es.length < 3072):aQ n (es++[((v:Int),(w:Int))]) (uT es.length r v w)=0:=by
 obtain ⟨h1,h2,h3,h4,h5⟩:=dU h
 have hp:=NC (r:=r) (v:=v) (w:=w) (a:=((2 * es.length:Nat):Int)) (b:=((2 * es.length + 1:Nat):Int)) (by omega) (by omega)
 have hl:(uT es.length r v w).length=r.length:=pQ _ _ _ _
 have A4:(es++[((v:Int),(w:Int))]).length=es.length + 1:=by rw [List.length_append];rfl
 have e:dZ (uT es.length r v w) (uT es.length r v w).length=dZ (gI (gJ (gJ r v ((2 * es.length:Nat):Int)) w ((2 * es.length + 1:Nat):Int))) r.length:=by rw [hl];rfl
 refine Lg (Fi h1 hv hw dP) (by omega) ?_ ?_ ?_
 ·rw [e]
  intro x hx
  have hx:=hp.mem_iff.1 hx
  unfold Rz
  rw [A4]
  rcases List.mem_append.1 hx with hx|hx
  ·obtain ⟨g1,g2,g3⟩:=h3 x hx
   exact ⟨g1,by omega,by rw [qW (by omega)];exact g3⟩
  ·simp only [List.mem_cons,List.not_mem_nil,or_false] at hx
   rcases hx with rfl|rfl
   ·refine ⟨by show (0:Int)≤((2 * es.length:Nat):Int);omega,by show ((2 * es.length:Nat):Int) < _;omega,?_⟩
    show cq _ ((2 * es.length:Nat):Int).toNat=_
    rw [Int.toNat_natCast,oA]
   ·refine ⟨by show (0:Int)≤((2 * es.length + 1:Nat):Int);omega,by show ((2 * es.length + 1:Nat):Int) < _;omega,?_⟩
    show cq _ ((2 * es.length + 1:Nat):Int).toNat=_
    rw [Int.toNat_natCast,oB]
 ·rw [e]
  refine (hp.pairwise_iff (fun h=>h.symm)).2 ?_
  rw [List.pairwise_append]
  refine ⟨h4,?_,fun x hx y hy=>?_⟩
  ·refine .cons (fun y hy=>?_) (.cons (fun y hy=>by cases hy) .nil)
   rw [List.mem_singleton] at hy
   subst hy
   show ((2 * es.length:Nat):Int)≠((2 * es.length + 1:Nat):Int)
   omega
  ·obtain ⟨g1,g2,g3⟩:=h3 x hx
   simp only [List.mem_cons,List.not_mem_nil,or_false] at hy
   rcases hy with rfl|rfl
   ·show x.2≠((2 * es.length:Nat):Int);omega
   ·show x.2≠((2 * es.length + 1:Nat):Int);omega
 ·rw [e,hp.length_eq,List.length_append,h5,A4]
  show 2 * es.length + 2=_
  omega
theorem ND {es:List Ed} {v w a b:Nat} (h:B7 (es++[((v:Int),(w:Int))]) a b):B7 es a b∨(a=v∧b=w)∨(a=w∧b=v):=by
 obtain ⟨q,h1,h2,h3⟩:=h
 have A4:(es++[((v:Int),(w:Int))]).length=es.length + 1:=by rw [List.length_append];rfl
 rw [A4] at h1
 by_cases hq:q < 2 * es.length
 ·rw [qW hq] at h2
  rw [qW (eI hq)] at h3
  exact .inl ⟨q,hq,h2,h3⟩
 ·rcases (show q=2 * es.length∨q=2 * es.length + 1 by omega) with rfl|rfl
  ·rw [show da (2 * es.length)=2 * es.length + 1 by rw [sM];omega,oB] at h3
   rw [oA] at h2
   simp only at h2 h3
   exact .inr (.inl ⟨by omega,by omega⟩)
  ·rw [show da (2 * es.length + 1)=2 * es.length by rw [sM];omega,oA] at h3
   rw [oB] at h2
   simp only at h2 h3
   exact .inr (.inr ⟨by omega,by omega⟩)
def vZ (es:List Ed) (P:Nat→Prop):Prop:=∀a b,P a→B7 es a b→P b
theorem vZ.reach {es:List Ed} {P:Nat→Prop} (h:vZ es P) {a b:Nat} (ha:P a) (hr:Reach es a b):P b:=by
 induction hr with
 | here=>exact ha
 | step _ qg ih=>exact h _ _ ih qg
theorem vZ.app {es:List Ed} {P:Nat→Prop} {v w:Nat} (h:vZ es P) (hv:P v) (hw:P w):vZ (es++[((v:Int),(w:Int))]) P:=by
 intro a b ha qg
 rcases ND qg with h1|⟨rfl,rfl⟩|⟨rfl,rfl⟩
 ·exact h a b ha h1
 ·exact hw
 ·exact hv
theorem uV {es:List Ed} {a b:Nat} (h:a≤b):aE es a≤aE es b:=by
 induction b with
 | zero=>
   obtain rfl:a=0:=by omega
   exact Nat.le_refl _
 | succ b ih=>
  rcases (show a≤b∨a=b + 1 by omega) with h1|rfl
  ·have:=ih h1
   by_cases ho:Old es b b
   ·rw [fY ho];exact this
   ·rw [eJ ho];omega
  ·exact Nat.le_refl _
theorem DP {es:List Ed} {a b:Nat} (ha:¬Old es a a) (hb:¬Old es b b) (h:aE es a=aE es b):a=b:=by
 rcases Nat.lt_trichotomy a b with e|e|e
 ·have:=uV (es:=es) (show a + 1≤b by omega)
  rw [eJ ha] at this
  omega
 ·exact e
 ·have:=uV (es:=es) (show b + 1≤a by omega)
  rw [eJ hb] at this
  omega
theorem He {es:List Ed} {i:Nat}:∀{k:Nat},i < aE es k→∃r,r < k∧¬Old es r r∧aE es r=i:=by
 intro k
 induction k with
 | zero=>intro h;exact absurd h (by show ¬i < 0;omega)
 | succ k ih=>
  intro h
  by_cases ho:Old es k k
  ·rw [fY ho] at h
   obtain ⟨r,h1,h2⟩:=ih h
   exact ⟨r,by omega,h2⟩
  ·rw [eJ ho] at h
   by_cases e:i=aE es k
   ·exact ⟨k,by omega,ho,e.symm⟩
   ·obtain ⟨r,h1,h2⟩:=ih (by omega)
    exact ⟨r,by omega,h2⟩
theorem ln.root {es:List Ed} {m:Nat} {c:List Int} (h:ln es m m c) {a:Nat} (ha:a < m):∃r,r < m∧¬Old es r r∧Reach es r a∧c[a]?=some ((aE es r:Nat):Int):=by
 obtain ⟨r,h1,h2,h3⟩:=Old.root (es:=es) (k:=m) (w:=a) ⟨a,ha,.here⟩
 exact ⟨r,h1,h2,h3,h.old ha h1 h2 h3⟩
theorem ln.apart {es:List Ed} {m:Nat} {c:List Int} (h:ln es m m c) {a b:Nat} {x y:Int} (ha:c[a]?=some x) (hb:c[b]?=some y) (hr:¬Reach es a b):x≠y:=by
 have Ml:a < m:=by have:=(List.getElem?_eq_some_iff.1 ha).1;rw [h.len] at this;exact this
 have rZ:b < m:=by have:=(List.getElem?_eq_some_iff.1 hb).1;rw [h.len] at this;exact this
 obtain ⟨r,h1,h2,h3,h4⟩:=h.root Ml
 obtain ⟨s,g1,g2,g3,g4⟩:=h.root rZ
 rw [h4] at ha
 rw [g4] at hb
 cases ha;cases hb
 intro e
 have:r=s:=DP h2 g2 (by omega)
 subst this
 exact hr (h3.symm.trans g3)
theorem ln.shut {n:Int} {es:List Ed} {m:Nat} {c:List Int} (hm:jF n es) (fB:n=(m:Int)) (h:ln es m m c) (i:Int):vZ es fun u=>∃x,c[u]?=some x∧x < i:=by
 rintro a b ⟨x,hx,hxi⟩ qg
 have Ml:a < m:=by have:=(List.getElem?_eq_some_iff.1 hx).1;rw [h.len] at this;exact this
 obtain ⟨r,h1,h2,h3,h4⟩:=h.root Ml
 rw [h4] at hx
 cases hx
 have rZ:b < m:=by
  obtain ⟨q,q1,q2,q3⟩:=qg
  have q4:da q / 2 < es.length:=by have:=eI q1;omega
  have:=hm.2.2.2 es[da q / 2] (List.getElem_mem q4)
  unfold cq at q3
  rw [List.getD_eq_getElem?_getD,List.getElem?_eq_getElem q4] at q3
  unfold vV at this
  simp only [Option.getD_some] at q3
  split at q3<;>omega
 exact ⟨_,h.old rZ h1 h2 (.step h3 qg),hxi⟩
def fg (c:List Int) (i:Nat):Nat:=c.findIdx fun x=>decide (x=(i:Int))
theorem xy {c:List Int} {i k:Nat} (h1:c[k]?=some (i:Int)) (h2:∀j,j < k→c[j]?≠some (i:Int)):fg c i=k:=by
 obtain ⟨cf,hx⟩:=List.getElem?_eq_some_iff.1 h1
 unfold fg
 rw [List.findIdx_eq cf]
 refine ⟨by rw [hx];exact decide_eq_true rfl,fun j hj=>decide_eq_false fun e=>?_⟩
 exact h2 j hj (by rw [List.getElem?_eq_getElem (by omega),e])
theorem hY {c:List Int} {i:Nat} (h:(i:Int)∈c):fg c i < c.length∧c[fg c i]?=some (i:Int):=by
 have cf:fg c i < c.length:=List.findIdx_lt_length_of_exists ⟨_,h,decide_eq_true rfl⟩
 refine ⟨cf,?_⟩
 have:=List.findIdx_getElem (w:=cf)
 rw [List.getElem?_eq_getElem cf]
 exact congrArg some (of_decide_eq_true this)
def iI (c:List Int) (es:List Ed):Nat→List Ed
 | 0=>es
 | k + 1=>iI c es k++[(((0:Nat):Int),((fg c (k + 1):Nat):Int))]
def lK (c:List Int) (es:List Ed) (r:List (List Int)):Nat→List (List Int)
 | 0=>gI r
 | k + 1=>uT (iI c es k).length (lK c es r k) 0 (fg c (k + 1))
theorem jh (c:List Int) (es:List Ed) (k:Nat):(iI c es k).length=es.length + k:=by
 induction k with
 | zero=>rfl
 | succ k ih=>unfold iI;rw [List.length_append,ih];rfl
theorem ee (c:List Int) (es:List Ed) (r:List (List Int)) (k:Nat):(lK c es r k).length=r.length:=by
 induction k with
 | zero=>exact qV r
 | succ k ih=>unfold lK;rw [pQ,ih]
structure Fk (n:Int) (m:Nat) (c:List Int) (es:List Ed) (r:List (List Int)) (k:Nat):Prop where
 RA:aQ n (iI c es k) (lK c es r k)=0
 shut:vZ (iI c es k) fun u=>∃x,c[u]?=some x∧x < ((k + 1:Nat):Int)
theorem mQ {n:Int} {m:Nat} {c:List Int} {es:List Ed} (hm:jF n es) (fB:n=(m:Int)) (h:ln es m m c) {i:Nat} (hi:i < aE es m):(i:Int)∈c:=by
 obtain ⟨r,h1,h2,h3⟩:=He hi
 have:=h.old h1 h1 h2 .here
 rw [h3] at this
 exact List.mem_of_getElem? this
theorem DQ {n:Int} {m:Nat} {c:List Int} {es:List Ed} {r:List (List Int)} (h0:aQ n es r=0) (fB:n=(m:Int)) (h:ln es m m c) (dP:es.length + aE es m < 3072):∀{k:Nat},k < aE es m→Fk n m c es r k:=by
 have hm:=(dU h0).1
 intro k
 induction k with
 | zero=>intro _;exact ⟨xx h0,h.shut hm fB _⟩
 | succ k ih=>
  intro hk
  have g:=ih (by omega)
  obtain ⟨n1,n2⟩:=hY (mQ hm fB h (show 0 < aE es m by omega))
  obtain ⟨m1,m2⟩:=hY (mQ hm fB h hk)
  rw [h.len] at n1 m1
  have z0:c[0]?=some 0:=by
   have:=h.old (w:=0) (r:=0) (by omega) (by omega) Old.zero .here
   exact this
  refine ⟨Fj g.RA (by omega) (by omega) (by rw [jh];omega),?_⟩
  refine vZ.app (fun a b ⟨x,hx,hxi⟩ qg=>?_) ⟨0,z0,by omega⟩ ⟨_,m2,by omega⟩
  have key:∀j,j≤k→vZ (iI c es j) fun u=>∃x,c[u]?=some x∧x < ((k + 1 + 1:Nat):Int):=by
   intro j
   induction j with
   | zero=>intro _;exact h.shut hm fB _
   | succ j ihj=>
    intro hj
    obtain ⟨_,p2⟩:=hY (mQ hm fB h (show j + 1 < aE es m by omega))
    exact vZ.app (ihj (by omega)) ⟨0,z0,by omega⟩ ⟨_,p2,by omega⟩
  exact key k (Nat.le_refl _) a b ⟨x,hx,hxi⟩ qg
theorem Fk.apart {n:Int} {m:Nat} {c:List Int} {es:List Ed} {r:List (List Int)} {k:Nat} (g:Fk n m c es r k) (z0:c[0]?=some 0) (hk:((k + 1:Nat):Int)∈c):¬Reach (iI c es k) 0 (fg c (k + 1)):=by
 intro hr
 obtain ⟨x,hx,cf⟩:=g.shut.reach ⟨0,z0,by omega⟩ hr
 obtain ⟨_,h2⟩:=hY hk
 rw [h2] at hx
 cases hx
 omega
end Go.Eng

namespace Go.Eng
variable {A:aG} {H H':Heap} {nx nx':Nat} {σ:aP} {L:List Value} {Q:ct}
def mi (l:List Int):List Value:=l.map (Value.int .i64)
theorem lq (l:List Int):l.flatMap bq=mi l:=by
 induction l with
 | nil=>rfl
 | cons x l ih=>rw [List.flatMap_cons,ih];rfl
theorem Lh (l:List Int):br (mi l)=true:=by
 induction l with
 | nil=>rfl
 | cons x l ih=>exact ih
theorem uW (l:List Int):(mi l).length=l.length:=by unfold mi;rw [List.length_map]
theorem m8 (l:List (Int×Int)):br (l.flatMap a5)=true:=by
 induction l with
 | nil=>rfl
 | cons x l ih=>exact ih
theorem mR (l:List (Int×Int)):(l.flatMap a5).length=l.length * 2:=by
 induction l with
 | nil=>rfl
 | cons x l ih=>rw [List.flatMap_cons,List.length_append,ih,List.length_cons,Nat.succ_mul];show 2 + _=_;omega
def lV (H:Heap) (lo nx b:Nat) (u:Value) (l:List Int):Prop:=
 (u=.slice none 0 0∧l=[])∨∃d c,u=.slice (some ⟨d,0,some 1⟩) l.length c∧0 < l.length∧l.length≤au c∧au c≤9223372036854775807∧lo≤d∧d < nx∧d≠b∧ak H (at_ d)=some (.cells (mi l))
structure dR (H:Heap) (lo nx b:Nat) (us:List Value) (r:List (List Int)):Prop where
 h1:lo≤b
 h2:b < nx
 cells:ak H (at_ b)=some (.cells us)
 len:us.length=r.length
 row:∀(i:Nat) (u:Value) (l:List Int),us[i]?=some u→r[i]?=some l→lV H lo nx b u l
 inj:∀(i j:Nat) (u w:Value) (d:Nat),us[i]?=some u→us[j]?=some w→bj u=some d→bj w=some d→i=j
theorem lV.blk {lo b:Nat} {u:Value} {l:List Int} (h:lV H lo nx b u l) {d:Nat} (hd:bj u=some d):lo≤d∧d < nx∧d≠b:=by
 rcases h with ⟨rfl,_⟩|⟨e,c,rfl,_,_,_,h1,h2,h3,_⟩
 ·cases hd
 ·cases hd;exact ⟨h1,h2,h3⟩
theorem lV.frame {lo b:Nat} {u:Value} {l:List Int} (h:lV H lo nx b u l) (hs:∀d,lo≤d→d < nx→bj u=some d→ak H' (at_ d)=ak H (at_ d)) (hn:nx≤nx'):lV H' lo nx' b u l:=by
 rcases h with h|⟨e,c,rfl,g1,g2,g3,h1,h2,h3,h4⟩
 ·exact .inl h
 ·exact .inr ⟨e,c,rfl,g1,g2,g3,h1,by omega,h3,(hs e h1 h2 rfl).trans h4⟩
theorem lV.sle {lo b:Nat} {u:Value} {l:List Int} (h:lV H lo nx b u l):bS H nx 1 bq u l:=by
 rcases h with ⟨rfl,rfl⟩|⟨e,c,rfl,g1,g2,g3,h1,h2,h3,h4⟩
 ·exact .nil
 ·exact .pre (rest:=[]) (.inl (by rw [lq,List.append_nil];exact h4)) h2 g2 (fun _=>rfl)
theorem lV.form {lo b:Nat} {u:Value} {l:List Int} (h:lV H lo nx b u l):∃a c,u=.slice a l.length c:=h.sle.form
def GN (H:Heap) (nx0 nx:Nat) (v:Value) (l:List Int):Prop:=
 (v=.slice none 0 0∧l=[])∨∃d,v=.slice (some ⟨d,0,some 1⟩) l.length (2 * l.length)∧0 < l.length∧nx0≤d∧d < nx∧ak H (at_ d)=some (.cells (mi l))
theorem GN.nil {nx0:Nat}:GN H nx0 nx (.slice none 0 0) []:=.inl ⟨rfl,rfl⟩
theorem GN.Wb {nx0:Nat} {v:Value} {l:List Int} (h:GN H nx0 nx v l):bA H nx0 nx 1 v l.length (mi l):=by
 refine ⟨by rw [uW];omega,?_⟩
 rcases h with ⟨rfl,rfl⟩|⟨d,rfl,_,h1,h2,h3⟩
 ·exact .inl ⟨rfl,rfl⟩
 ·exact .inr ⟨d,rfl,h1,h2,h3⟩
theorem GN.row {nx0 lo b:Nat} {v:Value} {l:List Int} (h:GN H nx0 nx v l) (h1:lo≤nx0) (h2:b < nx0) (hm:l.length≤4194304):lV H lo nx b v l:=by
 rcases h with h|⟨d,rfl,g0,g1,g2,g3⟩
 ·exact .inl h
 ·exact .inr ⟨d,_,rfl,g0,by rw [bK];exact Nat.le_refl _,by rw [bK];omega,by omega,g2,by omega,g3⟩
theorem GN.form {nx0:Nat} {v:Value} {l:List Int} (h:GN H nx0 nx v l):∃a c,v=.slice a l.length c:=by
 rcases h with ⟨rfl,rfl⟩|⟨d,rfl,_⟩
 ·exact ⟨_,_,rfl⟩
 ·exact ⟨_,_,rfl⟩
theorem GN.blk {nx0 d:Nat} {v:Value} {l:List Int} (h:GN H nx0 nx v l) (hd:bj v=some d):nx0≤d∧d < nx:=by
 rcases h with ⟨rfl,rfl⟩|⟨e,rfl,_,h1,h2,_⟩
 ·cases hd
 ·cases hd;exact ⟨h1,h2⟩
theorem GN.frame {nx0:Nat} {v:Value} {l:List Int} (h:GN H nx0 nx v l) (hs:∀d,nx0≤d→d < nx→ak H' (at_ d)=ak H (at_ d)) (hn:nx≤nx'):GN H' nx0 nx' v l:=by
 rcases h with h|⟨e,rfl,g0,h1,h2,h3⟩
 ·exact .inl h
 ·exact .inr ⟨e,rfl,g0,h1,by omega,(hs e h1 h2).trans h3⟩
theorem GN.low {nx0 aT:Nat} {v:Value} {l:List Int} (h:GN H nx0 nx v l) (hl:aT≤nx0):GN H aT nx v l:=by
 rcases h with h|⟨e,rfl,g0,h1,h2,h3⟩
 ·exact .inl h
 ·exact .inr ⟨e,rfl,g0,by omega,h2,h3⟩
theorem GN.sle {nx0:Nat} {v:Value} {l:List Int} (h:GN H nx0 nx v l):bS H nx 1 bq v l:=by
 rcases h with ⟨rfl,rfl⟩|⟨e,rfl,g0,h1,h2,h3⟩
 ·exact .nil
 ·exact .pre (rest:=[]) (.inl (by rw [lq,List.append_nil];exact h3)) h2 (by rw [bK];exact Nat.le_refl _) (fun _=>rfl)
theorem dR.frame {lo b:Nat} {us:List Value} {r:List (List Int)} (h:dR H lo nx b us r) (hs:∀d,lo≤d→d < nx→ak H' (at_ d)=ak H (at_ d)) (hn:nx≤nx'):dR H' lo nx' b us r:=
 ⟨h.h1,Nat.lt_of_lt_of_le h.h2 hn,(hs b h.h1 h.h2).trans h.cells,h.len,fun i u l hu hl=>(h.row i u l hu hl).frame (fun d h1 h2 _=>hs d h1 h2) hn,h.inj⟩
theorem dR.same {lo b:Nat} {us:List Value} {r:List (List Int)} (h:dR H lo nx b us r) (hs:an H H' nx) (hn:nx≤nx'):dR H' lo nx' b us r:=h.frame (fun d _ hd=>hs d hd) hn
theorem dR.low {lo lo' b:Nat} {us:List Value} {r:List (List Int)} (h:dR H lo nx b us r) (hl:lo'≤lo):dR H lo' nx b us r:=by
 refine ⟨Nat.le_trans hl h.h1,h.h2,h.cells,h.len,fun i u l hu lD=>?_,h.inj⟩
 rcases h.row i u l hu lD with g|⟨e,c,rfl,g1,g2,g3,h1,h2,h3,h4⟩
 ·exact .inl g
 ·exact .inr ⟨e,c,rfl,g1,g2,g3,by omega,h2,h3,h4⟩
theorem dR.start {lo b n:Nat} (h1:lo≤b) (h2:b < nx) (hc:ak H (at_ b)=some (.cells (aU [.slice none 0 0] n))):dR H lo nx b (List.replicate n (.slice none 0 0)) (List.replicate n []):=by
 rw [fa] at hc
 refine ⟨h1,h2,hc,by simp,fun i u l hu hl=>?_,fun i j u w d hu _ hd=>?_⟩
 ·rw [List.getElem?_replicate] at hu hl
  split at hu
  ·cases hu
   rename_i hi
   rw [if_pos hi] at hl
   cases hl
   exact .inl ⟨rfl,rfl⟩
  ·cases hu
 ·rw [List.getElem?_replicate] at hu
  split at hu
  ·cases hu;cases hd
  ·cases hu
theorem dR.put {lo b v:Nat} {us:List Value} {r:List (List Int)} {u w0:Value} {l:List Int} (h:dR H lo nx b us r) (h0:us[v]?=some w0) (hn:nx≤nx') (hs:∀d,lo≤d→d < nx→d≠b→bj w0≠some d→ak H' (at_ d)=ak H (at_ d))
  (hu:lV H' lo nx' b u l) (hf:∀d,bj u=some d→nx≤d) (hb:ak H' (at_ b)=some (.cells (us.set v u))):dR H' lo nx' b (us.set v u) (r.set v l):=by
 have hv:v < us.length:=(List.getElem?_eq_some_iff.1 h0).1
 have hr:∀i x l,i≠v→us[i]?=some x→r[i]?=some l→lV H' lo nx' b x l:=fun i x l hi hx hl=>
  (h.row i x l hx hl).frame (fun d h1 h2 hd=>hs d h1 h2 ((h.row i x l hx hl).blk hd).2.2 (fun e=>hi (h.inj i v x w0 d hx h0 hd e))) hn
 refine ⟨h.h1,Nat.lt_of_lt_of_le h.h2 hn,hb,by rw [List.length_set,List.length_set,h.len],fun i x y hx hy=>?_,fun i j x y d hx hy hdx hdy=>?_⟩
 ·rw [List.getElem?_set] at hx hy
  by_cases e:v=i
  ·subst e
   rw [if_pos rfl,if_pos hv] at hx
   rw [if_pos rfl,if_pos (by rw [← h.len];exact hv)] at hy
   cases hx;cases hy
   exact hu
  ·rw [if_neg e] at hx hy
   exact hr i x y (fun h=>e h.symm) hx hy
 ·have old:∀i x,i≠v→us[i]?=some x→bj x=some d→d < nx:=fun i x hi hx hd=>by
   have tO:=(List.getElem?_eq_some_iff.1 hx).1
   exact ((h.row i x _ hx (List.getElem?_eq_getElem (by rw [← h.len];exact tO))).blk hd).2.1
  rw [List.getElem?_set] at hx hy
  by_cases e:v=i
  ·rw [if_pos e,if_pos hv] at hx
   cases hx
   by_cases e':v=j
   ·omega
   ·rw [if_neg e'] at hy
    have:=old j y (fun h=>e' h.symm) hy hdy
    have:=hf d hdx
    omega
  ·rw [if_neg e] at hx
   by_cases e':v=j
   ·rw [if_pos e',if_pos hv] at hy
    cases hy
    have:=old i x (fun h=>e h.symm) hx hdx
    have:=hf d hdy
    omega
   ·rw [if_neg e'] at hy
    exact h.inj i j x y d hx hy hdx hdy
theorem dR.at {lo b:Nat} {us:List Value} {r:List (List Int)} (h:dR H lo nx b us r) {i:Nat} (hi:i < r.length):∃u,us[i]?=some u∧us[0 + i * 1]?=some u∧lV H lo nx b u (r.getD i []):=by
 have hl:i < us.length:=by rw [h.len];exact hi
 have hu:=List.getElem?_eq_getElem hl
 have hr:=List.getElem?_eq_getElem hi
 refine ⟨us[i],hu,by rw [show 0 + i * 1=i by omega];exact hu,?_⟩
 rw [List.getD_eq_getElem?_getD,hr]
 exact h.row i _ _ hu hr
theorem dR.E7 {lo b c:Nat} {us:List Value} {r:List (List Int)} (h:dR H lo nx b us r) (hc:r.length≤au c):eY H nx 1 bq (.slice (some ⟨b,0,some 1⟩) r.length c) r:=by
 refine ⟨us,h.len,?_,fun i u l hu hl=>(h.row i u l hu hl).sle⟩
 rw [← h.len]
 exact .pre (rest:=[]) (.inl (by rw [m5,List.append_nil];exact h.cells)) h.h2 (by rw [h.len];exact hc) (fun _=>rfl)
def iJ (g:List Int→List Int) (r:List (List Int)) (k:Nat):List (List Int):=(List.range r.length).map fun v=>if v < k then g (r.getD v []) else []
theorem gq (g:List Int→List Int) (r:List (List Int)) (k:Nat):(iJ g r k).length=r.length:=by unfold iJ;simp
theorem lu (g:List Int→List Int) (r:List (List Int)):iJ g r 0=List.replicate r.length []:=by
 unfold iJ
 apply List.ext_getElem?
 intro i
 rw [List.getElem?_map,List.getElem?_replicate]
 by_cases h:i < r.length
 ·rw [List.getElem?_range h,if_pos h];rfl
 ·rw [List.getElem?_eq_none (by simp;omega),if_neg h];rfl
theorem m9 (g:List Int→List Int) (r:List (List Int)):iJ g r r.length=r.map g:=by
 unfold iJ
 apply List.ext_getElem?
 intro i
 rw [List.getElem?_map,List.getElem?_map]
 by_cases h:i < r.length
 ·rw [List.getElem?_range h,List.getElem?_eq_getElem h]
  show some (if i < r.length then g (r.getD i []) else [])=some (g r[i])
  rw [if_pos h,List.getD_eq_getElem?_getD,List.getElem?_eq_getElem h];rfl
 ·rw [List.getElem?_eq_none (by simp;omega),List.getElem?_eq_none (by omega)];rfl
theorem nc (g:List Int→List Int) (r:List (List Int)) {k:Nat} (hk:k < r.length):(iJ g r k).set k (g (r.getD k []))=iJ g r (k + 1):=by
 unfold iJ
 apply List.ext_getElem?
 intro i
 rw [List.getElem?_set,List.getElem?_map,List.getElem?_map]
 by_cases h:k=i
 ·subst h
  rw [if_pos rfl,if_pos (by simpa using hk),List.getElem?_range hk]
  show _=some (if k < k + 1 then _ else _)
  rw [if_pos (by omega)]
 ·rw [if_neg h]
  by_cases h2:i < r.length
  ·rw [List.getElem?_range h2]
   show some (if i < k then _ else _)=some (if i < k + 1 then _ else _)
   by_cases h3:i < k
   ·rw [if_pos h3,if_pos (by omega)]
   ·rw [if_neg h3,if_neg (by omega)]
  ·rw [List.getElem?_eq_none (by simp;omega)];rfl
theorem DR (g:List Int→List Int) (r:List (List Int)) {k:Nat} (h0:g (r.getD k [])=[]):iJ g r (k + 1)=iJ g r k:=by
 unfold iJ
 apply List.map_congr_left
 intro i hi
 by_cases h:i < k
 ·rw [if_pos h,if_pos (by omega)]
 ·by_cases h2:i=k
  ·subst h2
   rw [if_pos (by omega),if_neg h,h0]
  ·rw [if_neg h,if_neg (by omega)]
theorem bS.dropped {α:Type} {z n c k:Nat} {enc:α→List Value} {b o:Nat} {xs:List α} (h:bS H nx z enc (.slice (some ⟨b,o,some z⟩) n c) xs) (hk:k≤xs.length):bS H nx z enc (.slice (some ⟨b,o + k * z,some z⟩) (xs.length - k) (c - 2 * k)) (xs.drop k):=by
 obtain ⟨base,c',h1,h2,h3⟩:=h
 cases h1
 rcases h3 _ rfl with ⟨h0,_⟩|⟨g1,b',o',e,g3,g4⟩
 ·cases h0
 ·cases e
  refine ⟨_,_,by rw [List.length_drop],fun e=>(by cases e),fun a ha=>?_⟩
  cases ha
  refine .inr ⟨by rw [List.length_drop];unfold au at g1 ⊢;show _≤(c - 2 * k) / 2;have:xs.length≤c / 2:=g1;omega,b,o + k * z,rfl,g3,fun hx=>?_⟩
  obtain ⟨cs,q1,q2⟩:=g4 (fun e=>hx (by rw [e];simp))
  refine ⟨cs,q1,fun i x hi=>?_⟩
  rw [List.getElem?_drop] at hi
  have:=q2 _ x hi
  rwa [Nat.add_mul,← Nat.add_assoc] at this
theorem bS.taken {α:Type} {z n c k:Nat} {enc:α→List Value} {b o:Nat} {xs:List α} (h:bS H nx z enc (.slice (some ⟨b,o,some z⟩) n c) xs) (hk:k≤xs.length):bS H nx z enc (.slice (some ⟨b,o + 0 * z,some z⟩) (k - 0) (c - 2 * 0)) (xs.take k):=by
 obtain ⟨base,c',h1,h2,h3⟩:=h
 cases h1
 rcases h3 _ rfl with ⟨h0,_⟩|⟨g1,b',o',e,g3,g4⟩
 ·cases h0
 ·cases e
  refine ⟨_,_,by rw [List.length_take];congr 1;omega,fun e=>(by cases e),fun a ha=>?_⟩
  cases ha
  refine .inr ⟨by rw [List.length_take];show _≤au c;omega,b,o + 0 * z,rfl,g3,fun hx=>?_⟩
  obtain ⟨cs,q1,q2⟩:=g4 (fun e=>hx (by rw [e];simp))
  refine ⟨cs,q1,fun i x hi=>?_⟩
  rw [List.getElem?_take] at hi
  split at hi
  ·have:=q2 _ x hi
   rwa [Nat.zero_mul,Nat.add_zero]
  ·cases hi
theorem Act.Li {x:Od} {lo hi:Option Od} {z:Nat} (hx:ev σ L x=some (.slice (some ⟨0,0,none⟩) 0 1)) (hl:MO σ L 0 lo=some 0) (hh:MO σ L 0 hi=some 0):Act A (.iC x lo hi none z) σ L H nx (.slice (some ⟨0,0,none⟩) 0 1) H nx:=by
 refine ⟨fun T hT k=>?_⟩
 show aS T L x (fun v=>vr T L lo hi none z (fun v=>k v H nx) v)=_
 rw [hT.aS hx]
 show fI T L lo 0 (fun l=>fI T L hi 0 fun h=>cond (and (Nat.beq l 0) (and (Nat.beq h 0) true)) (k (.slice (some ⟨0,0,none⟩) 0 1) H nx) none)=_
 rw [hT.fI hl,hT.fI hh]
 rfl
theorem nd {x:Od} {d n:Nat} (hx:ev σ L x=some (.int .i64 (n:Int))):MO σ L d (some x)=some n:=by
 unfold MO
 simp only [hx]
theorem aH.Wc {α:Type} {z k:Nat} {enc:α→List Value} {x lo:Od} {v:Value} {xs:List α} {K:Value→Heap→Nat→Prop} (hx:ev σ L x=some v) (pW:ev σ L lo=some (.int .i64 (k:Int))) (h:bS H nx z enc v xs) (hk:k≤xs.length)
  (hK:∀v',bS H nx z enc v' (xs.drop k)→K v' H nx):aH A (.iC x (some lo) none none z) σ L H nx K:=by
 obtain ⟨base,c,rfl,h2,h3⟩:=id h
 cases base with
 | none=>
  obtain ⟨rfl,rfl⟩:=h2 rfl
  obtain rfl:k=0:=by simpa using hk
  exact .of (.Jv hx (nd pW) rfl) (hK _ .nil)
 | some a=>
  rcases h3 a rfl with ⟨rfl,rfl,rfl⟩|⟨g1,b,o,rfl,g3,g4⟩
  ·obtain rfl:k=0:=by simpa using hk
   exact .of (.Li hx (nd pW) rfl) (hK _ h)
  ·exact .of (.iC hx (nd pW) rfl hk (by exact g1)) (hK _ (h.dropped hk))
theorem aH.Wd {α:Type} {z k:Nat} {enc:α→List Value} {x hi:Od} {v:Value} {xs:List α} {K:Value→Heap→Nat→Prop} (hx:ev σ L x=some v) (zO:ev σ L hi=some (.int .i64 (k:Int))) (h:bS H nx z enc v xs) (hk:k≤xs.length)
  (hK:∀v',bS H nx z enc v' (xs.take k)→K v' H nx):aH A (.iC x none (some hi) none z) σ L H nx K:=by
 obtain ⟨base,c,rfl,h2,h3⟩:=id h
 cases base with
 | none=>
  obtain ⟨rfl,rfl⟩:=h2 rfl
  obtain rfl:k=0:=by simpa using hk
  exact .of (.Jv hx rfl (nd zO)) (hK _ .nil)
 | some a=>
  rcases h3 a rfl with ⟨rfl,rfl,rfl⟩|⟨g1,b,o,rfl,g3,g4⟩
  ·obtain rfl:k=0:=by simpa using hk
   exact .of (.Li hx rfl (nd zO)) (hK _ h)
  ·exact .of (.iC hx rfl (nd zO) (Nat.zero_le _) (by omega)) (hK _ (h.taken hk))
theorem aH.more {nx0:Nat} {zero:List Value} {s x:Od} {v xv:Value} {l m:List Int} {K:Value→Heap→Nat→Prop} (hs:ev σ L s=some v) (hx:ev σ L x=some xv) (hg:GN H nx0 nx v l) (hm:bS H nx 1 bq xv m) (vS:nx0≤nx) (hb:l.length + m.length≤4194304)
  (h:∀v' H' nx',nx≤nx'→GN H' nx0 nx' v' (l++m)→an H H' nx0→(∀d,d < nx→bj v≠some d→ak H' (at_ d)=ak H (at_ d))→K v' H' nx'):aH A (.app 1 8 zero s x false) σ L H nx K:=by
 have eF:=hm.src (fun _=>rfl)
 by_cases h0:m=[]
 ·subst h0
  have hk:=h v H nx (Nat.le_refl _) (by rw [List.append_nil];exact hg) .refl (fun _ _ _=>rfl)
  rcases hg with ⟨rfl,rfl⟩|⟨d,rfl,_,_⟩
  ·exact .of (.EH hs hx eF) hk
  ·exact .of (.P7 hs hx eF (by omega)) hk
 ·have qo:0 < m.length:=List.length_pos_iff.2 h0
  refine .push hs hx hg.Wb eF (by omega) (by omega) (by rw [lq];exact Lh _) (by rw [lq,uW];omega) vS (by unfold small;omega) (by unfold small;omega) (fun v' H' h2 h3 h4=>h v' H' (nx + 1) (by omega) ?_ h3 (fun d hd cy=>h4 d hd (fun c z' k e=>?_)))
  ·rw [lq] at h2
   unfold mi at h2
   rw [← List.map_append] at h2
   obtain ⟨_,⟨_,e⟩|⟨d,rfl,g1,g2,g3⟩⟩:=h2
   ·omega
   ·exact .inr ⟨d,by rw [List.length_append],by rw [List.length_append];omega,g1,g2,g3⟩
  ·rcases hg with ⟨rfl,_⟩|⟨q,rfl,_⟩
   ·cases e
   ·cases e;exact cy rfl
def atF (l:List Int):Nat:=match l with
 | []=>0
 | _::_=>1
theorem Act.RB {lo b hb hc:Nat} {s i x:Od} {u:Value} {l:List Int} {h:Int} (hu:lV H lo nx b u l) (hs:ev σ L s=some u) (hi:ev σ L i=some (.int .i64 ((atF l:Nat):Int))) (hx:ev σ L x=some (.slice (some ⟨hb,0,some 1⟩) 1 hc)) (L3:ak H (at_ hb)=some (.cells [.int .i64 h])) (cy:bj u≠some hb) (hm:l.length≤1048576) :
  ∃H',Act A (.ins 1 8 s i x) σ L H nx (.slice (some ⟨nx,0,some 1⟩) (fm l h).length (2 * (fm l h).length)) H' (nx + 1)∧ak H' (at_ nx)=some (.cells (mi (fm l h)))∧∀d,d < nx→bj u≠some d→ak H' (at_ d)=ak H (at_ d):=by
 rcases hu with ⟨rfl,rfl⟩|⟨d,c,rfl,g1,g2,g3,h1,h2,h3,h4⟩
 ·refine ⟨_,Act.Qe (new:=[.int .i64 h]) hs hi hx L3 (by show 0 < 1;omega) rfl (by show 1 * 8≤small;unfold small;omega) (by show 1≤small;unfold small;omega),aq,fun d hd _=>?_⟩
  rw [ai,if_neg (by omega),dX,if_neg (by omega)]
 ·cases l with
  | nil=>simp at g1
  | cons a t=>
   have hlen:=uW (a::t)
   have h:=Act.US (A:=A) (σ:=σ) (L:=L) (nx:=nx) (by_:=8) (j:=1) (cs:=mi (a::t)) (new:=[.int .i64 h]) (c:=c) (c2:=hc) (by rw [hlen];exact hs) hi hx h4 L3 (fun e=>cy (by rw [e];rfl)) (by show 0 < 1;omega) (by rw [hlen,List.length_cons];omega) (Lh _) rfl
    (by rw [hlen];show ((a::t).length + 1) * 8≤small;unfold small;omega) (by rw [hlen];show (a::t).length + 1≤small;unfold small;omega)
   rw [hlen] at h
   refine ⟨_,h,aq,fun e he Dw=>?_⟩
   rw [ai,if_neg (by omega),dX,if_neg (fun e'=>Dw (by rw [e'];rfl))]
theorem WO.RB {p:Option (List Bool)} {ag:List bx} {ops:List (AO×List bx)} {lo b hb hc:Nat} {s i x:Od} {u:Value} {l:List Int} {h:Int} (hu:lV H lo nx b u l) (hs:ev σ L s=some u) (hi:ev σ L i=some (.int .i64 ((atF l:Nat):Int))) (hx:ev σ L x=some (.slice (some ⟨hb,0,some 1⟩) 1 hc)) (L3:ak H (at_ hb)=some (.cells [.int .i64 h])) (cy:bj u≠some hb) (hm:l.length≤1048576)
  (hK:∀H',ak H' (at_ nx)=some (.cells (mi (fm l h)))→(∀d,d < nx→bj u≠some d→ak H' (at_ d)=ak H (at_ d))→a6 A (kb p (.slice (some ⟨nx,0,some 1⟩) (fm l h).length (2 * (fm l h).length)) σ) (.slice (some ⟨nx,0,some 1⟩) (fm l h).length (2 * (fm l h).length)::L) H' ag∧WO A ops (kb p (.slice (some ⟨nx,0,some 1⟩) (fm l h).length (2 * (fm l h).length)) σ) (.slice (some ⟨nx,0,some 1⟩) (fm l h).length (2 * (fm l h).length)::L) H' (nx + 1) Q) :
  WO A ((⟨p,none,.ins 1 8 s i x⟩,ag)::ops) σ L H nx Q:=by
 obtain ⟨H',h1,h2,h3⟩:=Act.RB (A:=A) (σ:=σ) (L:=L) hu hs hi hx L3 cy hm
 obtain ⟨k1,k2⟩:=hK H' h2 h3
 exact .ins h1 k1 k2
theorem lx {n:Int} {es:List Ed} {r:List (List Int)} (h:aQ n es r=0) (v:Nat):(r.getD v []).length≤2 * es.length:=by
 obtain ⟨_,_,_,_,h5⟩:=dU h
 by_cases hv:v < r.length
 ·obtain ⟨ys,hp⟩:=E5 r (show v + 1≤r.length by omega)
  rw [hp,dM] at h5
  unfold rowP at h5
  simp only [List.length_append,List.length_map,List.take_length] at h5
  omega
 ·rw [List.getD_eq_getElem?_getD,List.getElem?_eq_none (by omega)]
  simp
theorem eP {n:Int} {es:List Ed} {r:List (List Int)} (h:aQ n es r=0):b8 r:=by
 obtain ⟨⟨h1,h2,h3,_⟩,hl,_⟩:=dU h
 refine ⟨by omega,fun l lD=>?_⟩
 obtain ⟨v,hv,rfl⟩:=List.getElem_of_mem lD
 have:=lx h v
 rw [List.getD_eq_getElem?_getD,List.getElem?_eq_getElem hv] at this
 simp only [Option.getD_some] at this
 omega
theorem Fl {n:Int} {es:List Ed} {r:List (List Int)} {v w:Nat} (h:aQ n es r=0) (hv:(v:Int) < n) (hw:(w:Int) < n) (dP:es.length < 3072):aQ n (es++[((v:Int),(w:Int))]) (gJ (gJ r v ((2 * es.length:Nat):Int)) w ((2 * es.length + 1:Nat):Int))=0:=by
 refine BL (Fj h hv hw dP) (by rw [pQ,dx,dx]) ?_
 rw [pQ]
 unfold uT
 exact uU fun u _=>by rw [uS];exact (m7 _).symm
def RD (b:Nat) (us:List Value) (ev:Value):Prop:=∀d,bj ev=some d→d≠b∧∀(i:Nat) (u:Value),us[i]?=some u→bj u≠some d
theorem dR.off {lo b:Nat} {us:List Value} {r:List (List Int)} {ev:Value} (h:dR H lo nx b us r) (LX:∀d,bj ev=some d→d < lo∨nx≤d):RD b us ev:=by
 intro d hd
 have h1:=h.h1
 have h2:=h.h2
 refine ⟨by rcases LX d hd with h|h<;>omega,fun i u hu hb=>?_⟩
 have tO:=(List.getElem?_eq_some_iff.1 hu).1
 have:=(h.row i u _ hu (List.getElem?_eq_getElem (by rw [← h.len];exact tO))).blk hb
 rcases LX d hd with h|h<;>omega
end Go.Eng

namespace Go.Eng
set_option maxRecDepth 100000
def uj (vs:List Value) (H:Heap) (b:Nat):Prop:=∃n l c cs,vs=[.agg #[n,.slice (some ⟨b,0,some 2⟩) l c]]∧ak H (at_ b)=some (.cells cs)∧cs.length=2 * l∧l≤4000
structure fG (A:aG):Prop where
 hk:∀g,g≠4→g≠16→g≠17→∀vs H nx,A.aF g vs H nx=none
 hb:∀H nx,A.aF 4 [] H nx=some (.ok (.bool true) H nx)
 hs:∀vs H nx b,uj vs H b→A.aF 16 vs H nx=some (.ok (.tuple #[]) (kill H b) nx)
 ha:∀vs H nx,Bj vs H nx→A.aF 17 vs H nx=some (.ok (.bool true) .e nx)
 q49:MV A.P 49
 q57:MV A.P 57
 Ki:A.funcs 3=some QI
 Bk:A.funcs 5=some Kb
 Kj:A.funcs 7=some QJ
 Kk:A.funcs 8=some QK
 OJ:A.funcs 9=some Vr
 um:A.funcs 10=some Kc
 Kl:A.funcs 11=some QL
 Km:A.funcs 12=some QM
 Kn:A.funcs 13=some QN
 Ko:A.funcs 14=some QO
 Kp:A.funcs 15=some QP
 ET:A.funcs 23=some M4
 Bl:A.funcs 27=some Kf
 Vy:A.funcs 28=some aae
 OL:A.funcs 30=some Vs
 Kq:A.funcs 31=some QQ
 Kr:A.funcs 32=some QR
 OM:A.funcs 33=some Vt
 EU:A.funcs 36=some M5
 ON:A.funcs 37=some Vu
 Bm:A.funcs 38=some Kg
 Ks:A.funcs 39=some QS
 EV:A.funcs 59=some M6
 Kt:A.funcs 63=some QT
 Ku:A.funcs 64=some QU
 Vz:A.funcs 68=some aaf
 EW:A.funcs 72=some M7
 Kv:A.funcs 73=some QV
 OO:A.funcs 74=some Vv
 VA:A.funcs 87=some aag
 EX:A.funcs 91=some M8
 Bn:A.funcs 93=some Kh
 EY:A.funcs 95=some M9
 VB:A.funcs 96=some aah
 Kw:A.funcs 97=some QW
 xf:A.funcs 119=some GI
 VC:A.funcs 114=some aai
 Nb:A.funcs 24=some M3
 xg:A.funcs 46=some rH
 pJ:A.funcs 85=some pG
 OP:A.funcs 25=some J8
 Kx:A.funcs 60=some mF
 fTo:A.funcs 71=some HS
 EZ:A.funcs 117=some rI
 E0:A.funcs 84=some w9
 yG:A.funcs 118=some qM
 yH:A.funcs 86=some uh
 sJ:A.funcs 61=some pH
 xh:A.funcs 83=some xd
 fOf:A.funcs 92=some xOf
 VD:A.funcs 98=some Vq
 Dl:A.funcs 69=some qN
 Ky:A.funcs 70=some xe
 yI:A.funcs 35=some pI
 yJ:A.funcs 29=some sI
 Q0:A.funcs 65=some J9
 yK:A.funcs 66=some iV
 uo:A.funcs 67=some jD
 Q1:A.funcs 89=some ui
 Kz:A.funcs 90=some nL
 KB:A.funcs 88=some rJ
 KC:A.funcs 62=some Ka
 E1:A.funcs 26=some yF
 E2:A.funcs 6=some ER
 OQ:A.funcs 41=some pF
 OS:A.funcs 34=some OH
 OT:A.funcs 40=some OI
section
variable {A:aG} {H:Heap} {nx:Nat} {n:Int} {m:Nat} {ev rv:Value} {es:List Ed} {r:List (List Int)}
theorem fG.h (E:fG A) {g:FuncId} (h:(Nat.beq g 4||(Nat.beq g 16||Nat.beq g 17))=false):∀vs H nx,A.aF g vs H nx=none:=by
 refine E.hk g (fun e=>?_) (fun e=>?_) (fun e=>?_)<;>(subst e;cases h)
theorem fG.We (E:fG A) (he:bS H nx 2 a5 ev es) (hr:eY H nx 1 bq rv r) (cj:b8 r) :
  WF A 62 [.agg #[.int .i64 n,ev],rv] H nx fun v H' nx'=>∃x,v=oneOf [x,.int .i64 (aQ n es r)]∧(aQ n es r=0→x=.int .i64 (m6 es r n.toNat))∧an H H' nx∧nx≤nx':=
 DO E.KC (E.h rfl) E.pJ (E.h rfl) E.xg (E.h rfl) E.yH (E.h rfl) E.yG (E.h rfl) E.yJ (E.h rfl) E.Q0 (E.h rfl) E.uo (E.h rfl) E.Q1 (E.h rfl) E.Kz (E.h rfl) E.KB (E.h rfl) E.yK (E.h rfl) hX he hr cj
theorem fG.Lj (E:fG A) (hm:jF n es) (fB:n=(m:Int)) (he:bS H nx 2 a5 ev es) :
  WF A 29 [.agg #[.int .i64 n,ev]] H nx fun v H' nx'=>∃b bc c,v=oneOf [.slice (some ⟨b,0,some 1⟩) m bc,.int .i64 ((aE es m:Nat):Int),.int .i64 0]∧m≤au bc∧nx≤b∧b < nx'∧ay H' b c∧ln es m m c∧an H H' nx∧nx≤nx':=
 y0 E.yJ (E.h rfl) E.xg (E.h rfl) E.Q0 (E.h rfl) E.uo (E.h rfl) E.Q1 (E.h rfl) E.Kz (E.h rfl) E.KB (E.h rfl) E.yK (E.h rfl) hm fB he
theorem fG.Lk (E:fG A) (hm:jF n es) (fB:n=(m:Int)) (he:bS H nx 2 a5 ev es) :
  WF A 35 [.agg #[.int .i64 n,ev],.slice none 0 0,.slice none 0 0] H nx fun v H' nx'=>∃b bc c,v=oneOf [.slice (some ⟨b,0,some 1⟩) m bc,.int .i64 ((aE es m:Nat):Int)]∧m≤au bc∧nx≤b∧b < nx'∧ay H' b c∧ln es m m c∧an H H' nx∧nx≤nx':=
 y3 E.yI (E.h rfl) E.fTo (E.h rfl) E.Dl (E.h rfl) E.Ky (E.h rfl) E.Kx (E.h rfl) hm fB he
theorem fG.Ll (E:fG A) (h0:aQ n es r=0) (he:bS H nx 2 a5 ev es) (hr:eY H nx 1 bq rv r) (cj:b8 r) :
  WF A 83 [.agg #[.int .i64 n,ev],rv] H nx fun v H' nx'=>∃fv nx0,v=oneOf [fv,.int .i64 0]∧nx≤nx0∧nx0≤nx'∧LL H' nx0 nx' fv (dh es r)∧an H H' nx:=
 vW E.xh (E.h rfl) E.pJ (E.h rfl) E.xg (E.h rfl) E.yH (E.h rfl) E.yG (E.h rfl) h0 he hr cj
theorem fG.Wf (E:fG A) (h0:aQ n es r=0) (he:bS H nx 2 a5 ev es) (hr:eY H nx 1 bq rv r) (cj:b8 r) :
  WF A 92 [.agg #[.int .i64 n,ev],rv] H nx fun v H' nx'=>∃b c,v=oneOf [.slice (some ⟨b,0,some 1⟩) (2 * es.length) c,.int .i64 0]∧2 * es.length≤au c∧nx≤b∧b < nx'∧ay H' b (DE es r)∧an H H' nx∧nx≤nx':=
 Ns E.fOf (E.h rfl) E.pJ (E.h rfl) E.xg (E.h rfl) E.yH (E.h rfl) E.yG (E.h rfl) h0 (hX h0) he hr cj
theorem fG.RE (E:fG A) (g:cJ n es r) (he:bS H nx 2 a5 ev es) (hr:eY H nx 1 bq rv r) (cj:b8 r) (dP:es.length≤4000) :
  WF A 61 [.agg #[.int .i64 n,ev],rv] H nx fun v H' nx'=>∃nx0,nx≤nx0∧nx0≤nx'∧LL H' nx0 nx' v (dh es r)∧an H H' nx:=
 mK E.sJ (E.h rfl) E.E0 (E.h rfl) E.EZ (E.h rfl) g he hr cj dP
theorem fG.rof (E:fG A) (h0:aQ n es r=0) (he:bS H nx 2 a5 ev es) (hr:eY H nx 1 bq rv r) (cj:b8 r) :
  WF A 98 [.agg #[.int .i64 n,ev],rv] H nx fun v H' nx'=>∃b c,v=.slice (some ⟨b,0,some 1⟩) (2 * es.length) c∧2 * es.length≤au c∧nx≤b∧b < nx'∧ay H' b (DE es r)∧an H H' nx∧nx≤nx':=
 K1 E.VD (E.h rfl) E.sJ (E.h rfl) E.E0 (E.h rfl) E.EZ (E.h rfl) (iy h0) (hX h0) he hr cj
theorem fG.RF (E:fG A) (he:bS H nx 2 a5 ev es) (hr:eY H nx 1 bq rv r) (cj:b8 r) :
  WF A 6 [.agg #[.int .i64 n,ev],rv] H nx fun v H' nx'=>v=.int .i64 (cK n es r)∧an H H' nx∧nx≤nx':=
 BI E.E2 (E.h rfl) E.OP (E.h rfl) E.Nb (E.h rfl) E.E1 (E.h rfl) E.yI (E.h rfl) E.fTo (E.h rfl) E.Dl (E.h rfl) E.Ky (E.h rfl) E.Kx (E.h rfl) E.sJ (E.h rfl) E.E0 (E.h rfl) E.EZ (E.h rfl) hX he hr cj
theorem fG.RG (E:fG A) (he:bS H nx 2 a5 ev es) (hr:eY H nx 1 bq rv r) (cj:b8 r) :
  WF A 85 [.agg #[.int .i64 n,ev],rv] H nx fun v H' nx'=>v=.int .i64 (aQ n es r)∧an H H' nx∧nx≤nx':=
 j2 E.pJ E.xg (E.h rfl) (E.h rfl) he hr cj
end
end Go.Eng

namespace Go.Eng
variable {A:aG} {H H':Heap} {nx nx':Nat} {σ:aP} {L:List Value} {Q:ct}
set_option maxRecDepth 100000
theorem dR.store {H1:Heap} {lo aT b k:Nat} {us:List Value} {r:List (List Int)} {v:Value} {l:List Int} (hu:dR H1 lo aT b us r) (hk:k < r.length) (hs:an H1 H aT) (hn:aT≤nx) (g:GN H aT nx v l) (hm:l.length≤4194304) :
  dR (aw H b (us.set k v)) lo nx b (us.set k v) (r.set k l):=by
 have h1:=hu.h1
 have h2:=hu.h2
 have hl:=hu.len
 refine hu.put (List.getElem?_eq_getElem (by omega)) hn (fun d _ h4 h5 _=>by rw [ai,if_neg h5];exact hs d h4) ?_ (fun d hd=>(g.blk hd).1) aq
 exact (g.frame (H':=aw H b (us.set k v)) (nx':=nx) (fun d h3 _=>by rw [ai,if_neg (by omega)]) (Nat.le_refl _)).row (by omega) h2 hm
theorem jI (E:fG A) {lv:Value} {l:List Int} {x:Int} (hl:bS H nx 1 bq lv l) (hm:l.length≤1048576) :
  WF A 32 [lv,.int .i64 x] H nx fun v H' nx'=>H'=H∧nx'=nx∧((∃i:Nat,v=.int .i64 (i:Int)∧l[i]?=some x∧∀j,j < i→l[j]?≠some x)∨(v=.int .i64 (-1)∧x∉l)):=by
 obtain ⟨lb,lc,rfl⟩:=hl.form
 refine WF.enter (E.h rfl _ _ _) E.Kr ?_
 repeat' (first|(refine WO.k rfl ?_;(first|refine aK ?_|refine cM ?_))|with_reducible (first|refine WO.nil ?_|refine WC.aa ?_|refine WC.seq ?_|refine WC.block ?_|refine aC ?_))
 refine WC.loop (α:=Nat) (fun k=>[([],.slice lb l.length lc),(S1,.int .i64 x),(S7,.int .i64 ((l.length:Nat):Int)),(S8,.int .i64 ((k:Nat):Int))])
  (fun k H' nx'=>k≤l.length∧H'=H∧nx'=nx∧∀i,i < k→l[i]?≠some x) (fun k=>l.length - k)
  ?_ 0 aW ⟨Nat.zero_le _,rfl,rfl,fun i hi=>by omega⟩
 rintro k _ _ ⟨hk,rfl,rfl,iQ⟩
 repeat' (first|((first|refine WO.n rfl ?_|refine WO.k rfl ?_);(first|refine aK ?_|(refine ei (fun h=>?_) (fun h=>?_)<;>(try simp only [Int.ofNat_eq_natCast] at h))))|with_reducible (first|refine WO.nil ?_|refine WC.aa ?_|refine WC.seq ?_|refine WC.skip ?_|refine WC.ret ?_|refine WC.exit ?_|refine WC.block ?_)|refine WC.aB rfl ?_|refine WC.ax rfl ?_|with_reducible (first|refine aC ?_|refine dQ ?_|refine eh ?_))
 ·have cI:k < l.length:=by omega
  obtain ⟨bb,bo,uA,rfl,je,_,_,Dq,uB⟩:=hl.at (by intro e;rw [e] at cI;simp at cI)
  have DN:=List.getElem?_eq_getElem cI
  have q1:=ft (v:=.int .i64 l[k]) (uB k _ DN)
  generalize l[k]=y at DN q1
  repeat' (first|((first|refine WO.n rfl ?_|refine WO.k rfl ?_);(first|refine aK ?_|refine bu ?_|refine aZ ?_|(refine zl (fun h=>?_) (fun h=>?_)<;>(try simp only [Int.ofNat_eq_natCast] at h))|refine bO ?_))|with_reducible (first|refine WO.nil ?_|refine WC.aa ?_|refine WC.seq ?_|refine WC.skip ?_|refine WC.ret ?_)|refine WC.aB rfl ?_|refine WC.ax rfl ?_|with_reducible (first|refine aC ?_|refine gM ?_|refine eT ?_|refine pZ ?_))
  ·have h1:=h
   exact az (vs:=[_]) rfl ⟨rfl,rfl,.inl ⟨k,rfl,by rw [DN];congr 1;omega,iQ⟩⟩
  ·have h1:=h
   refine ⟨k + 1,by omega,aW,by omega,rfl,rfl,fun i hi he=>?_⟩
   rcases (show i < k∨i=k by omega) with h2|rfl
   ·exact iQ i h2 he
   ·rw [DN] at he;cases he;omega
 ·refine az (vs:=[_]) rfl ⟨rfl,rfl,.inr ⟨rfl,fun hx=>?_⟩⟩
  obtain ⟨i,hi,e⟩:=List.getElem_of_mem hx
  exact iQ i (by omega) (by rw [List.getElem?_eq_getElem hi,e])
theorem wb (E:fG A) {lv:Value} {l:List Int} {x:Int} (hl:bS H nx 1 bq lv l) (hm:l.length≤1048576) (hx:x∈l) :
  WF A 119 [lv,.int .i64 x] H nx fun v H' nx'=>H'=H∧nx'=nx∧v=.bool true:=by
 refine WF.enter (E.h rfl _ _ _) E.xf ?_
 repeat' (first|(refine WO.k rfl ?_;refine aK ?_)|with_reducible (first|refine WO.nil ?_|refine WC.aa ?_|refine WC.seq ?_|refine aC ?_))
 refine WO.cn rfl ?_
 refine (jI E hl hm).of ?_
 rintro _ _ _ ⟨rfl,rfl,⟨i,rfl,_⟩|⟨_,iQ⟩⟩
 ·repeat' (first|((first|refine WO.n rfl ?_|refine WO.k rfl ?_);(first|refine aK ?_|(refine C9 (fun h=>?_) (fun h=>?_)<;>(try simp only [Int.ofNat_eq_natCast] at h))))|with_reducible (first|refine WO.nil ?_|refine WC.ret ?_|refine aC ?_))
  ·exact az (vs:=[_]) rfl ⟨rfl,rfl,rfl⟩
  ·exfalso;omega
 ·exact absurd hx iQ
theorem Hf (E:fG A) {lv:Value} {l:List Int} (hl:bS H nx 1 bq lv l) (hm:l.length≤1048576) (cy:0 < l.length) :
  WF A 114 [lv] H nx fun v H' nx'=>H'=H∧nx'=nx∧∃M:Int,v=.int .i64 M∧(∀y∈l,M≤y)∧M∈l:=by
 obtain ⟨lb,lc,rfl⟩:=hl.form
 obtain ⟨bb,bo,uA,rfl,je,_,_,Dq,uB⟩:=hl.at (by intro e;rw [e] at cy;simp at cy)
 have F1:=List.getElem?_eq_getElem cy
 have q0:=ft (v:=.int .i64 l[0]) (uB 0 _ F1)
 generalize l[0]=x0 at F1 q0
 refine WF.enter (E.h rfl _ _ _) E.VC ?_
 repeat' (first|((first|refine WO.n rfl ?_|refine WO.k rfl ?_);(first|refine aK ?_|refine cM ?_|refine bu ?_|refine aZ ?_|(refine ei (fun h=>?_) (fun h=>?_)<;>(try simp only [Int.ofNat_eq_natCast] at h))))|with_reducible (first|refine WO.nil ?_|refine WC.aa ?_|refine WC.seq ?_|refine WC.skip ?_|refine WC.block ?_)|refine WC.aB rfl ?_|refine WC.ax rfl ?_|with_reducible refine aC ?_)
 ·omega
 refine WC.loop (α:=Nat×Int) (fun k=>[([],.slice (some ⟨bb,bo,some 1⟩) l.length lc),(S3,.int .i64 k.2),(S4,.int .i64 ((k.1:Nat):Int))])
  (fun k H' nx'=>k.1≤l.length∧H'=H∧nx'=nx∧(∀i x,i < k.1→l[i]?=some x→k.2≤x)∧k.2∈l) (fun k=>l.length - k.1)
  ?_ (1,x0) aW ⟨cy,rfl,rfl,fun i x hi h=>by
   have:i=0:=by have:i < 1:=hi;omega
   subst this;rw [F1] at h;cases h;exact Int.le_refl _,List.mem_of_getElem? F1⟩
 rintro ⟨k,M⟩ _ _ ⟨hk,rfl,rfl,hle,fA⟩
 simp only at hk hle fA ⊢
 repeat' (first|((first|refine WO.n rfl ?_|refine WO.k rfl ?_);(first|refine aK ?_|refine cM ?_|refine aZ ?_|(refine ei (fun h=>?_) (fun h=>?_)<;>(try simp only [Int.ofNat_eq_natCast] at h))))|with_reducible (first|refine WO.nil ?_|refine WC.aa ?_|refine WC.seq ?_|refine WC.skip ?_|refine WC.ret ?_|refine WC.exit ?_|refine WC.block ?_)|refine WC.aB rfl ?_|refine WC.ax rfl ?_|with_reducible (first|refine aC ?_|refine dQ ?_|refine eh ?_))
 ·have cI:k < l.length:=by omega
  have DN:=List.getElem?_eq_getElem cI
  have q1:=ft (v:=.int .i64 l[k]) (uB k _ DN)
  repeat' (first|((first|refine WO.n rfl ?_|refine WO.k rfl ?_);(first|refine aK ?_|refine bu ?_|refine bO ?_|refine UQ ?_))|with_reducible (first|refine WO.nil ?_|refine WC.aa ?_|refine aC ?_|refine eT ?_))
  refine ⟨(k + 1,min M l[k]),by show l.length - (k + 1) < l.length - k;omega,aW,by show k + 1≤_;omega,rfl,rfl,fun i x hi hx=>?_,?_⟩
  ·show min M l[k]≤x
   rcases (show i < k∨i=k by have:i < k + 1:=hi;omega) with h1|rfl
   ·have:=hle i x h1 hx;omega
   ·rw [DN] at hx;cases hx;omega
  ·show min M l[k]∈l
   rcases (show min M l[k]=M∨min M l[k]=l[k] by omega) with e|e
   ·rw [e];exact fA
   ·rw [e];exact List.getElem_mem cI
 ·refine az (vs:=[_]) rfl ⟨rfl,rfl,M,rfl,fun x hx=>?_,fA⟩
  obtain ⟨i,hi,rfl⟩:=List.getElem_of_mem hx
  exact hle i _ (by omega) (List.getElem?_eq_getElem hi)
theorem Lm (E:fG A) {rv:Value} {r:List (List Int)} (hr:eY H nx 1 bq rv r) (cj:b8 r) :
  WF A 87 [rv] H nx fun v H' nx'=>an H H' nx∧nx≤nx'∧∃b c us,v=.slice (some ⟨b,0,some 1⟩) r.length c∧r.length≤au c∧dR H' nx nx' b us (gI r):=by
 obtain ⟨rb,rc,rfl⟩:=hr.form
 have zq:=cj.1
 refine WF.enter (E.h rfl _ _ _) E.VA ?_
 repeat' (first|((first|refine WO.n rfl ?_|refine WO.k rfl ?_);(first|refine aK ?_|refine cM ?_|refine mD ?_))|with_reducible (first|refine WO.nil ?_|refine WC.aa ?_|refine WC.seq ?_|refine WC.block ?_|refine aC ?_))
 refine WC.loop (α:=Nat) (fun k=>[(S3,.slice (some ⟨nx,0,some 1⟩) r.length (2 * r.length + 1)),(dN,.slice rb r.length rc),(fE,.int .i64 ((r.length:Nat):Int)),(iU,.int .i64 ((k:Nat):Int))])
  (fun k H' nx'=>k≤r.length∧nx + 1≤nx'∧an H H' nx∧∃us,dR H' nx nx' nx us (iJ gP r k)) (fun k=>r.length - k)
  ?_ 0 aW ⟨Nat.zero_le _,Nat.le_refl _,an.refl.set (Nat.le_refl _),_,by rw [lu];exact .start (Nat.le_refl _) (by omega) aq⟩
 rintro k H1 aT ⟨hk,cD,a7,us,hu⟩
 have kI:=hu.len
 rw [gq] at kI
 repeat' (first|((first|refine WO.n rfl ?_|refine WO.k rfl ?_);(first|refine aK ?_|(refine ei (fun h=>?_) (fun h=>?_)<;>(try simp only [Int.ofNat_eq_natCast] at h))))|with_reducible (first|refine WO.nil ?_|refine WC.aa ?_|refine WC.seq ?_|refine WC.skip ?_|refine WC.ret ?_|refine WC.exit ?_|refine WC.block ?_)|refine WC.aB rfl ?_|refine WC.ax rfl ?_|with_reducible (first|refine aC ?_|refine dQ ?_|refine eh ?_))
 ·have cI:k < r.length:=by omega
  have j3:r.getD k []=r[k]:=by rw [List.getD_eq_getElem?_getD,List.getElem?_eq_getElem cI];rfl
  have y4:=cj.row k
  obtain ⟨bb,bo,uA,ib,ic,rfl,je,jJ,bC,hi⟩:=hr.at cI
  rw [← j3] at bC hi
  have eO:=a7.rd je jJ
  have zu:=(hi.same a7).up (show nx≤aT by omega)
  repeat' (first|((first|refine WO.n rfl ?_|refine WO.k rfl ?_);(first|refine aK ?_|refine cM ?_|refine bu ?_|refine aZ ?_|(refine zl (fun h=>?_) (fun h=>?_)<;>(try simp only [Int.ofNat_eq_natCast] at h))|refine bO ?_))|with_reducible (first|refine WO.nil ?_|refine WC.aa ?_|refine WC.seq ?_|refine WC.skip ?_|refine WC.exit ?_)|refine WC.aB rfl ?_|refine WC.ax rfl ?_|with_reducible (first|refine aC ?_|refine dQ ?_|refine eh ?_))
  ·have h0:r.getD k []=[]:=List.eq_nil_of_length_eq_zero (by omega)
   refine ⟨k + 1,by omega,aW,by omega,by omega,a7,us,?_⟩
   rw [DR _ _ (by rw [h0];rfl)]
   exact hu
  ·refine WO.cn rfl ?_
   refine (Hf E zu y4 (by omega)).of ?_
   rintro _ _ _ ⟨rfl,rfl,M,rfl,hM1,hM2⟩
   repeat' (fail)
   refine WO.cn rfl ?_
   refine (jI E zu y4).of ?_
   rintro _ _ _ ⟨rfl,rfl,⟨i,rfl,HN,KP⟩|⟨_,iQ⟩⟩
   rotate_left 1
   ·exact absurd hM2 iQ
   have tO:=(List.getElem?_eq_some_iff.1 HN).1
   have hle:pP (r.getD k [])=i:=uR HN hM1 (fun j y hj hy=>by
    have h1:=hM1 y (List.mem_of_getElem? hy)
    have h2:=KP j hj
    rw [hy] at h2
    have h3:y≠M:=fun e=>h2 (by rw [e])
    omega)
   repeat' (first|((first|refine WO.n rfl ?_|refine WO.k rfl ?_);refine aK ?_)|with_reducible (first|refine WO.nil ?_|refine WC.drawn ?_|refine aC ?_))
   refine WO.n rfl ?_
   refine aH.Wc rfl rfl zu (by omega) (fun v1 yt=>?_)
   refine WO.n rfl ?_
   refine aH.Wd rfl rfl zu (by omega) (fun v2 JA=>?_)
   refine WO.n rfl ?_
   refine aH.more (nx0:=_) rfl rfl .nil yt (Nat.le_refl _) (by rw [List.length_drop];simp only [List.length_nil];omega) (fun v3 H3 nx3 mG g3 fH _=>?_)
   refine WO.n rfl ?_
   refine aH.more rfl rfl g3 ((JA.same fH).up mG) (by omega) (by rw [List.nil_append,List.length_drop,List.length_take];omega) (fun v4 H4 fZ xl g4 lU _=>?_)
   rw [List.nil_append,show (r.getD k []).drop i++(r.getD k []).take i=gP (r.getD k []) by unfold gP;rw [hle]] at g4
   have RH:=fH.trans lU (Nat.le_refl _)
   have LM:=(RH nx (by omega)).trans hu.cells
   obtain ⟨vb,vc,rfl⟩:=g4.form
   repeat' (first|((first|refine WO.n rfl ?_|refine WO.k rfl ?_);(first|refine aK ?_|refine aZ ?_|refine fj ?_|refine bO ?_))|with_reducible (first|refine WO.nil ?_|refine WC.aa ?_|refine aC ?_|refine eT ?_|refine kf ?_))
   have bP:=hu.store (k:=k) (by rw [gq];exact cI) RH (by omega) g4 (by rw [BJ];omega)
   rw [nc gP r cI] at bP
   refine ⟨k + 1,by omega,aW,by omega,by omega,(a7.trans RH (by omega)).set (Nat.le_refl _),us.set k (.slice vb (gP (r.getD k [])).length vc),?_⟩
   rw [show 0 + k * 1=k by omega]
   exact bP
 ·obtain rfl:k=r.length:=by omega
  rw [m9] at hu
  exact az (vs:=[_]) rfl ⟨a7,by omega,nx,_,us,rfl,by rw [cw];exact Nat.le_refl _,hu⟩
theorem uX (E:fG A) {n:Int} {ev rv:Value} {es:List Ed} {r:List (List Int)} (h0:aQ n es r=0) (he:bS H nx 2 a5 ev es) (hr:eY H nx 1 bq rv r) (cj:b8 r) :
  WF A 63 [.agg #[.int .i64 n,ev],rv] H nx fun v H' nx'=>an H H' nx∧nx≤nx'∧∃b c us,v=oneOf [.slice (some ⟨b,0,some 1⟩) r.length c,.int .i64 0]∧r.length≤au c∧dR H' nx nx' b us (gI r):=by
 obtain ⟨base,ec,rfl⟩:=he.form
 obtain ⟨bW,rc,rfl⟩:=hr.form
 refine WF.enter (E.h rfl _ _ _) E.Kt ?_
 have bM:an H (aw H nx [.int .i64 n,.slice base es.length ec]) nx:=an.refl.set (Nat.le_refl _)
 repeat' (first|((first|refine WO.n rfl ?_|refine WO.k rfl ?_);(first|refine aK ?_|refine jN ?_|refine aJ ?_))|with_reducible (first|refine WO.nil ?_|refine WC.aa ?_|refine WC.seq ?_|refine aC ?_))
 refine WO.cn rfl ?_
 refine (E.RG (n:=n) ((he.same bM).up (Nat.le_succ _)) ((hr.same bM).up (Nat.le_succ _)) cj).of ?_
 rintro _ H1 aT ⟨rfl,a7,cD⟩
 rw [h0]
 have bp:=bM.trans a7 (by omega)
 repeat' (first|(refine WO.k rfl ?_;(first|refine aK ?_|(refine om (fun h=>?_) (fun h=>?_)<;>(try simp only [Int.ofNat_eq_natCast] at h))))|with_reducible (first|refine WO.nil ?_|refine WC.aa ?_|refine WC.seq ?_|refine WC.skip ?_|refine WC.ret ?_)|refine WC.aB rfl ?_|refine WC.ax rfl ?_|with_reducible (first|refine aC ?_|refine gM ?_))
 ·exact absurd rfl (by assumption)
 refine WO.cn rfl ?_
 refine (Lm E ((hr.same bp).up (by omega)) cj).of ?_
 rintro _ H2 nx2 ⟨bL,eW,b,c,us,rfl,hc,hu⟩
 repeat' (first|(refine WO.k rfl ?_;refine aK ?_)|with_reducible (first|refine WO.nil ?_|refine WC.ret ?_|refine aC ?_))
 exact az (vs:=[_,_]) rfl ⟨bp.trans bL (by omega),by omega,b,c,us,rfl,hc,hu.low (by omega)⟩
end Go.Eng

namespace Go.Eng
variable {A:aG} {H H':Heap} {nx nx':Nat} {σ:aP} {L:List Value} {Q:ct}
set_option maxRecDepth 100000
theorem BM (E:fG A) {rv:Value} {r:List (List Int)} (hr:eY H nx 1 bq rv r) (cj:b8 r) :
  WF A 95 [rv] H nx fun v H' nx'=>an H H' nx∧nx≤nx'∧∃b c us,v=.slice (some ⟨b,0,some 1⟩) r.length c∧r.length≤au c∧dR H' nx nx' b us r:=by
 obtain ⟨rb,rc,rfl⟩:=hr.form
 have zq:=cj.1
 refine WF.enter (E.h rfl _ _ _) E.EY ?_
 repeat' (first|((first|refine WO.n rfl ?_|refine WO.k rfl ?_);(first|refine aK ?_|refine cM ?_|refine mD ?_))|with_reducible (first|refine WO.nil ?_|refine WC.aa ?_|refine WC.seq ?_|refine WC.block ?_|refine aC ?_))
 refine WC.loop (α:=Nat) (fun k=>[(S3,.slice (some ⟨nx,0,some 1⟩) r.length (2 * r.length + 1)),(S9,.slice rb r.length rc),(dN,.int .i64 ((r.length:Nat):Int)),(fE,.int .i64 ((k:Nat):Int))])
  (fun k H' nx'=>k≤r.length∧nx + 1≤nx'∧an H H' nx∧∃us,dR H' nx nx' nx us (iJ (fun l=>l) r k)) (fun k=>r.length - k)
  ?_ 0 aW ⟨Nat.zero_le _,Nat.le_refl _,an.refl.set (Nat.le_refl _),_,by rw [lu];exact .start (Nat.le_refl _) (by omega) aq⟩
 rintro k H1 aT ⟨hk,cD,a7,us,hu⟩
 have kI:=hu.len
 rw [gq] at kI
 repeat' (first|((first|refine WO.n rfl ?_|refine WO.k rfl ?_);(first|refine aK ?_|(refine ei (fun h=>?_) (fun h=>?_)<;>(try simp only [Int.ofNat_eq_natCast] at h))))|with_reducible (first|refine WO.nil ?_|refine WC.aa ?_|refine WC.seq ?_|refine WC.skip ?_|refine WC.ret ?_|refine WC.exit ?_|refine WC.block ?_)|refine WC.aB rfl ?_|refine WC.ax rfl ?_|with_reducible (first|refine aC ?_|refine dQ ?_|refine eh ?_))
 ·have cI:k < r.length:=by omega
  have j3:r.getD k []=r[k]:=by rw [List.getD_eq_getElem?_getD,List.getElem?_eq_getElem cI];rfl
  have y4:=cj.row k
  obtain ⟨bb,bo,uA,ib,ic,rfl,je,jJ,bC,hi⟩:=hr.at cI
  rw [← j3] at bC hi
  have eO:=a7.rd je jJ
  have zu:=(hi.same a7).up (show nx≤aT by omega)
  repeat' (first|((first|refine WO.n rfl ?_|refine WO.k rfl ?_);(first|refine aK ?_|refine bu ?_|refine aZ ?_))|with_reducible (first|refine WO.nil ?_|refine WC.aa ?_|refine aC ?_))
  refine WO.n rfl ?_
  refine aH.more (nx0:=aT) rfl rfl .nil zu (Nat.le_refl _) (by simp only [List.length_nil];omega) (fun v4 H4 fZ xl g4 lU _=>?_)
  rw [List.nil_append] at g4
  have LM:=(lU nx (by omega)).trans hu.cells
  obtain ⟨vb,vc,rfl⟩:=g4.form
  repeat' (first|((first|refine WO.n rfl ?_|refine WO.k rfl ?_);(first|refine aK ?_|refine aZ ?_|refine fj ?_|refine bO ?_))|with_reducible (first|refine WO.nil ?_|refine WC.aa ?_|refine aC ?_|refine eT ?_))
  have bP:=hu.store (k:=k) (by rw [gq];exact cI) lU (by omega) g4 (by omega)
  have qi:=nc (fun l=>l) r cI
  rw [qi] at bP
  refine ⟨k + 1,by omega,aW,by omega,by omega,(a7.trans lU (by omega)).set (Nat.le_refl _),us.set k (.slice vb (r.getD k []).length vc),?_⟩
  rw [show 0 + k * 1=k by omega]
  exact bP
 ·obtain rfl:k=r.length:=by omega
  rw [m9,List.map_id'] at hu
  exact az (vs:=[_]) rfl ⟨a7,by omega,nx,_,us,rfl,by rw [cw];exact Nat.le_refl _,hu⟩
theorem BN (E:fG A) {lv:Value} {l:List Int} (hl:bS H nx 1 bq lv l) (hm:l.length≤1048576) :
  WF A 72 [lv] H nx fun v H' nx'=>an H H' nx∧nx≤nx'∧GN H' nx nx' v (gP l):=by
 obtain ⟨lb,lc,rfl⟩:=hl.form
 refine WF.enter (E.h rfl _ _ _) E.EW ?_
 repeat' (first|(refine WO.k rfl ?_;refine aK ?_)|with_reducible (first|refine WO.nil ?_|refine WC.aa ?_|refine WC.seq ?_|refine WC.block ?_|refine aC ?_))
 refine WC.loop (α:=Nat×Nat) (fun k=>[([],.slice lb l.length lc),(S3,.int .i64 ((k.2:Nat):Int)),(S4,.int .i64 ((k.1:Nat):Int))])
  (fun k H' nx'=>k.1≤l.length∧H'=H∧nx'=nx∧k.2≤k.1∧(k.2=k.1→k.1=0)∧∀x,l[k.2]?=some x→∀j y,j < k.1→l[j]?=some y→x≤y∧(j < k.2→x < y)) (fun k=>l.length - k.1)
  ?_ (0,0) aW ⟨Nat.zero_le _,rfl,rfl,Nat.le_refl _,fun _=>rfl,fun x _ j y hj=>absurd hj (Nat.not_lt_zero _)⟩
 rintro ⟨k,a⟩ _ _ ⟨hk,rfl,rfl,ha,W7,hle⟩
 simp only at hk ha W7 hle ⊢
 repeat' (first|((first|refine WO.n rfl ?_|refine WO.k rfl ?_);(first|refine cM ?_|(refine ei (fun h=>?_) (fun h=>?_)<;>(try simp only [Int.ofNat_eq_natCast] at h))))|with_reducible (first|refine WO.nil ?_|refine WC.aa ?_|refine WC.drawn ?_|refine WC.seq ?_|refine WC.skip ?_|refine WC.exit ?_|refine WC.block ?_)|refine WC.aB rfl ?_|refine WC.ax rfl ?_|with_reducible (first|refine aC ?_|refine dQ ?_|refine eh ?_))
 ·have cI:k < l.length:=by omega
  obtain ⟨bb,bo,uA,rfl,je,_,_,Dq,uB⟩:=hl.at (by intro e;rw [e] at cI;simp at cI)
  have y5:=List.getElem?_eq_getElem cI
  have RI:=List.getElem?_eq_getElem (show a < l.length by omega)
  have q1:=ft (v:=.int .i64 l[k]) (uB k _ y5)
  have q2:=ft (v:=.int .i64 l[a]) (uB a _ RI)
  generalize l[k]=y at y5 q1
  generalize l[a]=x at RI q2
  have hx:=hle x RI
  repeat' (first|((first|refine WO.n rfl ?_|refine WO.k rfl ?_);(first|refine aK ?_|refine bu ?_|refine aZ ?_|(refine ei (fun h=>?_) (fun h=>?_)<;>(try simp only [Int.ofNat_eq_natCast] at h))|refine bO ?_))|with_reducible (first|refine WO.nil ?_|refine WC.aa ?_|refine WC.skip ?_)|refine WC.aB rfl ?_|refine WC.ax rfl ?_|with_reducible (first|refine aC ?_|refine eT ?_|refine kf ?_))
  ·refine ⟨(k + 1,k),by show l.length - (k + 1) < l.length - k;omega,aW,by show k + 1≤_;omega,rfl,rfl,by show k≤k + 1;omega,fun e=>(by have:k=k + 1:=e;omega),fun x' oT j z hj hz=>?_⟩
   have Ln:l[k]?=some x':=oT
   rw [y5] at Ln
   cases Ln
   have Fw:j < k + 1:=hj
   rcases (show j < k∨j=k by omega) with h1|rfl
   ·have:=(hx j z h1 hz).1
    exact ⟨by omega,fun _=>by omega⟩
   ·rw [y5] at hz;cases hz
    exact ⟨Int.le_refl _,fun h=>absurd h (Nat.lt_irrefl _)⟩
  ·refine ⟨(k + 1,a),by show l.length - (k + 1) < l.length - k;omega,aW,by show k + 1≤_;omega,rfl,rfl,by show a≤k + 1;omega,fun e=>(by have:a=k + 1:=e;omega),fun x' oT j z hj hz=>?_⟩
   have Ln:l[a]?=some x':=oT
   rw [RI] at Ln
   cases Ln
   have Fw:j < k + 1:=hj
   rcases (show j < k∨j=k by omega) with h1|rfl
   ·exact hx j z h1 hz
   ·rw [y5] at hz;cases hz
    refine ⟨by omega,fun h=>?_⟩
    have h2:j < a:=h
    omega
 ·obtain rfl:k=l.length:=by omega
  have Ml:a≤l.length:=ha
  have htl:l.drop a++l.take a=gP l:=by
   by_cases h0:l=[]
   ·subst h0;simp [gP]
   ·have qo:=List.length_pos_iff.2 h0
    have cf:a < l.length:=by
     rcases Nat.lt_or_ge a l.length with h|h
     ·exact h
     ·have:=W7 (by omega);omega
    have RI:=List.getElem?_eq_getElem cf
    have hx:=hle _ RI
    unfold gP
    rw [uR RI (fun y hy=>by
     obtain ⟨j,hj,rfl⟩:=List.getElem_of_mem hy
     exact (hx j _ hj (List.getElem?_eq_getElem hj)).1) (fun j y hj hy=>(hx j y (by omega) hy).2 hj)]
  repeat' (fail)
  refine WO.n rfl ?_
  refine aH.Wc rfl rfl hl Ml (fun v1 yt=>?_)
  refine WO.n rfl ?_
  refine aH.Wd rfl rfl hl Ml (fun v2 JA=>?_)
  refine WO.n rfl ?_
  refine aH.more (nx0:=_) rfl rfl .nil yt (Nat.le_refl _) (by rw [List.length_drop];simp only [List.length_nil];omega) (fun v3 H3 nx3 mG g3 fH _=>?_)
  refine WO.n rfl ?_
  refine aH.more rfl rfl g3 ((JA.same fH).up mG) (by omega) (by rw [List.nil_append,List.length_drop,List.length_take];omega) (fun v4 H4 fZ xl g4 lU _=>?_)
  rw [List.nil_append,htl] at g4
  repeat' (first|(refine WO.k rfl ?_;refine aK ?_)|with_reducible (first|refine WO.nil ?_|refine WC.ret ?_|refine aC ?_|refine kf ?_))
  exact az (vs:=[_]) rfl ⟨fH.trans lU (Nat.le_refl _),by omega,g4⟩
theorem rM (E:fG A) {rv:Value} {r:List (List Int)} (hr:eY H nx 1 bq rv r) (cj:b8 r) :
  WF A 36 [rv] H nx fun v H' nx'=>an H H' nx∧nx≤nx'∧∃b c us,v=.slice (some ⟨b,0,some 1⟩) r.length c∧r.length≤au c∧dR H' nx nx' b us (gI r):=by
 obtain ⟨rb,rc,rfl⟩:=hr.form
 have zq:=cj.1
 refine WF.enter (E.h rfl _ _ _) E.EU ?_
 repeat' (first|((first|refine WO.n rfl ?_|refine WO.k rfl ?_);(first|refine aK ?_|refine cM ?_|refine mD ?_))|with_reducible (first|refine WO.nil ?_|refine WC.aa ?_|refine WC.seq ?_|refine WC.block ?_|refine aC ?_))
 refine WC.loop (α:=Nat) (fun k=>[([],.slice rb r.length rc),(S3,.slice (some ⟨nx,0,some 1⟩) r.length (2 * r.length + 1)),(S4,.int .i64 ((k:Nat):Int))])
  (fun k H' nx'=>k≤r.length∧nx + 1≤nx'∧an H H' nx∧∃us,dR H' nx nx' nx us (iJ gP r k)) (fun k=>r.length - k)
  ?_ 0 aW ⟨Nat.zero_le _,Nat.le_refl _,an.refl.set (Nat.le_refl _),_,by rw [lu];exact .start (Nat.le_refl _) (by omega) aq⟩
 rintro k H1 aT ⟨hk,cD,a7,us,hu⟩
 have kI:=hu.len
 rw [gq] at kI
 repeat' (first|((first|refine WO.n rfl ?_|refine WO.k rfl ?_);(first|refine aK ?_|refine cM ?_|(refine ei (fun h=>?_) (fun h=>?_)<;>(try simp only [Int.ofNat_eq_natCast] at h))))|with_reducible (first|refine WO.nil ?_|refine WC.aa ?_|refine WC.seq ?_|refine WC.skip ?_|refine WC.ret ?_|refine WC.exit ?_|refine WC.block ?_)|refine WC.aB rfl ?_|refine WC.ax rfl ?_|with_reducible (first|refine aC ?_|refine dQ ?_|refine eh ?_))
 ·have cI:k < r.length:=by omega
  have j3:r.getD k []=r[k]:=by rw [List.getD_eq_getElem?_getD,List.getElem?_eq_getElem cI];rfl
  have y4:=cj.row k
  obtain ⟨bb,bo,uA,ib,ic,rfl,je,jJ,bC,hi⟩:=hr.at cI
  rw [← j3] at bC hi
  have eO:=a7.rd je jJ
  have zu:=(hi.same a7).up (show nx≤aT by omega)
  repeat' (refine WO.n rfl ?_;(first|refine bu ?_|refine aZ ?_))
  refine WO.cn rfl ?_
  refine (BN E zu y4).of ?_
  rintro v4 H4 fZ ⟨lU,xl,g4⟩
  have LM:=(lU nx (by omega)).trans hu.cells
  obtain ⟨vb,vc,rfl⟩:=g4.form
  repeat' (first|((first|refine WO.n rfl ?_|refine WO.k rfl ?_);(first|refine aK ?_|refine aZ ?_|refine fj ?_|refine bO ?_))|with_reducible (first|refine WO.nil ?_|refine WC.aa ?_|refine aC ?_|refine eT ?_))
  have bP:=hu.store (k:=k) (by rw [gq];exact cI) lU (by omega) g4 (by rw [BJ];omega)
  rw [nc gP r cI] at bP
  refine ⟨k + 1,by omega,aW,by omega,by omega,(a7.trans lU (by omega)).set (Nat.le_refl _),us.set k (.slice vb (gP (r.getD k [])).length vc),?_⟩
  rw [show 0 + k * 1=k by omega]
  exact bP
 ·obtain rfl:k=r.length:=by omega
  rw [m9] at hu
  exact az (vs:=[_]) rfl ⟨a7,by omega,nx,_,us,rfl,by rw [cw];exact Nat.le_refl _,hu⟩
end Go.Eng

namespace Go.Eng
variable {A:aG} {H H':Heap} {nx nx':Nat} {σ:aP} {L:List Value} {Q:ct}
set_option maxRecDepth 100000
theorem ji {p q q2:List Bool} {agg:Option Nat} {b o:Nat} {cs:List Value} {v u w:Value} {Q:Value→Heap→Nat→Prop} (h1:sl σ p=some (.pointer (some ⟨b,o,none⟩))) (h2:ak H (at_ b)=some (.cells cs)) (h3:partOf cs o agg=some v) (h4:sl σ q=some u) (h5:sl σ q2=some w) (hq:Q (oneOf [v,u,w]) H nx):jc [(.var p,some agg),(.var q,none),(.var q2,none)] Q .ret σ H nx:=by
 refine ⟨[v,u,w],?_,hq⟩
 have e1:A2 σ H (.var p,some agg)=some v:=by
  show (match sl σ p with
   | some (.pointer (some ⟨b,o,none⟩))=>match ak H (at_ b) with
    | some (.cells cs)=>partOf cs o agg
    | _=>none
   | _=>none)=_
  rw [h1]
  simp only [h2]
  exact h3
 have e2:A2 σ H (.var q,none)=some u:=h4
 have e3:A2 σ H (.var q2,none)=some w:=h5
 unfold iu
 rw [e1]
 unfold iu
 rw [e2]
 unfold iu
 rw [e3]
 rfl
def BO (H:Heap) (lo nx:Nat) (v:Value) (es:List Ed):Prop:=
 ∃b c,v=.slice (some ⟨b,0,some 2⟩) es.length c∧es.length≤au c∧lo≤b∧b < nx∧ak H (at_ b)=some (.cells (es.flatMap a5))
theorem BO.sle {lo:Nat} {v:Value} {es:List Ed} (h:BO H lo nx v es):bS H nx 2 a5 v es:=by
 obtain ⟨b,c,rfl,h1,h2,h3,h4⟩:=h
 exact .pre (rest:=[]) (.inl (by rw [List.append_nil];exact h4)) h3 h1 (fun _=>rfl)
theorem BO.frame {lo:Nat} {v:Value} {es:List Ed} (h:BO H lo nx v es) (hs:∀d,lo≤d→d < nx→ak H' (at_ d)=ak H (at_ d)) (hn:nx≤nx'):BO H' lo nx' v es:=by
 obtain ⟨b,c,rfl,h1,h2,h3,h4⟩:=h
 exact ⟨b,c,rfl,h1,h2,by omega,(hs b h2 h3).trans h4⟩
theorem BO.low {lo lo':Nat} {v:Value} {es:List Ed} (h:BO H lo nx v es) (hl:lo'≤lo):BO H lo' nx v es:=by
 obtain ⟨b,c,rfl,h1,h2,h3,h4⟩:=h
 exact ⟨b,c,rfl,h1,by omega,h3,h4⟩
theorem BO.form {lo:Nat} {v:Value} {es:List Ed} (h:BO H lo nx v es):∃a c,v=.slice a es.length c:=h.sle.form
theorem DS (E:fG A) {ev:Value} {es:List Ed} (he:bS H nx 2 a5 ev es) (hm:es.length≤1048576) (hn:∀n c,ev≠.slice none n c) :
  WF A 64 [ev] H nx fun v H' nx'=>an H H' nx∧nx≤nx'∧BO H' nx nx' v es:=by
 obtain ⟨base,ec,rfl⟩:=he.form
 cases base with
 | none=>exact absurd rfl (hn _ _)
 | some a=>
 refine WF.enter (E.h rfl _ _ _) E.Ku ?_
 repeat' (first|((first|refine WO.n rfl ?_|refine WO.k rfl ?_);(first|refine aK ?_|refine gx ?_|refine JE ?_))|with_reducible (first|refine WO.nil ?_|refine WC.aa ?_|refine WC.seq ?_|refine WC.skip ?_)|refine WC.ax rfl ?_|with_reducible refine aC ?_)
 have bM:an H (aw H nx []) nx:=an.refl.set (Nat.le_refl _)
 have Lo:=(he.same bM).up (Nat.le_succ _)
 have eF:=Lo.src (fun _=>rfl)
 refine WO.n rfl ?_
 by_cases h0:es=[]
 ·subst h0
  refine aH.of (Act.P7 rfl rfl eF (by omega)) ?_
  repeat' (first|(refine WO.k rfl ?_;refine aK ?_)|with_reducible (first|refine WO.nil ?_|refine WC.ret ?_|refine aC ?_))
  exact az (vs:=[_]) rfl ⟨bM,Nat.le_succ _,nx,_,rfl,Nat.zero_le _,Nat.le_refl _,Nat.lt_succ_self _,aq⟩
 ·have qo:=List.length_pos_iff.2 h0
  refine aH.of (Act.tX (old:=[]) rfl rfl eF (by omega) (by omega) (m8 _) aq rfl (by show 0 < 0 + es.length;omega) rfl (by unfold small;omega) (by unfold small;omega)) ?_
  repeat' (first|(refine WO.k rfl ?_;refine aK ?_)|with_reducible (first|refine WO.nil ?_|refine WC.ret ?_|refine aC ?_))
  refine az (vs:=[_]) rfl ⟨bM.set (by omega),by omega,nx + 1,_,by rw [Nat.zero_add];rfl,by rw [bK];omega,by omega,by omega,?_⟩
  rw [aq,List.nil_append]
theorem uY (E:fG A) {n:Int} {ev:Value} {es:List Ed} (he:bS H nx 2 a5 ev es) (hm:es.length≤1048576) :
  WF A 39 [.agg #[.int .i64 n,ev]] H nx fun v H' nx'=>an H H' nx∧nx≤nx'∧∃pR,v=.agg #[.int .i64 n,pR]∧bA H' nx nx' 2 pR es.length (es.flatMap a5):=by
 obtain ⟨base,ec,rfl⟩:=he.form
 refine WF.enter (E.h rfl _ _ _) E.Ks ?_
 have bM:an H (aw (aw H nx [.int .i64 n,.slice base es.length ec]) (nx + 1) [.int .i64 0,.slice none 0 0]) nx:=(an.refl.set (Nat.le_refl _)).set (by omega)
 have CU:Rd (aw (aw H nx [.int .i64 n,.slice base es.length ec]) (nx + 1) [.int .i64 0,.slice none 0 0]) nx [.int .i64 n,.slice base es.length ec]:=Rd.skip (by omega) Rd.self
 repeat' (first|((first|refine WO.n rfl ?_|refine WO.k rfl ?_);(first|refine dD ?_|refine jN ?_|refine sE ?_|refine aJ ?_))|with_reducible (first|refine WO.nil ?_|refine WC.aa ?_|refine WC.drawn ?_|refine WC.seq ?_|refine aC ?_))
 have Lo:=(he.same bM).up (show nx≤nx + 1 + 1 by omega)
 refine WO.na rfl ?_
 refine aH.C2 (nx0:=nx + 1 + 1) rfl rfl .nil (Lo.src (fun _=>rfl)) (by omega) (m8 _) (mR _) (by omega) (by unfold small;omega) (by unfold small;omega) ?_
 intro v1 H2 nx2 eW KS bL _
 rw [List.nil_append,Nat.zero_add] at KS
 have B3:=bL.rd (by omega) CU
 refine ⟨a6.look rfl B3 rfl rfl (by simp [jK,ey]) .nil,?_⟩
 have sr:ak H2 (at_ (nx + 1))=some (.cells [.int .i64 0,.slice none 0 0]):=(bL (nx + 1) (by omega)).trans aq
 obtain ⟨vb,vc,rfl⟩:=(bA.sle KS (fun _=>rfl)).form
 repeat' (first|(refine WO.n rfl ?_;(first|refine r9 ?_|refine fL ?_))|with_reducible (first|refine WO.nil ?_|refine WC.ret ?_|refine aC ?_|refine kf ?_))
 refine iz rfl aq rfl ⟨(bM.trans bL (by omega)).set (by omega),by omega,_,rfl,?_⟩
 obtain ⟨q1,q2|⟨b,e,q3,q4,q5⟩⟩:=KS
 ·exact ⟨q1,.inl q2⟩
 ·exact ⟨q1,.inr ⟨b,e,by omega,q4,by rw [ai,if_neg (by omega)];exact q5⟩⟩
theorem y6 (E:fG A) {fv:Value} {fs:List (List Int)} (hf:eY H nx 1 bq fv fs) (hl:fs.length≤1048576) (hr:∀k,(fs.getD k []).length≤1048576) :
  WF A 93 [fv] H nx fun v H' nx'=>H'=H∧nx'=nx∧∃k:Nat,v=.int .i64 (k:Int):=by
 obtain ⟨fb,fc,rfl⟩:=hf.form
 refine WF.enter (E.h rfl _ _ _) E.Bn ?_
 repeat' (first|(refine WO.k rfl ?_;(first|refine aK ?_|refine cM ?_))|with_reducible (first|refine WO.nil ?_|refine WC.aa ?_|refine WC.seq ?_|refine WC.block ?_|refine aC ?_))
 refine WC.loop (α:=Nat×Nat) (fun k=>[(S3,.int .i64 ((k.2:Nat):Int)),(S6,.slice fb fs.length fc),(S7,.int .i64 ((fs.length:Nat):Int)),(S8,.int .i64 ((k.1:Nat):Int))])
  (fun k H' nx'=>k.1≤fs.length∧H'=H∧nx'=nx∧k.2≤k.1) (fun k=>fs.length - k.1)
  ?_ (0,0) aW ⟨Nat.zero_le _,rfl,rfl,Nat.le_refl _⟩
 rintro ⟨k,a⟩ _ _ ⟨hk,rfl,rfl,ha⟩
 simp only at hk ha ⊢
 repeat' (first|((first|refine WO.n rfl ?_|refine WO.k rfl ?_);(first|refine aK ?_|(refine ei (fun h=>?_) (fun h=>?_)<;>(try simp only [Int.ofNat_eq_natCast] at h))))|with_reducible (first|refine WO.nil ?_|refine WC.aa ?_|refine WC.seq ?_|refine WC.skip ?_|refine WC.ret ?_|refine WC.exit ?_|refine WC.block ?_)|refine WC.aB rfl ?_|refine WC.ax rfl ?_|with_reducible (first|refine aC ?_|refine dQ ?_|refine eh ?_))
 ·have cI:k < fs.length:=by omega
  have j3:fs.getD k []=fs[k]:=by rw [List.getD_eq_getElem?_getD,List.getElem?_eq_getElem cI];rfl
  have y4:=hr k
  obtain ⟨bb,bo,uA,ib,ic,rfl,je,jJ,bC,hi⟩:=hf.at cI
  rw [← j3] at bC hi
  repeat' (first|((first|refine WO.n rfl ?_|refine WO.k rfl ?_);(first|refine aK ?_|refine cM ?_|refine bu ?_|refine aZ ?_|(refine LQ (fun h=>?_) (fun h=>?_)<;>(try simp only [Int.ofNat_eq_natCast] at h))|refine bO ?_))|with_reducible (first|refine WO.nil ?_|refine WC.aa ?_|refine WC.seq ?_|refine WC.skip ?_)|refine WC.aB rfl ?_|refine WC.ax rfl ?_|with_reducible (first|refine aC ?_|refine eT ?_))
  ·exact ⟨(k + 1,a + 1),by show fs.length - (k + 1) < fs.length - k;omega,aW,by show k + 1≤_;omega,rfl,rfl,by show a + 1≤k + 1;omega⟩
  ·exact ⟨(k + 1,a),by show fs.length - (k + 1) < fs.length - k;omega,aW,by show k + 1≤_;omega,rfl,rfl,by show a≤k + 1;omega⟩
 ·exact az (vs:=[_]) rfl ⟨rfl,rfl,a,rfl⟩
theorem rN (E:fG A) {n:Int} {v:Nat} {ev rv:Value} {r:List (List Int)} (hr:eY H nx 1 bq rv r) (cj:b8 r) (hl:(r.length:Int)=n) (hv:v < r.length) :
  WF A 91 [.agg #[.int .i64 n,ev],rv,.agg #[.int .i64 (v:Int),.int .i64 (cg (r.getD v []))]] H nx fun x H' nx'=>an H H' nx∧nx≤nx'∧x=.bool true:=by
 obtain ⟨rb,rc,rfl⟩:=hr.form
 have zq:=cj.1
 have j3:r.getD v []=r[v]:=by rw [List.getD_eq_getElem?_getD,List.getElem?_eq_getElem hv];rfl
 have y4:=cj.row v
 refine WF.enter (E.h rfl _ _ _) E.EX ?_
 obtain ⟨bb,bo,uA,ib,ic,rfl,je,jJ,bC,hi⟩:=hr.at hv
 rw [← j3] at bC hi
 have bM:an H (aw (aw H nx [.int .i64 n,ev]) (nx + 1) [.int .i64 (v:Int),.int .i64 (cg (r.getD v []))]) nx:=(an.refl.set (Nat.le_refl _)).set (by omega)
 have RJ:=bM.rd je jJ
 have HN:=(hi.same bM).up (show nx≤nx + 1 + 1 by omega)
 generalize hg:r.getD v []=l at *
 repeat' (first|((first|refine WO.n rfl ?_|refine WO.k rfl ?_);(first|refine aK ?_|refine dD ?_|refine cM ?_|refine jN ?_|refine kg ?_|refine aJ ?_|refine bu ?_|refine aZ ?_|(refine ei (fun h=>?_) (fun h=>?_)<;>(try simp only [Int.ofNat_eq_natCast] at h))|(refine C9 (fun h=>?_) (fun h=>?_)<;>(try simp only [Int.ofNat_eq_natCast] at h))|(refine zl (fun h=>?_) (fun h=>?_)<;>(try simp only [Int.ofNat_eq_natCast] at h))))|refine WO.dC rfl ?_|refine WO.nI rfl ?_|with_reducible (first|refine WO.nil ?_|refine WC.aa ?_|refine WC.drawn ?_|refine WC.seq ?_|refine WC.skip ?_|refine WC.ret ?_)|refine WC.aB rfl ?_|refine WC.ax rfl ?_|with_reducible (first|refine aC ?_|refine gM ?_))
 all_goals try (exfalso;omega)
 ·exact az (vs:=[_]) rfl ⟨bM,by omega,rfl⟩
 ·have h0:l=[]:=List.eq_nil_of_length_eq_zero (by omega)
  exfalso
  rw [h0] at h
  exact h rfl
 ·have cy:l≠[]:=fun e=>by subst e;simp at *
  obtain ⟨x,t,rfl⟩:=List.exists_cons_of_ne_nil cy
  refine WO.cn rfl ?_
  refine (wb E (x:=x) HN y4 (by simp)).of ?_
  rintro _ _ _ ⟨rfl,rfl,rfl⟩
  repeat' (first|(refine WO.k rfl ?_;refine aK ?_)|with_reducible (first|refine WO.nil ?_|refine WC.ret ?_|refine aC ?_|refine kf ?_))
  exact az (vs:=[_]) rfl ⟨bM,by omega,rfl⟩
end Go.Eng

namespace Go.Eng
variable {A:aG} {H H':Heap} {nx nx':Nat} {σ:aP} {L:List Value} {Q:ct}
set_option maxRecDepth 100000
theorem Hg (E:fG A) {lv:Value} {l:List Int} (hl:bS H nx 1 bq lv l) (hm:l.length≤1048576) :
  WF A 32 [lv,.int .i64 (cg l)] H nx fun v H' nx'=>H'=H∧nx'=nx∧∃q:Int,v=.int .i64 q∧q + 1=((atF l:Nat):Int)∧-1≤q∧q≤0:=by
 refine (jI E hl hm).of ?_
 rintro _ _ _ ⟨rfl,rfl,⟨i,rfl,h1,h2⟩|⟨rfl,iQ⟩⟩
 ·cases l with
  | nil=>simp at h1
  | cons x t=>
   have h0:i=0:=by
    rcases Nat.eq_zero_or_pos i with h|h
    ·exact h
    ·exact absurd rfl (h2 0 h)
   subst h0
   exact ⟨rfl,rfl,0,rfl,rfl,by omega,by omega⟩
 ·cases l with
  | nil=>exact ⟨rfl,rfl,-1,rfl,rfl,by omega,by omega⟩
  | cons x t=>exact absurd (List.mem_cons_self (a:=x) (l:=t)) iQ
theorem BP (E:fG A) {lo b c v hb hc':Nat} {us:List Value} {r:List (List Int)} {h:Int} (hu:dR H lo nx b us r) (cj:b8 r) (hc:r.length≤au c) (hv:v < r.length) (nG:hb < nx) (L3:ak H (at_ hb)=some (.cells [.int .i64 h])) (ik:∀(i:Nat) (u:Value),us[i]?=some u→bj u≠some hb) (pW:lo≤nx) :
  WF A 96 [.slice (some ⟨b,0,some 1⟩) r.length c,.agg #[.int .i64 (v:Int),.int .i64 (cg (r.getD v []))],.slice (some ⟨hb,0,some 1⟩) 1 hc'] H nx fun _ H' nx'=>an H H' lo∧nx≤nx'∧∃Xx,dR H' lo nx' b Xx (gJ r v h):=by
 have zq:=cj.1
 have y4:=cj.row v
 refine WF.enter (E.h rfl _ _ _) E.VB ?_
 have bM:an H (aw H nx [.int .i64 (v:Int),.int .i64 (cg (r.getD v []))]) nx:=an.refl.set (Nat.le_refl _)
 have hu0:=hu.same bM (Nat.le_succ nx)
 have hbR:=Rd.own hu.cells
 have B2:=hu.h2
 have abY:=hu.h1
 have kI:=hu.len
 obtain ⟨u,hg,F1,dY⟩:=hu0.at hv
 have cy:=ik v u hg
 have aaZ:=(bM hb nG).trans L3
 obtain ⟨ua,uc,rfl⟩:=dY.form
 repeat' (first|((first|refine WO.n rfl ?_|refine WO.k rfl ?_);(first|refine dD ?_|refine jN ?_|refine aJ ?_|refine bu ?_|refine aZ ?_))|with_reducible (first|refine WO.nil ?_|refine WC.aa ?_|refine WC.drawn ?_|refine WC.seq ?_|refine aC ?_))
 refine WO.cn rfl ?_
 refine (Hg E dY.sle y4).of ?_
 rintro _ _ _ ⟨rfl,rfl,q,rfl,hq,wO,HI⟩
 repeat' (first|((first|refine WO.n rfl ?_|refine WO.k rfl ?_);(first|refine aK ?_|refine dD ?_|refine aJ ?_|refine bu ?_|refine aZ ?_|refine Da ?_))|with_reducible (first|refine WO.nil ?_|refine WC.drawn ?_|refine aC ?_|refine kf ?_))
 refine WO.RB (h:=h) dY rfl (by show some (Value.int .i64 (q + 1))=_;rw [hq]) rfl aaZ cy y4 (fun H2 sr nk=>?_)
 have vJ:∀d,bj (.slice ua (r.getD v []).length uc)=some d→lo≤d∧d < nx + 1∧d≠b:=fun d hd=>dY.blk hd
 have SF:ak H2 (at_ nx)=some (.cells [.int .i64 (v:Int),.int .i64 (cg (r.getD v []))]):=(nk nx (by omega) (fun e=>by
  have h1:=(hu.at hv)
  obtain ⟨w,g1,_,g3⟩:=h1
  rw [hg] at g1
  cases g1
  have:=(g3.blk e).2.1
  omega)).trans aq
 have hbc:ak H2 (at_ b)=some (.cells us):=(nk b (by omega) (fun e=>(vJ b e).2.2 rfl)).trans hu0.cells
 have aa0:=Rd.own SF
 refine ⟨a6.look rfl aa0 rfl rfl (by simp [jK,ey]) .nil,?_⟩
 repeat' (first|(refine WO.n rfl ?_;(first|refine aZ ?_|refine fj ?_))|with_reducible (first|refine WO.nil ?_|refine kf ?_))
 refine hC (vs:=[]) rfl ⟨fun d hd=>?_,by omega,us.set v (.slice (some ⟨nx + 1,0,some 1⟩) (fm (r.getD v []) h).length (2 * (fm (r.getD v []) h).length)),?_⟩
 ·rw [ai,if_neg (by omega),nk d (by omega) (fun e=>by have:=(vJ d e).1;omega)]
  exact bM d (by omega)
 ·have sq:=BK (r.getD v []) h
  rw [show 0 + v * 1=v by omega]
  refine hu0.put hg (show nx + 1≤nx + 1 + 1 by omega) (fun d h1 h2 h3 h4=>?_) (.inr ⟨nx + 1,_,rfl,by omega,by rw [bK];exact Nat.le_refl _,by rw [bK];omega,by omega,by omega,by omega,?_⟩) (fun d hd=>by cases hd;omega) aq
  ·rw [ai,if_neg h3,nk d (by omega) h4]
  ·rw [ai,if_neg (by omega)];exact sr
end Go.Eng
