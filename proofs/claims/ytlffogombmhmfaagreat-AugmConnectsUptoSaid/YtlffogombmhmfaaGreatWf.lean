import Derived.Test.YtlffogombmhmfaaGreatWe
/- Walks over the program: part 6. -/

namespace Go.Eng
variable {A:aG} {H H':Heap} {nx nx':Nat} {σ:aP} {L:List Value} {Q:ct}
set_option maxRecDepth 100000
structure HY (H:Heap) (lo nx b q qc:Nat) (us:List Value) (r:List (List Int)):Prop where
 b1:lo≤b
 b2:b < nx
 q1:lo≤q
 q2:q < nx
 cells:ak H (at_ b)=some (.cells (us++[.slice (some ⟨q,0,some 1⟩) 1 qc]))
 mark:ak H (at_ q)=some (.cells [.int .i64 (-78)])
 len:us.length=r.length
 row:∀(i:Nat) (u:Value) (l:List Int),us[i]?=some u→r[i]?=some l→DW H lo nx 1 bq (-77) u l
theorem HY.frame {lo b q qc:Nat} {us:List Value} {r:List (List Int)} (h:HY H lo nx b q qc us r) (hs:∀d,lo≤d→d < nx→ak H' (at_ d)=ak H (at_ d)) (hn:nx≤nx'):HY H' lo nx' b q qc us r:=
 ⟨h.b1,Nat.lt_of_lt_of_le h.b2 hn,h.q1,Nat.lt_of_lt_of_le h.q2 hn,(hs b h.b1 h.b2).trans h.cells,(hs q h.q1 h.q2).trans h.mark,h.len,fun i u l hu hl=>(h.row i u l hu hl).frame hs hn⟩
theorem HY.E7 {lo b q qc:Nat} {us:List Value} {r:List (List Int)} (h:HY H lo nx b q qc us r):eY H nx 1 bq (.slice (some ⟨b,0,some 1⟩) r.length (2 * (r.length + 1))) r:=by
 refine ⟨us,h.len,?_,fun i u l hu hl=>(h.row i u l hu hl).sle (fun _=>rfl)⟩
 rw [← h.len]
 exact .pre (rest:=[.slice (some ⟨q,0,some 1⟩) 1 qc]) (.inl (by rw [m5];exact h.cells)) h.b2 (by rw [bK];omega) (fun _=>rfl)
theorem bA.WK {nx0 n:Nat} {v:Value} {cs:List Value} (h:bA H nx0 nx 1 v n cs):∃a c,v=.slice a n c:=by
 obtain ⟨_,⟨rfl,h0⟩|⟨d,rfl,_⟩⟩:=h
 ·exact ⟨_,_,by rw [h0]⟩
 ·exact ⟨_,_,rfl⟩
def TwS (H:Heap) (lo nx:Nat) (v:Value) (us:List Value) (r:List (List Int)) (k:Nat):Prop:=
 us.length=k∧bA H lo nx 1 v us.length us∧∀(i:Nat) (u:Value) (l:List Int),us[i]?=some u→r[i]?=some l→DW H lo nx 1 bq (-77) u l∧∀d,bj u=some d→bj v≠some d
theorem GN.mke {lo:Nat} {v:Value} {l:List Int} {x:Int} (h:GN H lo nx v (l++[x])):∃d,v=.slice (some ⟨d,0,some 1⟩) (l.length + 1) (2 * (l.length + 1))∧lo≤d∧d < nx∧ak H (at_ d)=some (.cells ((l++[x]).flatMap bq)):=by
 have e:(l++[x]).length=l.length + 1:=by rw [List.length_append];rfl
 rcases h with ⟨_,h⟩|⟨d,rfl,_,h1,h2,h3⟩
 ·rw [h] at e;simp at e
 ·rw [e]
  exact ⟨d,rfl,h1,h2,by rw [lq];exact h3⟩
theorem XU {α:Type} {lo z d:Nat} {enc:α→List Value} {x:α} {v:Value} {xs:List α} (h:DW H lo nx z enc x v xs) (hd:bj v=some d):lo≤d∧d < nx:=by
 obtain ⟨e,rfl,h1,h2,_⟩:=h
 cases hd
 exact ⟨h1,h2⟩
theorem DY (E:fG A) {rv:Value} {r:List (List Int)} (hr:eY H nx 1 bq rv r) (hl:r.length≤100000) (dY:∀k,(r.getD k []).length≤100000) :
  WF A 8 [rv] H nx fun v H' nx'=>an H H' nx∧nx≤nx'∧∃b q qc us,v=.slice (some ⟨b,0,some 1⟩) r.length (2 * (r.length + 1))∧HY H' nx nx' b q qc us r:=by
 obtain ⟨rb,rc,rfl⟩:=hr.form
 refine WF.enter (E.h rfl _ _ _) E.Kk ?_
 repeat' (first|(refine WO.k rfl ?_;refine aK ?_)|with_reducible (first|refine WO.nil ?_|refine WC.aa ?_|refine WC.seq ?_|refine WC.block ?_|refine aC ?_))
 refine WC.loop (α:=Nat×Value) (fun k=>[([],.slice rb r.length rc),(S3,k.2),(S4,.int .i64 ((k.1:Nat):Int))])
  (fun k H' nx'=>k.1≤r.length∧nx≤nx'∧an H H' nx∧∃us,TwS H' nx nx' k.2 us r k.1) (fun k=>r.length - k.1)
  ?_ (0,.slice none 0 0) aW ⟨Nat.zero_le _,Nat.le_refl _,.refl,[],rfl,.nil,fun i u l hu=>by simp at hu⟩
 rintro ⟨k,vk⟩ H1 aT ⟨hk,cD,a7,us,kI,hg,XK⟩
 simp only at hk hg XK kI ⊢
 obtain ⟨ka,kc,hvk⟩:=hg.WK
 subst hvk
 repeat' (first|((first|refine WO.n rfl ?_|refine WO.k rfl ?_);(first|refine cM ?_|refine gx ?_|(refine ei (fun h=>?_) (fun h=>?_)<;>(try simp only [Int.ofNat_eq_natCast] at h))))|with_reducible (first|refine WO.nil ?_|refine WC.aa ?_|refine WC.drawn ?_|refine WC.seq ?_|refine WC.skip ?_|refine WC.exit ?_|refine WC.block ?_)|refine WC.aB rfl ?_|refine WC.ax rfl ?_|with_reducible (first|refine aC ?_|refine dQ ?_|refine eh ?_))
 ·have cI:k < r.length:=by omega
  have j3:r.getD k []=r[k]:=by rw [List.getD_eq_getElem?_getD,List.getElem?_eq_getElem cI];rfl
  have y4:=dY k
  obtain ⟨bb,bo,uA,ib,ic,rfl,je,jJ,bC,hi⟩:=hr.at cI
  rw [← j3] at bC hi
  have eO:=a7.rd je jJ
  have zu:=(hi.same a7).up cD
  repeat' (refine WO.n rfl ?_;(first|refine cM ?_|refine bu ?_|refine aZ ?_))
  refine WO.na rfl ?_
  refine aH.more (nx0:=aT) rfl rfl .nil zu (Nat.le_refl _) (by simp only [List.length_nil];omega) (fun v2 H2 nx2 eW g2 bL _=>?_)
  rw [List.nil_append] at g2
  have lS:=bL.rd (by omega) eO
  refine ⟨a6.look rfl lS (fX bC) rfl gn .nil,?_⟩
  obtain ⟨va,vc,rfl⟩:=g2.form
  repeat' (refine WO.n rfl ?_;refine gx ?_)
  have BU:an H2 (aw H2 nx2 [.int .i64 (-77)]) nx2:=an.refl.set (Nat.le_refl _)
  refine WO.na rfl ?_
  refine aH.more (m:=[-77]) rfl rfl (g2.frame (H':=aw H2 nx2 [.int .i64 (-77)]) (fun d _ hd=>BU d hd) (Nat.le_succ nx2)) (.pre (xs:=[-77]) (b:=nx2) (c:=2 * 1 + 1) (rest:=[]) (.inl aq) (by omega) (by show 1≤1;omega) (fun _=>rfl)) (by omega) (by simp only [List.length_cons,List.length_nil];omega) (fun v4 H4 fZ xl g4 lU _=>?_)
  have NP:an H1 H4 aT:=bL.trans ((BU.low (by omega)).trans lU (Nat.le_refl _)) (Nat.le_refl _)
  have abf:=NP.rd (by omega) eO
  refine ⟨a6.look rfl abf (fX bC) rfl gn .nil,?_⟩
  obtain ⟨d,rfl,MX,y9,NO⟩:=g4.mke
  have zp:(r.getD k []).length≤au (2 * ((r.getD k []).length + 1)):=by rw [bK];omega
  have L0:=hg.same NP (by omega:aT≤fZ)
  repeat' (refine WO.n rfl ?_;(first|refine gx ?_|refine Ba ?_))
  refine WO.n rfl ?_
  have Hn:an H4 (aw H4 fZ [.slice (some ⟨d,0,some 1⟩) (r.getD k []).length (2 * ((r.getD k []).length + 1))]) fZ:=an.refl.set (Nat.le_refl _)
  refine aH.wZ (nx0:=nx) (m:=1) (new:=[.slice (some ⟨d,0,some 1⟩) (r.getD k []).length (2 * ((r.getD k []).length + 1))]) rfl rfl (L0.same Hn (Nat.le_succ fZ)) (dT Rd.self rfl) (by omega) (by omega) rfl (by unfold small;omega) (by unfold small;omega) ?_
  intro H5 hc5 WE
  have Sd:∀e,e < fZ→bj (.slice ka us.length kc)≠some e→ak H5 (at_ e)=ak H4 (at_ e):=fun e he cy=>by
   rw [WE e (by omega) (fun c z' q eq=>by
    obtain ⟨_,⟨e1,_⟩|⟨g,e1,_⟩⟩:=hg
    ·rw [e1] at eq;cases eq
    ·rw [e1] at eq cy;cases eq;exact cy rfl)]
   exact Hn e he
  have HX:∀e,bj (.slice ka us.length kc)=some e→nx≤e∧e < aT:=fun e he=>by
   obtain ⟨_,⟨e1,_⟩|⟨g,e1,g1,g2,_⟩⟩:=hg
   ·rw [e1] at he;cases he
   ·rw [e1] at he;cases he;exact ⟨g1,g2⟩
  have T3:(us++[Value.slice (some ⟨d,0,some 1⟩) (r.getD k []).length (2 * ((r.getD k []).length + 1))]).length=us.length + 1:=by rw [List.length_append];rfl
  repeat' (first|((first|refine WO.n rfl ?_|refine WO.k rfl ?_);(first|refine aK ?_|refine bO ?_))|with_reducible (first|refine WO.nil ?_|refine WC.aa ?_|refine aC ?_|refine eT ?_|refine kf ?_))
  refine ⟨(k + 1,.slice (some ⟨fZ + 1,0,some 1⟩) (us.length + 1) (2 * (us.length + 1))),by show r.length - (k + 1) < r.length - k;omega,aW,by show k + 1≤_;omega,by omega,fun e he=>?_,us++[.slice (some ⟨d,0,some 1⟩) (r.getD k []).length (2 * ((r.getD k []).length + 1))],by rw [T3,kI],?_,fun i u l hu hl=>?_⟩
  ·rw [Sd e (by omega) (fun h=>by have:=(HX e h).1;omega)]
   exact (NP e (by omega)).trans (a7 e he)
  ·rw [T3]
   exact ⟨by rw [T3];omega,.inr ⟨fZ + 1,rfl,by omega,by omega,hc5⟩⟩
  ·by_cases hi:i < k
   ·rw [List.getElem?_append_left (by omega)] at hu
    obtain ⟨g1,g2⟩:=XK i u l hu hl
    obtain ⟨e,rfl,h1,h2,h3⟩:=g1
    refine ⟨⟨e,rfl,h1,by omega,?_⟩,fun e' vd=>?_⟩
    ·rw [Sd e (by omega) (g2 e rfl),NP e h2]
     exact h3
    ·cases vd
     intro h
     cases h
     omega
   ·have cf:=(List.getElem?_eq_some_iff.1 hu).1
    rw [T3] at cf
    obtain rfl:i=k:=by omega
    rw [List.getElem?_append_right (by omega),kI,Nat.sub_self] at hu
    cases hu
    rw [j3,List.getElem?_eq_getElem cI] at *
    cases hl
    refine ⟨⟨d,rfl,by omega,by omega,?_⟩,fun e' vd=>?_⟩
    ·rw [Sd d (by omega) (fun h=>by have:=(HX d h).2;omega)]
     exact NO
    ·cases vd
     intro h
     cases h
     omega
 ·have hkr:k=r.length:=by omega
  subst hkr
  have bL:an H1 (aw (aw H1 aT [.int .i64 (-78)]) (aT + 1) [.slice (some ⟨aT,0,some 1⟩) 1 (2 * 1 + 1)]) aT:=(an.refl.set (Nat.le_refl _)).set (by omega)
  refine WO.n rfl ?_
  refine aH.wZ (nx0:=nx) (m:=1) (new:=[.slice (some ⟨aT,0,some 1⟩) 1 (2 * 1 + 1)]) rfl rfl (hg.same bL (show aT≤aT + 1 + 1 by omega)) (dT Rd.self rfl) (by omega) (by omega) rfl (by unfold small;omega) (by unfold small;omega) ?_
  intro H5 hc5 WE
  have zp:r.length≤au (2 * (us.length + 1)):=by rw [bK];omega
  repeat' (first|((first|refine WO.n rfl ?_|refine WO.k rfl ?_);(first|refine aK ?_|refine cM ?_|refine Ba ?_))|with_reducible (first|refine WO.nil ?_|refine WC.ret ?_|refine aC ?_))
  have HX:∀e,bj (.slice ka us.length kc)=some e→nx≤e∧e < aT:=fun e he=>by
   obtain ⟨_,⟨e1,_⟩|⟨g,e1,g1,g2,_⟩⟩:=hg
   ·rw [e1] at he;cases he
   ·rw [e1] at he;cases he;exact ⟨g1,g2⟩
  have hf:∀e,e < aT + 1 + 1→bj (.slice ka us.length kc)≠some e→ak H5 (at_ e)=ak (aw (aw H1 aT [.int .i64 (-78)]) (aT + 1) [.slice (some ⟨aT,0,some 1⟩) 1 (2 * 1 + 1)]) (at_ e):=fun e he cy=>
   WE e he (fun c z' q eq=>by
    obtain ⟨_,⟨e1,_⟩|⟨g,e1,_⟩⟩:=hg
    ·rw [e1] at eq;cases eq
    ·rw [e1] at eq cy;cases eq;exact cy rfl)
  refine az (vs:=[_]) rfl ⟨fun e he=>?_,by omega,aT + 1 + 1,aT,2 * 1 + 1,us,by rw [kI];rfl,by omega,by omega,cD,by omega,hc5,?_,kI,fun i u l hu hl=>?_⟩
  ·rw [hf e (by omega) (fun h=>by have:=(HX e h).1;omega)]
   exact (bL e (by omega)).trans (a7 e he)
  ·rw [hf aT (by omega) (fun h=>by have:=(HX _ h).2;omega),ai,if_neg (by omega),ai,if_pos rfl]
  ·obtain ⟨g1,g2⟩:=XK i u l hu hl
   obtain ⟨e,rfl,h1,h2,h3⟩:=g1
   refine ⟨e,rfl,h1,by omega,?_⟩
   rw [hf e (by omega) (g2 e rfl),bL e h2]
   exact h3
end Go.Eng

namespace Go.Eng
variable {A:aG} {H H':Heap} {nx nx':Nat} {σ:aP} {L:List Value} {Q:ct}
set_option maxRecDepth 100000
theorem u5 (E:fG A) {n:Int} {av bv:Value} {es:List Ed} (ha:bS H nx 2 a5 av es) (hb:bS H nx 2 a5 bv es) (hm:es.length≤1048576) :
  WF A 14 [.agg #[.int .i64 n,av],.agg #[.int .i64 n,bv]] H nx fun v H' nx'=>an H H' nx∧nx≤nx'∧v=.bool true:=by
 obtain ⟨ab,ac,rfl⟩:=ha.form
 obtain ⟨bb,bc,rfl⟩:=hb.form
 refine WF.enter (E.h rfl _ _ _) E.Ko ?_
 have bM:an H (aw (aw H nx [.int .i64 n,.slice ab es.length ac]) (nx + 1) [.int .i64 n,.slice bb es.length bc]) nx:=(an.refl.set (Nat.le_refl _)).set (by omega)
 have p0:Rd (aw (aw H nx [.int .i64 n,.slice ab es.length ac]) (nx + 1) [.int .i64 n,.slice bb es.length bc]) nx [.int .i64 n,.slice ab es.length ac]:=Rd.skip (by omega) Rd.self
 have p1:Rd (aw (aw H nx [.int .i64 n,.slice ab es.length ac]) (nx + 1) [.int .i64 n,.slice bb es.length bc]) (nx + 1) [.int .i64 n,.slice bb es.length bc]:=Rd.self
 repeat' (first|((first|refine WO.n rfl ?_|refine WO.k rfl ?_);(first|refine aK ?_|refine dD ?_|refine cM ?_|refine jN ?_|refine kg ?_|refine aJ ?_|(refine om (fun h=>?_) (fun h=>?_)<;>(try simp only [Int.ofNat_eq_natCast] at h))))|refine WO.dC rfl ?_|refine WO.nI rfl ?_|with_reducible (first|refine WO.nil ?_|refine WC.aa ?_|refine WC.seq ?_|refine WC.skip ?_|refine WC.ret ?_|refine WC.block ?_)|refine WC.aB rfl ?_|refine WC.ax rfl ?_|with_reducible (first|refine aC ?_|refine gM ?_))
 all_goals try (exfalso;omega)
 refine WC.loop (α:=Nat) (fun k=>[(S2,.pointer (some ⟨nx,0,none⟩)),(S3,.pointer (some ⟨nx + 1,0,none⟩)),(S5,.int .i64 ((k:Nat):Int))])
  (fun k H' nx'=>k≤es.length∧nx'=nx + 1 + 1∧H'=aw (aw H nx [.int .i64 n,.slice ab es.length ac]) (nx + 1) [.int .i64 n,.slice bb es.length bc]) (fun k=>es.length - k)
  ?_ 0 aW ⟨Nat.zero_le _,rfl,rfl⟩
 rintro k H1 aT ⟨hk,e1,e2⟩
 rw [e1]
 have q0:Rd H1 nx [.int .i64 n,.slice ab es.length ac]:=by rw [e2];exact p0
 have q1:Rd H1 (nx + 1) [.int .i64 n,.slice bb es.length bc]:=by rw [e2];exact p1
 have a7:an H H1 nx:=by rw [e2];exact bM
 repeat' (first|((first|refine WO.n rfl ?_|refine WO.k rfl ?_);(first|refine aK ?_|refine dD ?_|refine cM ?_|refine aJ ?_|(refine ei (fun h=>?_) (fun h=>?_)<;>(try simp only [Int.ofNat_eq_natCast] at h))))|with_reducible (first|refine WO.nil ?_|refine WC.aa ?_|refine WC.drawn ?_|refine WC.seq ?_|refine WC.skip ?_|refine WC.ret ?_|refine WC.exit ?_|refine WC.block ?_)|refine WC.aB rfl ?_|refine WC.ax rfl ?_|with_reducible (first|refine aC ?_|refine dQ ?_|refine eh ?_))
 ·have cI:k < es.length:=by omega
  obtain ⟨ba,oa,ca,rfl,hba,_,_,har,had⟩:=ha.at (fun e=>by rw [e] at cI;simp at cI)
  obtain ⟨bb',ob,cb,rfl,je,_,_,vA,B2⟩:=hb.at (fun e=>by rw [e] at cI;simp at cI)
  have y5:=List.getElem?_eq_getElem cI
  have ta:take? 2 (ca.drop (oa + k * 2))=some [.int .i64 (es[k]).1,.int .i64 (es[k]).2]:=had k _ y5
  have tb:take? 2 (cb.drop (ob + k * 2))=some [.int .i64 (es[k]).1,.int .i64 (es[k]).2]:=B2 k _ y5
  have acg:=a7.rd hba har
  have ach:=a7.rd je vA
  repeat' ((first|refine WO.n rfl ?_|refine WO.k rfl ?_);(first|refine dD ?_|refine aJ ?_|refine MT ?_|refine aZ ?_))
  refine WO.k rfl ?_
  refine aH.of (Act.Zv E.q49 rfl rfl) ?_
  rw [decide_eq_false (fun h=>h rfl)]
  repeat' (first|((first|refine WO.n rfl ?_|refine WO.k rfl ?_);(first|refine aK ?_|refine bO ?_))|with_reducible (first|refine WO.nil ?_|refine WC.aa ?_|refine WC.skip ?_)|refine WC.ax rfl ?_|with_reducible (first|refine aC ?_|refine eT ?_|refine kf ?_))
  exact ⟨k + 1,by omega,aW,by omega,rfl,e2⟩
 ·exact az (vs:=[_]) rfl ⟨a7,by omega,rfl⟩
theorem u6 (E:fG A) {n:Int} {lo:Nat} {av bv:Value} {es:List Ed} (ha:DW H lo nx 2 a5 (-7,7) av es) (hb:bS H nx 2 a5 bv es) (hm:es.length≤1000000) :
  WF A 11 [.agg #[.int .i64 n,av],.agg #[.int .i64 n,bv]] H nx fun v H' nx'=>an H H' nx∧nx≤nx'∧v=.bool true:=by
 have hsa:=ha.sle (fun _=>rfl)
 obtain ⟨d,rfl,h1,h2,h3⟩:=id ha
 obtain ⟨bb,bc,rfl⟩:=hb.form
 refine WF.enter (E.h rfl _ _ _) E.Kl ?_
 have bM:an H (aw (aw H nx [.int .i64 n,.slice (some ⟨d,0,some 2⟩) es.length (2 * (es.length + 1))]) (nx + 1) [.int .i64 n,.slice bb es.length bc]) nx:=(an.refl.set (Nat.le_refl _)).set (by omega)
 have p0:Rd (aw (aw H nx [.int .i64 n,.slice (some ⟨d,0,some 2⟩) es.length (2 * (es.length + 1))]) (nx + 1) [.int .i64 n,.slice bb es.length bc]) nx [.int .i64 n,.slice (some ⟨d,0,some 2⟩) es.length (2 * (es.length + 1))]:=Rd.skip (by omega) Rd.self
 have p1:Rd (aw (aw H nx [.int .i64 n,.slice (some ⟨d,0,some 2⟩) es.length (2 * (es.length + 1))]) (nx + 1) [.int .i64 n,.slice bb es.length bc]) (nx + 1) [.int .i64 n,.slice bb es.length bc]:=Rd.self
 repeat' (first|((first|refine WO.n rfl ?_|refine WO.k rfl ?_);(first|refine aK ?_|refine jN ?_|refine aJ ?_))|with_reducible (first|refine WO.nil ?_|refine WC.aa ?_|refine WC.drawn ?_|refine WC.seq ?_|refine aC ?_))
 refine WO.cn rfl ?_
 refine (u5 E (n:=n) ((hsa.same bM).up (show nx≤nx + 1 + 1 by omega)) ((hb.same bM).up (by omega)) (by omega)).of ?_
 rintro _ H1 aT ⟨a7,cD,rfl⟩
 have bp:=bM.trans a7 (by omega)
 have q0:=a7.rd (by omega) p0
 have q1:=a7.rd (by omega) p1
 have MX:Rd H1 d ((es++[(-7,7)]).flatMap a5):=bp.rd h2 (Rd.own h3)
 have zp:es.length + 1≤au (2 * (es.length + 1)):=by rw [bK];omega
 have SU:take? 2 (((es++[(-7,7)]).flatMap a5).drop (0 + 0 * 2 + es.length * 2))=some [.int .i64 (-7),.int .i64 7]:=by
  rw [List.flatMap_append,show 0 + 0 * 2 + es.length * 2=(es.flatMap a5).length by rw [mR];omega,List.drop_left]
  rfl
 repeat' (first|(refine WO.n rfl ?_;(first|refine aK ?_|refine dD ?_|refine cM ?_|refine r9 ?_|refine aJ ?_|refine MT ?_|refine aZ ?_|refine Ba ?_|refine bO ?_))|refine WO.dC rfl ?_)
 refine WO.n rfl ?_
 refine aH.of (Act.Qd E.q49 rfl rfl) ?_
 rw [decide_eq_true (show ((-7:Int),(7:Int))=(Int.negSucc 6,Int.ofNat 7) from rfl)]
 repeat' (first|((first|refine WO.n rfl ?_|refine WO.k rfl ?_);(first|refine aK ?_|refine kg ?_))|with_reducible (first|refine WO.nil ?_|refine WC.ret ?_|refine aC ?_|refine kf ?_))
 exact az (vs:=[_]) rfl ⟨bp,by omega,rfl⟩
theorem u7 (E:fG A) {lo b q qc:Nat} {us:List Value} {rv:Value} {r:List (List Int)} (ht:HY H lo nx b q qc us r) (hr:eY H nx 1 bq rv r) (hl:r.length≤100000) (dY:∀k,(r.getD k []).length≤4000) :
  WF A 12 [.slice (some ⟨b,0,some 1⟩) r.length (2 * (r.length + 1)),rv] H nx fun v H' nx'=>H'=H∧nx'=nx∧v=.bool true:=by
 obtain ⟨rb,rc,rfl⟩:=hr.form
 have hbR:=Rd.own ht.cells
 have UB:=Rd.own ht.mark
 have kI:=ht.len
 refine WF.enter (E.h rfl _ _ _) E.Km ?_
 have zp:r.length + 1≤au (2 * (r.length + 1)):=by rw [bK];omega
 have Ez:(us++[Value.slice (some ⟨q,0,some 1⟩) 1 qc])[0 + 0 * 1 + r.length * 1]?=some (.slice (some ⟨q,0,some 1⟩) 1 qc):=by
  rw [List.getElem?_append_right (by omega),show 0 + 0 * 1 + r.length * 1 - us.length=0 by omega];rfl
 repeat' (first|(refine WO.k rfl ?_;refine aK ?_)|with_reducible (first|refine WO.nil ?_|refine WC.aa ?_|refine WC.seq ?_|refine aC ?_))
 refine WO.cn rfl ?_
 refine (u4 E ht.E7 hr (by omega) dY).of ?_
 rintro _ H_0 aci ⟨f1,f2,rfl⟩
 rw [f1,f2]
 repeat' (first|((first|refine WO.n rfl ?_|refine WO.k rfl ?_);(first|refine aK ?_|refine cM ?_|refine pA ?_|refine kg ?_|refine aJ ?_|refine bu ?_|refine aZ ?_|refine Ba ?_|(refine om (fun h=>?_) (fun h=>?_)<;>(try simp only [Int.ofNat_eq_natCast] at h))|refine bO ?_))|refine WO.dC rfl ?_|with_reducible (first|refine WO.nil ?_|refine WC.aa ?_|refine WC.seq ?_|refine WC.skip ?_|refine WC.ret ?_|refine WC.block ?_)|refine WC.aB rfl ?_|refine WC.ax rfl ?_|with_reducible (first|refine aC ?_|refine gM ?_))
 ·exact absurd rfl (by assumption)
 refine WC.loop (α:=Nat) (fun k=>[([],.slice (some ⟨b,0,some 1⟩) r.length (2 * (r.length + 1))),(S1,.slice rb r.length rc),(S5,.int .i64 ((k:Nat):Int))])
  (fun k H' nx'=>k≤r.length∧H'=H∧nx'=nx) (fun k=>r.length - k)
  ?_ 0 aW ⟨Nat.zero_le _,rfl,rfl⟩
 rintro k H1 aT ⟨hk,e1,e2⟩
 rw [e1,e2]
 repeat' (first|((first|refine WO.n rfl ?_|refine WO.k rfl ?_);(first|refine aK ?_|refine cM ?_|refine aZ ?_|(refine ei (fun h=>?_) (fun h=>?_)<;>(try simp only [Int.ofNat_eq_natCast] at h))))|with_reducible (first|refine WO.nil ?_|refine WC.aa ?_|refine WC.drawn ?_|refine WC.seq ?_|refine WC.skip ?_|refine WC.ret ?_|refine WC.exit ?_|refine WC.block ?_)|refine WC.aB rfl ?_|refine WC.ax rfl ?_|with_reducible (first|refine aC ?_|refine dQ ?_|refine eh ?_))
 ·have cI:k < r.length:=by omega
  have j3:r.getD k []=r[k]:=by rw [List.getD_eq_getElem?_getD,List.getElem?_eq_getElem cI];rfl
  have y4:=dY k
  obtain ⟨bb,bo,uA,ib,ic,rfl,je,jJ,bC,hi⟩:=hr.at cI
  rw [← j3] at bC hi
  have hu:=List.getElem?_eq_getElem (show k < us.length by omega)
  obtain ⟨d,hd0,MX,y9,NO⟩:=ht.row k _ _ hu (List.getElem?_eq_getElem cI)
  rw [hd0,← j3] at hu
  rw [← j3] at NO
  have BZ:(us++[Value.slice (some ⟨q,0,some 1⟩) 1 qc])[0 + k * 1]?=some (.slice (some ⟨d,0,some 1⟩) (r.getD k []).length (2 * ((r.getD k []).length + 1))):=by
   rw [List.getElem?_append_left (by omega),show 0 + k * 1=k by omega];exact hu
  have Td:=Rd.own NO
  have hsk:(r.getD k []).length + 1≤au (2 * ((r.getD k []).length + 1)):=by rw [bK];omega
  have acj:(((r.getD k [])++[-77]).flatMap bq)[0 + 0 * 1 + (r.getD k []).length * 1]?=some (.int .i64 (-77)):=by
   rw [lq]
   unfold mi
   rw [List.map_append,List.getElem?_append_right (by rw [List.length_map];omega),List.length_map,show 0 + 0 * 1 + (r.getD k []).length * 1 - (r.getD k []).length=0 by omega];rfl
  repeat' (first|((first|refine WO.n rfl ?_|refine WO.k rfl ?_);(first|refine aK ?_|refine cM ?_|refine bu ?_|refine aZ ?_|refine Ba ?_|(refine om (fun h=>?_) (fun h=>?_)<;>(try simp only [Int.ofNat_eq_natCast] at h))|refine bO ?_))|with_reducible (first|refine WO.nil ?_|refine WC.aa ?_|refine WC.seq ?_|refine WC.skip ?_|refine WC.ret ?_)|refine WC.aB rfl ?_|refine WC.ax rfl ?_|with_reducible (first|refine aC ?_|refine gM ?_|refine eT ?_|refine pZ ?_|refine kf ?_))
  ·exact absurd rfl (by assumption)
  exact ⟨k + 1,by omega,aW,by omega,rfl,rfl⟩
 ·exact az (vs:=[_]) rfl ⟨rfl,rfl,rfl⟩
end Go.Eng

namespace Go.Eng
variable {A:aG} {H H':Heap} {nx nx':Nat} {σ:aP} {L:List Value} {Q:ct}
set_option maxRecDepth 100000
theorem Bp.same {nx0 pb B:Nat} {lv:Value} {us:List Value} (h:Bp H nx0 nx pb lv us B) (hs:an H H' nx) (hn:nx≤nx'):Bp H' nx0 nx' pb lv us B:=by
 obtain ⟨sv,a,s,h1,h2,h3,h4,h5,h6⟩:=h
 exact ⟨sv,a,s,(hs pb (by omega)).trans h1,h2.same hs hn,h3,h4,h5,by omega⟩
theorem Bp.blk {nx0 pb B d:Nat} {lv:Value} {us:List Value} (h:Bp H nx0 nx pb lv us B) (hd:bj lv=some d):nx0≤d∧d < nx:=by
 obtain ⟨sv,a,s,h1,⟨_,⟨rfl,_⟩|⟨e,rfl,h2,h3,_⟩⟩,_⟩:=h
 ·cases hd
 ·cases hd;exact ⟨h2,h3⟩
structure zd (H:Heap) (lo nx:Nat) (us:List Value):Prop where
 row:∀u∈us,∃d c cs,u=.slice (some ⟨d,0,some 1⟩) cs.length c∧ak H (at_ d)=some (.cells cs)∧cs.length≤4000∧lo≤d∧d < nx
 inj:us.Pairwise fun u w=>∀d,bj u=some d→bj w≠some d
theorem zd.nil {lo:Nat}:zd H lo nx []:=⟨fun u h=>(by cases h),.nil⟩
theorem zd.blk {lo d:Nat} {us:List Value} {u:Value} (h:zd H lo nx us) (hu:u∈us) (hd:bj u=some d):lo≤d∧d < nx:=by
 obtain ⟨e,c,cs,rfl,_,_,h1,h2⟩:=h.row u hu
 cases hd
 exact ⟨h1,h2⟩
theorem zd.frame {lo:Nat} {us:List Value} (h:zd H lo nx us) (hs:∀u∈us,∀d,bj u=some d→ak H' (at_ d)=ak H (at_ d)) (hn:nx≤nx'):zd H' lo nx' us:=by
 refine ⟨fun u hu=>?_,h.inj⟩
 obtain ⟨d,c,cs,rfl,h1,h2,h3,h4⟩:=h.row u hu
 exact ⟨d,c,cs,rfl,(hs _ hu d rfl).trans h1,h2,h3,by omega⟩
theorem zd.low {lo lo':Nat} {us:List Value} (h:zd H lo nx us) (hl:lo'≤lo):zd H lo' nx us:=
 ⟨fun u hu=>let ⟨d,c,cs,h1,h2,h3,h4,h5⟩:=h.row u hu;⟨d,c,cs,h1,h2,h3,by omega,h5⟩,h.inj⟩
theorem zd.app {lo mid:Nat} {us ws:List Value} (h:zd H lo nx us) (h':zd H mid nx ws) (hl:lo≤mid) (hu:∀u∈us,∀d,bj u=some d→d < mid):zd H lo nx (us++ws):=by
 refine ⟨fun u hm=>?_,List.pairwise_append.2 ⟨h.inj,h'.inj,fun u TZ w hw d hd Fu=>?_⟩⟩
 ·rcases List.mem_append.1 hm with hm|hm
  ·exact h.row u hm
  ·exact (h'.low hl).row u hm
 ·have:=hu u TZ d hd
  have:=(h'.blk hw Fu).1
  omega
theorem dR.kpt {lo b:Nat} {us:List Value} {r:List (List Int)} (h:dR H lo nx b us r) (hr:∀k,(r.getD k []).length≤4000):zd H lo nx (kept us):=by
 have tD:∀u∈kept us,∃(i:Nat) (l:List Int),us[i]?=some u∧r[i]?=some l∧l.length≤4000∧u≠.slice none 0 0:=by
  intro u hu
  unfold kept at hu
  obtain ⟨h1,h2⟩:=List.mem_filter.1 hu
  obtain ⟨i,hi,he⟩:=List.getElem_of_mem h1
  have Xb:i < r.length:=by rw [← h.len];exact hi
  refine ⟨i,r[i],by rw [List.getElem?_eq_getElem hi,he],List.getElem?_eq_getElem Xb,?_,fun e=>by rw [e] at h2;cases h2⟩
  have:=hr i
  rwa [List.getD_eq_getElem?_getD,List.getElem?_eq_getElem Xb] at this
 refine ⟨fun u hu=>?_,?_⟩
 ·obtain ⟨i,l,h1,h2,h3,h4⟩:=tD u hu
  rcases h.row i u l h1 h2 with ⟨e,_⟩|⟨d,c,rfl,g1,g2,g3,g4,g5,g6,g7⟩
  ·exact absurd e h4
  ·exact ⟨d,c,mi l,by rw [uW],g7,by rw [uW];exact h3,g4,g5⟩
 ·unfold kept
  refine List.Pairwise.filter _ (List.pairwise_iff_getElem.2 fun i j hi hj FT d hd Fu=>?_)
  have:=h.inj i j _ _ d (List.getElem?_eq_getElem hi) (List.getElem?_eq_getElem hj) hd Fu
  omega
theorem lV.Se {lo b:Nat} {u:Value} {l:List Int} (h:lV H lo nx b u l) (hl:l.length≤4000):KF u:=by
 rcases h with ⟨e,_⟩|⟨d,c,rfl,g1,g2,g3,_⟩
 ·exact .inl e
 ·exact .inr ⟨d,0,l.length,c,rfl,g1,hl,g2,g3⟩
theorem Ht {us:List Value} {k:Nat} {u:Value} (h:us[k]?=some u):kept (us.take (k + 1))=kept (us.take k)++kept [u]:=by
 obtain ⟨hk,rfl⟩:=List.getElem?_eq_some_iff.1 h
 rw [List.take_succ_eq_append_getElem hk,xj]
theorem wg (E:fG A) {p:Value} {n c:Nat} (hn:n=0) :
  WF A 10 [p,.slice none n c] H nx fun _ H' nx'=>H'=H∧nx'=nx:=by
 subst hn
 refine WF.enter (E.h rfl _ _ _) E.um ?_
 repeat' (first|(refine WO.k rfl ?_;refine aK ?_)|with_reducible (first|refine WO.nil ?_|refine WC.aa ?_|refine WC.seq ?_|refine WC.block ?_|refine aC ?_))
 refine WC.loop (α:=Unit) (fun _=>[(S1,.slice none 0 c),(S4,.int .i64 0)]) (fun _ H' nx'=>H'=H∧nx'=nx) (fun _=>0) ?_ () aW ⟨rfl,rfl⟩
 rintro _ H1 aT ⟨e1,e2⟩
 repeat' (first|((first|refine WO.n rfl ?_|refine WO.k rfl ?_);(first|refine cM ?_|(refine ei (fun h=>?_) (fun h=>?_)<;>(try simp only [Int.ofNat_eq_natCast] at h))))|with_reducible (first|refine WO.nil ?_|refine WC.aa ?_|refine WC.seq ?_|refine WC.skip ?_|refine WC.exit ?_|refine WC.block ?_)|refine WC.aB rfl ?_|refine WC.ax rfl ?_|with_reducible (first|refine aC ?_|refine dQ ?_|refine eh ?_))
 ·exfalso;omega
 ·exact hC (vs:=[]) rfl ⟨e1,e2⟩
theorem ze (E:fG A) {nx0 pb B lo b c:Nat} {lv:Value} {us Tc:List Value} {r:List (List Int)} (st:Bp H nx0 nx pb lv us B) (hu:dR H lo nx b Tc r) (hr:∀k,(r.getD k []).length≤4000) (hl:r.length≤60) (hB:B + 6100 * r.length≤1048576) (kI:us.length≤1000) (lX:pb < lo) (hlv:∀d,bj lv=some d→d < lo) :
  WF A 10 [.pointer (some ⟨pb,0,none⟩),.slice (some ⟨b,0,some 1⟩) r.length c] H nx fun _ H' nx'=>nx≤nx'∧∃uq,Bp H' nx0 nx' pb uq (us++kept Tc) (B + 6100 * r.length)∧(∀d,bj uq=some d→bj lv=some d∨nx≤d)∧∀d,d < nx→d≠pb→bj lv≠some d→ak H' (at_ d)=ak H (at_ d):=by
 have dB:=hu.h1
 have kl:=hu.h2
 have hlen:=hu.len
 refine WF.enter (E.h rfl _ _ _) E.um ?_
 repeat' (first|(refine WO.k rfl ?_;refine aK ?_)|with_reducible (first|refine WO.nil ?_|refine WC.aa ?_|refine WC.seq ?_|refine WC.block ?_|refine aC ?_))
 refine WC.loop (α:=Nat) (fun k=>[([],.pointer (some ⟨pb,0,none⟩)),(S1,.slice (some ⟨b,0,some 1⟩) r.length c),(S4,.int .i64 ((k:Nat):Int))])
  (fun k H' nx'=>k≤r.length∧nx≤nx'∧∃uq,Bp H' nx0 nx' pb uq (us++kept (Tc.take k)) (B + 6100 * k)∧(∀d,bj uq=some d→bj lv=some d∨nx≤d)∧∀d,d < nx→d≠pb→bj lv≠some d→ak H' (at_ d)=ak H (at_ d)) (fun k=>r.length - k)
  ?_ 0 aW ⟨Nat.zero_le _,Nat.le_refl _,lv,by simpa [kept] using st,fun d h=>.inl h,fun _ _ _ _=>rfl⟩
 rintro k H1 aT ⟨hk,cD,B5,jf,Sf,iR⟩
 repeat' (first|((first|refine WO.n rfl ?_|refine WO.k rfl ?_);(first|refine cM ?_|refine aZ ?_|(refine ei (fun h=>?_) (fun h=>?_)<;>(try simp only [Int.ofNat_eq_natCast] at h))))|with_reducible (first|refine WO.nil ?_|refine WC.aa ?_|refine WC.seq ?_|refine WC.skip ?_|refine WC.exit ?_|refine WC.block ?_)|refine WC.aB rfl ?_|refine WC.ax rfl ?_|with_reducible (first|refine aC ?_|refine dQ ?_|refine eh ?_))
 ·have cI:k < r.length:=by omega
  obtain ⟨u,mJ,HW,dY⟩:=hu.at cI
  have jT:ak H1 (at_ b)=some (.cells Tc):=(iR b kl (by omega) (fun e=>by have:=hlv b e;omega)).trans hu.cells
  have XC:=Rd.own jT
  have MP:=dY.Se (hr k)
  obtain ⟨ua,uc,rfl⟩:=dY.form
  repeat' (refine WO.n rfl ?_;(first|refine bu ?_|refine gx ?_))
  have a7:an H1 (aw H1 aT [.slice ua (r.getD k []).length uc]) aT:=an.refl.set (Nat.le_refl _)
  have vX:pb < aT:=by
   obtain ⟨_,_,_,_,_,_,_,h5,h6⟩:=jf
   omega
  have SU:(kept (Tc.take k)).length≤60:=Nat.le_trans (List.length_filter_le _ _) (by rw [List.length_take];omega)
  have WL:=GP E.OS E.OQ (E.h rfl) (E.h rfl) (ls:=[.slice ua (r.getD k []).length uc]) (jf.same a7 (Nat.le_succ _)) (.pre (xs:=[Value.slice ua (r.getD k []).length uc]) (b:=aT) (c:=2 * 1 + 1) (rest:=[]) (.inl aq) (by omega) (by show 1≤1;omega) (fun _=>rfl)) (fun u hu=>by rw [List.mem_singleton] at hu;subst hu;exact MP) (by show 1≤100;omega) (by show B + 6100 * k + 6100 * 1≤_;omega) (fun e=>by cases e;omega) (fun d hd e=>by cases e;have:=(jf.blk hd).2;omega) (by rw [List.length_append];omega)
  refine WO.cn rfl ?_
  refine WL.of ?_
  rintro _ H2 nx2 ⟨eW,lv2,rK,LC,nk⟩
  repeat' (first|((first|refine WO.n rfl ?_|refine WO.k rfl ?_);(first|refine aK ?_|refine bO ?_))|with_reducible (first|refine WO.nil ?_|refine WC.aa ?_|refine aC ?_|refine eT ?_))
  refine ⟨k + 1,by omega,aW,by omega,by omega,lv2,?_,fun d hd=>?_,fun d h1 h2 h3=>?_⟩
  ·rw [Ht mJ,← List.append_assoc]
   exact rK
  ·rcases LC d hd with h|h
   ·exact Sf d h
   ·exact .inr (by omega)
  ·rw [nk d (by omega) h2 (fun e=>by
    rcases Sf d e with h|h
    ·exact h3 h
    ·omega),a7 d (by omega)]
   exact iR d h1 h2 h3
 ·obtain rfl:k=r.length:=by omega
  rw [← hlen,List.take_length] at jf
  rw [← hlen]
  exact hC (vs:=[]) rfl ⟨cD,B5,jf,Sf,iR⟩
end Go.Eng

namespace Go.Eng
variable {A:aG} {H H':Heap} {nx nx':Nat} {σ:aP} {L:List Value} {Q:ct} {P:Program} {ins:List Nat}
set_option maxRecDepth 100000
theorem cO.LD (hA:zw P ins A) {g:FuncId} {vs:List Value} (np:er P g)
  (h:∀(ρ:bB) (us:List Value) (w:World),cL ρ vs us→HR ρ H nx w.heap→∃C4 H2,cL ρ C4 us∧HR ρ H2 nx w.heap∧(∀k,jM ρ H2 k→jM ρ H k)∧WF A g C4 H2 nx fun v' _ _=>v'=.tuple #[]):cO P g vs H nx (.ok (.tuple #[]) .e nx):=by
 refine ⟨np,Nat.le_refl _,fun ρ us w j6 hH=>?_⟩
 obtain ⟨C4,H2,g1,g2,g3,g4⟩:=h ρ us w j6 hH
 obtain ⟨m,v',H',nx',eN,rfl⟩:=g4.out
 refine (((tS hA m).1 g C4 H2 _ _ eN).2 ρ us w g1 g2).mono fun e w' hr=>?_
 obtain ⟨u,ρ',q1,q2,q3⟩:=hr
 refine ⟨u,ρ,q1,?_,⟨⟨(fun b k hb=>by cases hb),(fun b b' k k' s s' hb=>by cases hb),hH.new⟩,⟨.refl ρ,(fun k hk=>by obtain ⟨b,x,r,hb,_⟩:=hk;cases hb),(fun b x hb=>by cases hb),(fun k hk hn=>q3.fF.frame k hk fun ho=>hn (g3 k ho)),q3.fF.size,q3.fF.os,q3.fF.tape,q3.fF.output⟩,Nat.le_refl _,fun _ _=>rfl⟩⟩
 have:u=.tuple #[]:=by
  generalize hq:Value.tuple #[]=t at q2
  cases q2 with
  | sc hs=>rw [← hq] at hs;try cases hs
  | @tuple vs us j6=>
   have h0:vs=[]:=by
    have:=Value.tuple.inj hq
    exact (congrArg Array.toList this).symm
   subst h0
   cases j6
   rfl
  | _=>cases hq
 rw [this]
 exact VR.undef
theorem DZ {g:FuncId} (hf:A.funcs g=some Ke) (h41:A.funcs 41=some pF) (hh:∀vs H nx,A.aF g vs H nx=none) (Sg:∀vs H nx,A.aF 41 vs H nx=none)
  {b l c:Nat} {n:Value} {cs:List Value} (hb:ak H (at_ b)=some (.cells cs)) (nG:b < nx) (nj:cs.length=2 * l) (hl:l≤4000) (W1:l≤c) (hc:c≤dA) :
  WF A g [.agg #[n,.slice (some ⟨b,0,some 2⟩) l (2 * c + 1)]] H nx fun v _ _=>v=.tuple #[]:=by
 have W3:c≤9223372036854775807:=hc
 have hso:=cw c
 refine WF.enter (hh _ _ _) hf ?_
 repeat' (first|((first|refine WO.n rfl ?_|refine WO.k rfl ?_);(first|refine dD ?_|refine cM ?_|refine jN ?_|refine aJ ?_))|with_reducible (first|refine WO.nil ?_|refine WC.aa ?_|refine WC.seq ?_|refine aC ?_))
 refine WO.n rfl ?_
 refine aH.of (Act.P9 rfl (w3 c)) ?_
 rw [hso]
 refine WO.cn rfl ?_
 refine (ur h41 Sg (n:=l) (c:=c) (by omega)).of ?_
 rintro _ H1 aT ⟨e1,e2,rfl⟩
 rw [e1,e2]
 repeat' (first|(refine WO.k rfl ?_;refine aK ?_)|with_reducible (first|refine WO.nil ?_|refine WC.block ?_|refine aC ?_))
 refine WC.loop (α:=Nat) (fun _=>[(S1,.pointer (some ⟨nx,0,none⟩)),(S2,.int .i64 ((min c (l + 2000):Nat):Int))])
  (fun k H' nx'=>l + k≤min c (l + 2000)∧nx + 1≤nx'∧ak H' (at_ nx)=some (.cells [n,.slice (some ⟨b,0,some 2⟩) (l + k) (2 * c + 1)])∧∃cs',ak H' (at_ b)=some (.cells cs')∧cs'.length=2 * (l + k)) (fun k=>min c (l + 2000) - (l + k))
  ?_ 0 aW ⟨by omega,Nat.le_refl _,aq,cs,bz (by omega) hb,nj⟩
 rintro k H2 nx2 ⟨hk,eW,hp,gR,kl,lR⟩
 repeat' (first|((first|refine WO.n rfl ?_|refine WO.k rfl ?_);(first|refine aK ?_|refine dD ?_|refine cM ?_|refine r9 ?_|refine aJ ?_|refine gx ?_|(refine ei (fun h=>?_) (fun h=>?_)<;>(try simp only [Int.ofNat_eq_natCast] at h))))|with_reducible (first|refine WO.nil ?_|refine WC.aa ?_|refine WC.seq ?_|refine WC.skip ?_|refine WC.exit ?_|refine WC.block ?_)|refine WC.aB rfl ?_|refine WC.ax rfl ?_|with_reducible (first|refine aC ?_|refine dQ ?_|refine eh ?_))
 ·have bM:au (2 * c + 1)=c:=hso
  refine WO.n rfl ?_
  refine aH.of (Act.oJ (l:=gR++[.int .i64 0,.int .i64 0]) rfl rfl (pS (x:=0) (y:=0) Rd.self) (by show 1≠0;omega) (by omega) rfl (bz (by omega) kl) (by rw [bM];show l + k + 1≤c;omega) (w4 (by intro h;cases h) (by omega))) ?_
  repeat' (first|(refine WO.n rfl ?_;(first|refine dD ?_|refine fj ?_))|with_reducible (first|refine WO.nil ?_|refine eT ?_))
  refine ⟨k + 1,by omega,aW,by omega,by omega,aq,gR++[.int .i64 0,.int .i64 0],?_,by rw [List.length_append,lR];show _ + 2=_;omega⟩
  rw [ai,if_neg (by omega)]
  exact aq
 ·have PV:l + k=min c (l + 2000):=by omega
  refine WC.loop (α:=Nat) (fun i=>[(S1,.pointer (some ⟨nx,0,none⟩)),(S3,.int .i64 ((i:Nat):Int))])
   (fun i H' nx'=>i≤l + k∧nx + 1≤nx'∧ak H' (at_ nx)=some (.cells [n,.slice (some ⟨b,0,some 2⟩) (l + k) (2 * c + 1)])∧∃cs',ak H' (at_ b)=some (.cells cs')∧cs'.length=2 * (l + k)) (fun i=>l + k - i)
   ?_ 0 aW ⟨Nat.zero_le _,eW,hp,gR,kl,lR⟩
  rintro i H3 nx3 ⟨hi,mG,hp3,cs3,HT,Rc⟩
  repeat' (first|((first|refine WO.n rfl ?_|refine WO.k rfl ?_);(first|refine aK ?_|refine dD ?_|refine cM ?_|refine r9 ?_|refine aJ ?_|refine aZ ?_|refine fL ?_|(refine ei (fun h=>?_) (fun h=>?_)<;>(try simp only [Int.ofNat_eq_natCast] at h))|refine bO ?_))|with_reducible (first|refine WO.nil ?_|refine WC.aa ?_|refine WC.seq ?_|refine WC.skip ?_|refine WC.exit ?_|refine WC.block ?_)|refine WC.aB rfl ?_|refine WC.ax rfl ?_|with_reducible (first|refine aC ?_|refine dQ ?_|refine eT ?_|refine eh ?_))
  ·refine ⟨i + 1,by omega,aW,by omega,by omega,bz (by omega) hp3,_,aq,?_⟩
   simp only [List.length_append,List.length_take,List.length_drop,List.length_cons,List.length_nil]
   omega
  ·exact hC (vs:=[]) rfl rfl
theorem Dk (hA:zw P ins A) {g:FuncId} (np:er P g) (hf:A.funcs g=some Ke) (h41:A.funcs 41=some pF) (hh:∀vs H nx,A.aF g vs H nx=none) (Sg:∀vs H nx,A.aF 41 vs H nx=none)
  {vs:List Value} {b:Nat} (hp:uj vs H b):cO P g vs H nx (.ok (.tuple #[]) (kill H b) nx):=by
 obtain ⟨n,l,c,cs,rfl,hb,nj,hl⟩:=hp
 have Cp:cO P g [.agg #[n,.slice (some ⟨b,0,some 2⟩) l c]] (aw .e b cs) nx (.ok (.tuple #[]) .e nx):=by
  refine cO.LD hA np fun ρ us w hv hH=>?_
  have nG:b < nx:=by
   apply Classical.byContradiction
   intro h
   obtain ⟨r,hr,_⟩:=hH.blk b _ aq
   rw [hH.new b (by omega)] at hr
   cases hr
  cases hv with
  | cons h1 h2=>
   cases h2
   generalize hq:Value.agg #[n,.slice (some ⟨b,0,some 2⟩) l c]=t at h1
   cases h1 with
   | agg abg=>
    have e:=congrArg Array.toList (Value.agg.inj hq)
    simp only at e
    subst e
    cases abg with
    | cons hn bL=>
    cases bL with
    | cons si abh=>
    cases abh
    obtain ⟨u2,nS,JA⟩:=si.roomy
    obtain ⟨c',rfl,nH,zk⟩:=nS.1 b 0 2 l c rfl
    exact ⟨[.agg #[n,.slice (some ⟨b,0,some 2⟩) l (2 * c' + 1)]],_,.cons (.agg (.cons hn (.cons JA .nil))) .nil,hH,fun _ h=>h,DZ hf h41 hh Sg aq nG nj hl nH zk⟩
   | sc hs=>rw [← hq] at hs;try cases hs
   | _=>cases hq
 exact Cp.frame (fun b' k hk=>by
  rw [ai] at hk
  split at hk
  ·rename_i e;rw [e,hb];exact hk
  ·cases hk) (fun b' k hk=>.inr (by
  rw [dX] at hk
  split at hk
  ·cases hk
  ·rename_i cy
   exact ⟨by rw [ai,if_neg cy];rfl,hk⟩))
end Go.Eng

namespace Go.Eng
variable {A:aG} {H H':Heap} {nx nx':Nat} {σ:aP} {L:List Value} {Q:ct}
set_option maxRecDepth 100000
theorem Bp.frame {nx0 pb B:Nat} {lv:Value} {us:List Value} (h:Bp H nx0 nx pb lv us B) (hp:ak H' (at_ pb)=ak H (at_ pb)) (hl:∀d,bj lv=some d→ak H' (at_ d)=ak H (at_ d)) (hn:nx≤nx'):Bp H' nx0 nx' pb lv us B:=by
 obtain ⟨sv,a,s,h1,⟨h2,h3⟩,h4,h5,h6,h7⟩:=h
 refine ⟨sv,a,s,hp.trans h1,⟨h2,?_⟩,h4,h5,h6,by omega⟩
 rcases h3 with h3|⟨b,rfl,g1,g2,g3⟩
 ·exact .inl h3
 ·exact .inr ⟨b,rfl,g1,by omega,(hl b rfl).trans g3⟩
theorem D1 {r:List (List Int)}:∀{j k:Nat},j≤k→k≤r.length→total r j≤total r k:=by
 intro j k
 induction k with
 | zero=>
   intro h _;obtain rfl:j=0:=by omega
   exact Nat.le_refl _
 | succ k ih=>
  intro h hk
  rcases (show j≤k∨j=k + 1 by omega) with h1|rfl
  ·rw [lz (by omega)]
   have:=ih h1 (by omega)
   omega
  ·exact Nat.le_refl _
theorem Hu {r:List (List Int)} (k:Nat):(r.getD k []).length≤total r r.length:=by
 by_cases hk:k < r.length
 ·have h1:=D1 (r:=r) (show k + 1≤r.length from hk) (Nat.le_refl _)
  rw [lz hk] at h1
  omega
 ·rw [List.getD_eq_getElem?_getD,List.getElem?_eq_none (by omega)]
  exact Nat.zero_le _
theorem Tg {n:Int} {m:Nat} {c:List Int} {es:List Ed} {r:List (List Int)} {k:Nat} (h:Fk n m c es r k) (hk:es.length + k≤400) (v:Nat):((lK c es r k).getD v []).length≤4000:=by
 have:=lx h.RA v
 rw [jh] at this
 omega
def Hv (nxb pb:Nat) (Hb:Heap) (t:Nat) (H':Heap) (nx':Nat):Prop:=
 t≤2∧nxb≤nx'∧(∀d,d < nxb→d≠pb→ak H' (at_ d)=ak Hb (at_ d))∧∃B lv us,B≤400000 * t∧Bp H' nxb nx' pb lv us B∧zd H' nxb nx' us∧us.length≤60 * t∧∀u∈us,∀d,bj u=some d→bj lv≠some d
theorem abi (E:fG A) {n e:Int} {nxb pb gb hbx lo b q qc:Nat} {Hb:Heap} {ev rv hv:Value} {XV:List Value} {es:List Ed} {r:List (List Int)} (hp:cK n es r=e) (Px:e≠0) (dP:es.length≤300) (zq:r.length≤1000) (oF:∀k,(r.getD k []).length≤1000)
  (he:bS Hb pb 2 a5 ev es) (hr:eY Hb pb 1 bq rv r) (Ez:DW Hb lo pb 2 a5 (-7,7) hv es) (WM:HY Hb lo pb b q qc XV r) (HX:gb < pb) (hg:Rd Hb gb [.int .i64 n,ev]) (L3:hbx < pb) (hh:Rd Hb hbx [.int .i64 n,hv]) (lX:pb < nxb) (ym:aQ n es r=0→es.length + aE es n.toNat < 3072)
  {t:Nat} (ht:t < 2) (hF:Hv nxb pb Hb t H nx)
  (Sh:∀σ H' nx',bg [(S1,rv),(S2,.pointer (some ⟨gb,0,none⟩)),(S5,.int .i64 e),(S6,.pointer (some ⟨hbx,0,none⟩)),(S7,.slice (some ⟨b,0,some 1⟩) r.length (2 * (r.length + 1))),(S8,.pointer (some ⟨pb,0,none⟩)),(S9,.int .i64 ((t + 1:Nat):Int))] σ→Hv nxb pb Hb (t + 1) H' nx'→Q .normal σ H' nx') :
  WC A pB [(S1,rv),(S2,.pointer (some ⟨gb,0,none⟩)),(S5,.int .i64 e),(S6,.pointer (some ⟨hbx,0,none⟩)),(S7,.slice (some ⟨b,0,some 1⟩) r.length (2 * (r.length + 1))),(S8,.pointer (some ⟨pb,0,none⟩)),(S9,.int .i64 ((t:Nat):Int))] H nx Q:=by
 obtain ⟨_,th,hf,B,lv,us,hB,st,kp,kI,ik⟩:=hF
 have bM:an Hb H pb:=fun d hd=>hf d (by omega) (by omega)
 have hh0:=bM.rd L3 hh
 have F1:=bM.rd HX hg
 have Hw:=Ez.frame (H':=H) (nx':=nx) (fun d _ hd=>bM d hd) (by omega)
 have NQ:=WM.frame (H':=H) (nx':=nx) (fun d _ hd=>bM d hd) (by omega)
 have Lo:=Hw.sle (fun _=>rfl)
 have nS:=NQ.E7
 obtain ⟨hd,rfl,MX,y9,NO⟩:=id Hw
 obtain ⟨eb,ec,rfl⟩:=he.form
 unfold pB
 repeat' (first|((first|refine WO.n rfl ?_|refine WO.k rfl ?_);(first|refine aJ ?_|(refine ei (fun h=>?_) (fun h=>?_)<;>(try simp only [Int.ofNat_eq_natCast] at h))))|with_reducible (first|refine WO.nil ?_|refine WC.aa ?_|refine WC.seq ?_|refine WC.skip ?_|refine WC.exit ?_|refine WC.block ?_)|refine WC.aB rfl ?_|refine WC.ax rfl ?_|with_reducible (first|refine aC ?_|refine dQ ?_))
 ·refine WO.cn rfl ?_
  refine (xD E (n:=n) Lo nS ⟨by omega,fun l lD=>by
   obtain ⟨i,hi,rfl⟩:=List.getElem_of_mem lD
   have:=oF i
   rw [List.getD_eq_getElem?_getD,List.getElem?_eq_getElem hi] at this
   simp only [Option.getD_some] at this
   omega⟩ (fun k c h=>by cases h) ym).of ?_
  rintro _ H1 aT ⟨a7,cD,hx,_⟩
  rw [hp] at hx
  have hx:=hx Px
  subst hx
  repeat' (first|((first|refine WO.n rfl ?_|refine WO.k rfl ?_);(first|refine aK ?_|refine w6 ?_|refine sE ?_|refine fL ?_))|with_reducible (first|refine WO.nil ?_|refine WC.aa ?_|refine WC.seq ?_|refine aC ?_))
  refine WO.cn rfl ?_
  refine (wg E rfl).of ?_
  rintro _ H2 nx2 ⟨e1,e2⟩
  rw [e1,e2]
  have hsA:an H (aw (aw H1 aT [.int .i64 0,.slice none 0 0]) aT [.int .i64 0,.slice none 0 0]) nx:=(a7.set cD).set cD
  have hhA:=a7.rd (by omega) hh0
  have hgA:=a7.rd (by omega) F1
  have Si:an Hb (aw (aw H1 aT [.int .i64 0,.slice none 0 0]) aT [.int .i64 0,.slice none 0 0]) pb:=bM.trans hsA (by omega)
  repeat' (first|(refine WO.n rfl ?_;refine aJ ?_)|with_reducible (first|refine WO.nil ?_|refine WC.aa ?_|refine WC.seq ?_|refine aC ?_))
  refine WO.cn rfl ?_
  refine (u6 E (n:=n) (Ez.frame (H':=aw (aw H1 aT [.int .i64 0,.slice none 0 0]) aT [.int .i64 0,.slice none 0 0]) (nx':=aT + 1) (fun d _ hd=>Si d hd) (by omega)) ((he.same Si).up (by omega)) (by omega)).of ?_
  rintro _ H3 nx3 ⟨fH,mG,rfl⟩
  have WN:an Hb H3 pb:=Si.trans (fH.low (by omega)) (Nat.le_refl _)
  have lk:an H H3 nx:=hsA.trans (fH.low (by omega)) (Nat.le_refl _)
  have q3:Rd H3 aT [.int .i64 0,.slice none 0 0]:=fH.rd (by omega) Rd.self
  repeat' (first|(refine WO.n rfl ?_;(first|refine aK ?_|refine pA ?_))|refine WO.dC rfl ?_)
  refine WO.cn rfl ?_
  refine (u7 E (WM.frame (H':=H3) (nx':=nx3) (fun d _ hd=>WN d hd) (by omega)) ((hr.same WN).up (by omega)) (by omega) (fun k=>by have:=oF k;omega)).of ?_
  rintro _ H4 fZ ⟨e3,e4,rfl⟩
  rw [e3,e4]
  repeat' (first|((first|refine WO.n rfl ?_|refine WO.k rfl ?_);(first|refine aK ?_|refine dD ?_|refine cM ?_|refine pA ?_|refine kg ?_|refine aJ ?_|(refine om (fun h=>?_) (fun h=>?_)<;>(try simp only [Int.ofNat_eq_natCast] at h))|refine bO ?_|refine Da ?_))|refine WO.dC rfl ?_|refine WO.nI rfl ?_|with_reducible (first|refine WO.nil ?_|refine WC.aa ?_|refine WC.seq ?_|refine WC.skip ?_|refine WC.ret ?_|refine WC.exit ?_)|refine WC.aB rfl ?_|refine WC.ax rfl ?_|with_reducible (first|refine aC ?_|refine dQ ?_|refine gM ?_|refine eh ?_|refine pZ ?_))
  all_goals try (exfalso;omega)
  refine Sh _ _ _ aW ⟨by omega,by omega,fun d h1 h2=>(lk d (by omega)).trans (hf d h1 h2),B,lv,us,by omega,st.same lk (by omega),kp.frame (fun u hu d hd=>lk d (kp.blk hu hd).2) (by omega),by omega,ik⟩
 ·omega
end Go.Eng

namespace Go.Eng
variable {A:aG} {H H':Heap} {nx nx':Nat} {σ:aP} {L:List Value} {Q:ct}
set_option maxRecDepth 100000
set_option maxHeartbeats 1000000 in
theorem abj (E:fG A) {n:Int} {nxb pb gb hbx lo b q qc:Nat} {Hb:Heap} {ev rv hv:Value} {XV:List Value} {es:List Ed} {r:List (List Int)} (hp:cK n es r=0) (ack:n≤50) (dP:es.length≤90) (oF:∀k,(r.getD k []).length≤1000)
  (he:bS Hb pb 2 a5 ev es) (hr:eY Hb pb 1 bq rv r) (Ez:DW Hb lo pb 2 a5 (-7,7) hv es) (WM:HY Hb lo pb b q qc XV r) (HX:gb < pb) (hg:Rd Hb gb [.int .i64 n,ev]) (L3:hbx < pb) (hh:Rd Hb hbx [.int .i64 n,hv]) (lX:pb < nxb)
  {t:Nat} (ht:t < 2) (hF:Hv nxb pb Hb t H nx)
  (Sh:∀σ H' nx',bg [(S1,rv),(S2,.pointer (some ⟨gb,0,none⟩)),(S5,.int .i64 0),(S6,.pointer (some ⟨hbx,0,none⟩)),(S7,.slice (some ⟨b,0,some 1⟩) r.length (2 * (r.length + 1))),(S8,.pointer (some ⟨pb,0,none⟩)),(S9,.int .i64 ((t + 1:Nat):Int))] σ→Hv nxb pb Hb (t + 1) H' nx'→Q .normal σ H' nx') :
  WC A pB [(S1,rv),(S2,.pointer (some ⟨gb,0,none⟩)),(S5,.int .i64 0),(S6,.pointer (some ⟨hbx,0,none⟩)),(S7,.slice (some ⟨b,0,some 1⟩) r.length (2 * (r.length + 1))),(S8,.pointer (some ⟨pb,0,none⟩)),(S9,.int .i64 ((t:Nat):Int))] H nx Q:=by
 have h0:aQ n es r=0:=by
  apply Classical.byContradiction
  intro h
  unfold cK at hp
  rw [if_neg h] at hp
  exact h hp
 obtain ⟨hm,RW,_⟩:=dU h0
 have fB:n=((n.toNat:Nat):Int):=by have:=hm.1;omega
 have sq:=ed (es:=es) (k:=n.toNat)
 have Hq:es.length + aE es n.toNat < 3072:=by omega
 have zq:r.length≤50:=by omega
 obtain ⟨_,th,hf,B,lv,us,hB,st,kp,kI,ik⟩:=hF
 have bM:an Hb H pb:=fun d hd=>hf d (by omega) (by omega)
 have hh0:=bM.rd L3 hh
 have F1:=bM.rd HX hg
 have Hw:=Ez.frame (H':=H) (nx':=nx) (fun d _ hd=>bM d hd) (by omega)
 have NQ:=WM.frame (H':=H) (nx':=nx) (fun d _ hd=>bM d hd) (by omega)
 have Lo:=Hw.sle (fun _=>rfl)
 have nS:=NQ.E7
 obtain ⟨hd,rfl,MX,y9,NO⟩:=id Hw
 obtain ⟨eb0,ec0,rfl⟩:=he.form
 have D3:∀d,bj lv=some d→nxb≤d∧d < nx:=fun d hd=>st.blk hd
 unfold pB
 repeat' (first|((first|refine WO.n rfl ?_|refine WO.k rfl ?_);(first|refine aJ ?_|(refine ei (fun h=>?_) (fun h=>?_)<;>(try simp only [Int.ofNat_eq_natCast] at h))))|with_reducible (first|refine WO.nil ?_|refine WC.aa ?_|refine WC.seq ?_|refine WC.skip ?_|refine WC.exit ?_|refine WC.block ?_)|refine WC.aB rfl ?_|refine WC.ax rfl ?_|with_reducible (first|refine aC ?_|refine dQ ?_))
 ·refine WO.cn rfl ?_
  refine (xD E (n:=n) Lo nS (eP h0) (fun k c h=>by cases h) (fun _=>Hq)).of ?_
  rintro _ H1 aT ⟨a7,cD,_,hx⟩
  obtain ⟨c,ev1,b1,cc1,O8,mP,rfl,acm,WQ,mJ,WR⟩:=hx hp
  obtain ⟨eb,ec,rfl,hec,Wi,RT,NG⟩:=id WQ
  have yR:aQ n (iI c es (aE es n.toNat - 1)) (lK c es r (aE es n.toNat - 1))=0:=by
   by_cases h:aE es n.toNat=0
   ·rw [h];exact xx h0
   ·exact (DQ h0 fB mP Hq (show aE es n.toNat - 1 < aE es n.toNat by omega)).RA
  have hEl:=jh c es (aE es n.toNat - 1)
  have hRl:=ee c es r (aE es n.toNat - 1)
  have dY:∀k,((lK c es r (aE es n.toNat - 1)).getD k []).length≤4000:=fun k=>by
   have:=lx yR k
   omega
  generalize hE:iI c es (aE es n.toNat - 1)=ES at *
  generalize hR:lK c es r (aE es n.toNat - 1)=R at *
  repeat' (first|((first|refine WO.n rfl ?_|refine WO.k rfl ?_);(first|refine aK ?_|refine w6 ?_|refine sE ?_|refine fL ?_))|with_reducible (first|refine WO.nil ?_|refine WC.aa ?_|refine WC.seq ?_|refine aC ?_))
  have Th:an H1 (aw (aw H1 aT [.int .i64 0,.slice none 0 0]) aT [.int .i64 n,.slice (some ⟨eb,0,some 2⟩) ES.length ec]) aT:=(an.refl.set (Nat.le_refl _)).set (Nat.le_refl _)
  have WL:=ze E (c:=cc1) (st.same (a7.trans Th cD) (show nx≤aT + 1 by omega)) (mJ.same Th (Nat.le_succ _)) dY (by omega) (by omega) (by omega) (show pb < nx by omega) (fun d hd=>(D3 d hd).2)
  rw [hRl] at WL
  refine WO.cn rfl ?_
  refine WL.of ?_
  clear WL
  rintro _ H2 nx2 ⟨eW,lv2,rK,LC,nk⟩
  have LF:an Hb H2 pb:=fun d hd=>by
   rw [nk d (by omega) (by omega) (fun e=>by have:=(D3 d e).1;omega),Th d (by omega),a7 d (by omega)]
   exact bM d hd
  have Nk:∀d,nx≤d→d < aT→ak H2 (at_ d)=ak H1 (at_ d):=fun d h1 h2=>by
   rw [nk d (by omega) (by omega) (fun e=>by have:=(D3 d e).2;omega)]
   exact Th d h2
  have hfo:∀d,d < nx→d≠pb→bj lv≠some d→ak H2 (at_ d)=ak H (at_ d):=fun d h1 h2 h3=>by
   rw [nk d (by omega) h2 h3,Th d (by omega)]
   exact a7 d h1
  have t2:ak H2 (at_ aT)=some (.cells [.int .i64 n,.slice (some ⟨eb,0,some 2⟩) ES.length ec]):=(nk aT (by omega) (by omega) (fun e=>by have:=(D3 aT e).2;omega)).trans aq
  have hhA:=LF.rd (by omega) hh
  have hgA:=LF.rd (by omega) hg
  have t2R:=Rd.own t2
  clear hh0 F1 Hw NQ Lo nS Th nk
  repeat' (first|(refine WO.n rfl ?_;refine aJ ?_)|with_reducible (first|refine WO.nil ?_|refine WC.aa ?_|refine WC.seq ?_|refine aC ?_))
  refine WO.cn rfl ?_
  refine (u6 E (n:=n) (Ez.frame (H':=H2) (nx':=nx2) (fun d _ hd=>LF d hd) (by omega)) ((he.same LF).up (by omega)) (by omega)).of ?_
  rintro _ H3 nx3 ⟨fH,mG,rfl⟩
  have LG:an Hb H3 pb:=LF.trans (fH.low (by omega)) (Nat.le_refl _)
  repeat' (first|(refine WO.n rfl ?_;(first|refine aK ?_|refine pA ?_))|refine WO.dC rfl ?_)
  refine WO.cn rfl ?_
  refine (u7 E (WM.frame (H':=H3) (nx':=nx3) (fun d _ hd=>LG d hd) (by omega)) ((hr.same LG).up (by omega)) (by omega) (fun k=>by have:=oF k;omega)).of ?_
  rintro _ H4 fZ ⟨e3,e4,rfl⟩
  rw [e3,e4]
  have hgB:=LG.rd (by omega) hg
  repeat' (first|((first|refine WO.n rfl ?_|refine WO.k rfl ?_);(first|refine aK ?_|refine dD ?_|refine pA ?_|refine kg ?_|refine aJ ?_|(refine om (fun h=>?_) (fun h=>?_)<;>(try simp only [Int.ofNat_eq_natCast] at h))))|refine WO.dC rfl ?_|refine WO.nI rfl ?_|with_reducible (first|refine WO.nil ?_|refine WC.aa ?_|refine WC.seq ?_|refine WC.skip ?_|refine WC.ret ?_)|refine WC.aB rfl ?_|refine WC.ax rfl ?_|with_reducible (first|refine aC ?_|refine gM ?_|refine pZ ?_))
  all_goals try (exfalso;omega)
  refine WO.cn rfl ?_
  refine (DV E h0 ((he.same LG).up (show pb≤nx3 by omega)) ((hr.same LG).up (by omega)) Hq).of ?_
  rintro _ H5 xz ⟨xA,O6,c',XP,rv5,abk,rfl,Sj,Sk⟩
  have hce:c'=c:=abk.one mP
  rw [hce,hE] at Sj
  rw [hce,hR] at Sk
  have WS:an H2 H5 nx2:=fH.trans xA mG
  have t5R:=WS.rd (by omega) t2R
  obtain ⟨e5,c5,rfl⟩:=Sj.form
  obtain ⟨r5,rc5,rfl⟩:=Sk.form
  have Sl:an H5 (aw (aw H5 xz [.int .i64 0,.slice none 0 0]) xz [.int .i64 n,.slice e5 ES.length c5]) xz:=(an.refl.set (Nat.le_refl _)).set (Nat.le_refl _)
  have WT:=WS.trans Sl (by omega)
  have NL:=WQ.frame (H':=aw (aw H5 xz [.int .i64 0,.slice none 0 0]) xz [.int .i64 n,.slice e5 ES.length c5]) (nx':=xz + 1) (fun d h1 h2=>(WT d (by omega)).trans (Nk d h1 h2)) (by omega)
  repeat' (first|((first|refine WO.n rfl ?_|refine WO.k rfl ?_);(first|refine aK ?_|refine w6 ?_|refine sE ?_|refine kg ?_|refine aJ ?_|refine fL ?_|(refine om (fun h=>?_) (fun h=>?_)<;>(try simp only [Int.ofNat_eq_natCast] at h))))|refine WO.dC rfl ?_|refine WO.nI rfl ?_|with_reducible (first|refine WO.nil ?_|refine WC.aa ?_|refine WC.seq ?_|refine WC.ret ?_)|refine WC.aB rfl ?_|with_reducible (first|refine aC ?_|refine gM ?_|refine pZ ?_))
  all_goals try (exfalso;omega)
  refine WO.cn rfl ?_
  refine (u5 E (n:=n) NL.sle ((Sj.same Sl).up (by omega)) (by omega)).of ?_
  rintro _ H7 kj ⟨Lq,Ta,rfl⟩
  have LH:=WT.trans (Lq.low (show nx2≤xz + 1 by omega)) (Nat.le_refl _)
  have hu7:=mJ.frame (H':=H7) (nx':=kj) (fun d h1 h2=>(LH d (by omega)).trans (Nk d h1 h2)) (by omega)
  have WU:=hu7.E7 (c:=cc1) (by omega)
  rw [hRl] at WU
  have abl:=((Sk.same Sl).up (Nat.le_succ xz)).same Lq |>.up Ta
  repeat' (first|(refine WO.n rfl ?_;(first|refine aK ?_|refine pA ?_|refine kg ?_))|refine WO.dC rfl ?_)
  refine WO.cn rfl ?_
  refine (u4 E WU abl (by omega) dY).of ?_
  rintro _ H8 nx8 ⟨e5',e6',rfl⟩
  rw [e5',e6']
  have t7R:=LH.rd (by omega) t2R
  have abm:ak H7 (at_ eb)=some (.cells (ES.flatMap a5)):=(LH eb (by omega)).trans ((Nk eb Wi RT).trans NG)
  repeat' (first|((first|refine WO.n rfl ?_|refine WO.k rfl ?_);(first|refine pA ?_|refine kg ?_|refine aJ ?_))|refine WO.dC rfl ?_|with_reducible (first|refine WO.nil ?_|refine WC.aa ?_|refine WC.skip ?_)|refine WC.ax rfl ?_|with_reducible refine aC ?_)
  refine WO.cn rfl ?_
  refine WF.ke (E.hs _ _ _ eb ⟨_,_,_,_,rfl,abm,by rw [mR];omega,by omega⟩) ?_
  repeat' (first|((first|refine WO.n rfl ?_|refine WO.k rfl ?_);(first|refine aK ?_|refine bO ?_))|with_reducible (first|refine WO.nil ?_|refine WC.aa ?_|refine aC ?_|refine eT ?_))
  have LZ:∀d,bj (.slice (some ⟨eb,0,some 2⟩) ES.length ec)=some d→d=eb:=fun d hd=>by cases hd;rfl
  have nZ:∀d,d < nx2→d≠eb→ak (kill H7 eb) (at_ d)=ak H2 (at_ d):=fun d h1 h2=>by rw [dX,if_neg h2];exact LH d h1
  have hkn:∀u∈kept O8,∀d,bj u=some d→d≠eb:=fun u hu d hd e=>by
   obtain ⟨i,hi,vd⟩:=List.getElem_of_mem (List.mem_filter.1 hu).1
   exact (WR eb rfl).2 i u (by rw [List.getElem?_eq_getElem hi,vd]) (by rw [hd,e])
  have kn:=mJ.kpt dY
  have cI:(kept O8).length≤O8.length:=List.length_filter_le _ _
  have acn:=mJ.len
  refine Sh _ _ _ aW ⟨by omega,by omega,fun d h1 h2=>?_,B + 6100 * r.length,lv2,us++kept O8,by omega,(rK.same (LH.low (Nat.le_refl _)) (show nx2≤kj by omega)).frame (by rw [dX,if_neg (by omega)]) (fun d hd=>?_) (Nat.le_refl _),?_,by rw [List.length_append];omega,fun u hu d hd e=>?_⟩
  ·rw [nZ d (by omega) (by omega),hfo d (by omega) h2 (fun e=>by have:=(D3 d e).1;omega)]
   exact hf d h1 h2
  ·rw [dX,if_neg (fun e=>by
    rcases LC d hd with h|h
    ·have:=(D3 d h).2;omega
    ·omega)]
  ·refine zd.app (mid:=nx) (kp.frame (fun u hu d hd=>?_) (by omega)) (kn.frame (fun u hu d hd=>?_) (by omega)) th (fun u hu d hd=>(kp.blk hu hd).2)
   ·have h1:=kp.blk hu hd
    rw [nZ d (by omega) (by omega)]
    exact hfo d h1.2 (by omega) (ik u hu d hd)
   ·have h1:=kn.blk hu hd
    rw [nZ d (by omega) (hkn u hu d hd)]
    exact Nk d h1.1 h1.2
  ·rcases List.mem_append.1 hu with hu|hu
   ·have h1:=kp.blk hu hd
    rcases LC d e with h|h
    ·exact ik u hu d hd h
    ·omega
   ·have h1:=kn.blk hu hd
    rcases LC d e with h|h
    ·have:=(D3 d h).2;omega
    ·omega
 ·omega
end Go.Eng

namespace Go.Eng
variable {A:aG} {H H':Heap} {nx nx':Nat} {σ:aP} {L:List Value} {Q:ct}
set_option maxRecDepth 100000
theorem DW.low {α:Type} {lo lo' z:Nat} {enc:α→List Value} {x:α} {v:Value} {xs:List α} (h:DW H lo nx z enc x v xs) (hl:lo'≤lo):DW H lo' nx z enc x v xs:=by
 obtain ⟨d,rfl,h1,h2,h3⟩:=h
 exact ⟨d,rfl,by omega,h2,h3⟩
theorem HY.low {lo lo' b q qc:Nat} {us:List Value} {r:List (List Int)} (h:HY H lo nx b q qc us r) (hl:lo'≤lo):HY H lo' nx b q qc us r:=
 ⟨Nat.le_trans hl h.b1,h.b2,Nat.le_trans hl h.q1,h.q2,h.cells,h.mark,h.len,fun i u l hu lD=>(h.row i u l hu lD).low hl⟩
theorem zd.ap {lo pb nx0 B:Nat} {lv:Value} {us:List Value} (h:zd H lo nx us) (st:Bp H nx0 nx pb lv us B) (hp:pb < lo) (kI:us.length≤100000) (ik:∀u∈us,∀d,bj u=some d→bj lv≠some d):Bj [.pointer (some ⟨pb,0,none⟩)] H nx:=by
 obtain ⟨sv,a,s,h1,h2,h3,h4,h5,h6⟩:=st
 refine ⟨pb,lv,sv,nx0,us,rfl,h1,h2,h5,h6,kI,fun i u hu=>?_,fun i j u w hu hw he=>?_⟩
 ·have hm:=List.mem_of_getElem? hu
  obtain ⟨d,c,cs,rfl,g1,g2,g3,g4⟩:=h.row u hm
  exact ⟨d,0,cs.length,c,cs,rfl,g1,by omega,g2,g4,by omega,ik _ hm d rfl⟩
 ·obtain ⟨d,c,cs,hue,_⟩:=h.row u (List.mem_of_getElem? hu)
  have hd:bj u=some d:=by rw [hue];rfl
  obtain ⟨hi,rfl⟩:=List.getElem?_eq_some_iff.1 hu
  obtain ⟨hj,rfl⟩:=List.getElem?_eq_some_iff.1 hw
  have B3:=List.pairwise_iff_getElem.1 h.inj
  rcases Nat.lt_trichotomy i j with h7|h7|h7
  ·exact absurd (he.symm.trans hd) (B3 i j hi hj h7 d hd)
  ·exact h7
  ·exact absurd hd (B3 j i hj hi h7 d (he.symm.trans hd))
open Classical in
theorem Dn (E:fG A) {n:Int} {ev rv:Value} {es:List Ed} {r:List (List Int)} (he:bS H nx 2 a5 ev es) (hr:eY H nx 1 bq rv r) (cj:b8 r) :
  WF A 3 [.agg #[.int .i64 n,ev],rv] H nx fun v _ _=>v=.bool true:=by
 obtain ⟨base,ec,rfl⟩:=he.form
 obtain ⟨rb,rc,rfl⟩:=hr.form
 refine WF.enter (E.h rfl _ _ _) E.Ki ?_
 have bM:an H (aw H nx [.int .i64 n,.slice base es.length ec]) nx:=an.refl.set (Nat.le_refl _)
 have g0:Rd (aw H nx [.int .i64 n,.slice base es.length ec]) nx [.int .i64 n,.slice base es.length ec]:=Rd.self
 repeat' (first|(refine WO.k rfl ?_;(first|refine aK ?_|refine jN ?_))|with_reducible (first|refine WO.nil ?_|refine WC.aa ?_|refine WC.seq ?_|refine aC ?_))
 refine WO.cn rfl ?_
 refine WF.ke (E.hb _ _) ?_
 repeat' (first|((first|refine WO.n rfl ?_|refine WO.k rfl ?_);(first|refine pA ?_|refine aJ ?_))|with_reducible (first|refine WO.nil ?_|refine WC.aa ?_|refine WC.seq ?_|refine WC.skip ?_)|refine WC.ax rfl ?_|with_reducible refine aC ?_)
 refine WO.cn rfl ?_
 refine (zc E (n:=n) ((he.same bM).up (show nx≤nx + 1 by omega)) ((hr.same bM).up (by omega)) cj).of ?_
 rintro _ H1 aT ⟨rfl,a7,cD⟩
 have bp:=bM.trans a7 (by omega)
 have g1:=a7.rd (by omega) g0
 by_cases hL:Hr n es r
 rotate_left 1
 ·rw [decide_eq_false hL]
  repeat' (first|(refine WO.k rfl ?_;(first|refine aK ?_|refine pA ?_))|with_reducible (first|refine WO.nil ?_|refine WC.aa ?_|refine WC.seq ?_|refine WC.ret ?_)|refine WC.aB rfl ?_|with_reducible (first|refine aC ?_|refine gM ?_))
  exact az (vs:=[_]) rfl rfl
 rw [decide_eq_true hL]
 obtain ⟨⟨⟨dP,_⟩,_,hrt⟩,G1⟩:=hL
 have dY:∀k,(r.getD k []).length≤1000:=fun k=>by have:=Hu (r:=r) k;omega
 have Lv:aQ n es r=0→n≤50∧es.length≤90:=fun h=>G1.resolve_left (fun h2=>h2 (dU h).1)
 repeat' (first|((first|refine WO.n rfl ?_|refine WO.k rfl ?_);(first|refine pA ?_|refine aJ ?_))|with_reducible (first|refine WO.nil ?_|refine WC.aa ?_|refine WC.seq ?_|refine WC.skip ?_)|refine WC.ax rfl ?_|with_reducible refine aC ?_)
 refine WO.cn rfl ?_
 refine (E.RF (n:=n) ((he.same bp).up (show nx≤aT by omega)) ((hr.same bp).up (by omega)) cj).of ?_
 rintro _ H2 nx2 ⟨rfl,bL,eW⟩
 have df:=bp.trans bL (by omega)
 have g2:=bL.rd (by omega) g1
 repeat' (first|((first|refine WO.n rfl ?_|refine WO.k rfl ?_);(first|refine aK ?_|refine aJ ?_))|with_reducible (first|refine WO.nil ?_|refine WC.aa ?_|refine WC.seq ?_|refine aC ?_))
 refine WO.cn rfl ?_
 refine (DX E (n:=n) ((he.same df).up (show nx≤nx2 by omega)) (by omega)).of ?_
 rintro _ H3 nx3 ⟨fH,mG,hv,rfl,WV⟩
 have lk:=df.trans fH (by omega)
 have g3:=fH.rd (by omega) g2
 refine WO.cn rfl ?_
 refine (DY E ((hr.same lk).up (show nx≤nx3 by omega)) (by omega) (fun k=>by have:=dY k;omega)).of ?_
 rintro _ H4 fZ ⟨lU,xl,b,q,qc,XV,rfl,WW⟩
 have we:=lk.trans lU (by omega)
 have g4:=lU.rd (by omega) g3
 have Sm:=WV.frame (H':=H4) (nx':=fZ) (fun d _ hd=>lU d hd) xl
 obtain ⟨hd,rfl,MX,y9,NO⟩:=id Sm
 generalize WX:cK n es r=e
 repeat' (first|((first|refine WO.n rfl ?_|refine WO.k rfl ?_);(first|refine aK ?_|refine jN ?_|refine sE ?_|refine r9 ?_|refine fL ?_))|with_reducible (first|refine WO.nil ?_|refine WC.aa ?_|refine WC.seq ?_|refine WC.block ?_|refine aC ?_))
 have Hy:an H4 (aw (aw (aw H4 fZ [.int .i64 0,.slice none 0 0]) fZ [.int .i64 n,.slice (some ⟨hd,0,some 2⟩) es.length (2 * (es.length + 1))]) (fZ + 1) [.slice none 0 0,.int .i64 0]) fZ:=((an.refl.set (Nat.le_refl _)).set (Nat.le_refl _)).set (by omega)
 have je:Rd (aw (aw (aw H4 fZ [.int .i64 0,.slice none 0 0]) fZ [.int .i64 n,.slice (some ⟨hd,0,some 2⟩) es.length (2 * (es.length + 1))]) (fZ + 1) [.slice none 0 0,.int .i64 0]) fZ [.int .i64 n,.slice (some ⟨hd,0,some 2⟩) es.length (2 * (es.length + 1))]:=Rd.skip (by omega) Rd.self
 have hpp:ak (aw (aw (aw H4 fZ [.int .i64 0,.slice none 0 0]) fZ [.int .i64 n,.slice (some ⟨hd,0,some 2⟩) es.length (2 * (es.length + 1))]) (fZ + 1) [.slice none 0 0,.int .i64 0]) (at_ (fZ + 1))=some (.cells [.slice none 0 0,.int .i64 0]):=aq
 have gb:=Hy.rd (by omega) g4
 have OX:=(he.same (we.trans Hy (by omega))).up (show nx≤fZ + 1 by omega)
 have rV:=(hr.same (we.trans Hy (by omega))).up (show nx≤fZ + 1 by omega)
 have Sn:=(Sm.frame (nx':=fZ + 1) (fun d _ hd=>Hy d hd) (by omega)).low (lo':=nx2) (Nat.le_refl _)
 have So:=(WW.frame (nx':=fZ + 1) (fun d _ hd=>Hy d hd) (by omega)).low (lo':=nx2) mG
 clear g0 g1 g2 g3 g4 bM a7 bp bL df fH lk lU we WV Sm WW he hr Hy
 obtain ⟨Hb,hHb⟩:∃Hb,Hb=aw (aw (aw H4 fZ [.int .i64 0,.slice none 0 0]) fZ [.int .i64 n,.slice (some ⟨hd,0,some 2⟩) es.length (2 * (es.length + 1))]) (fZ + 1) [.slice none 0 0,.int .i64 0]:=⟨_,rfl⟩
 rw [← hHb] at je hpp gb OX rV Sn So
 have bP:Bp Hb (fZ + 1 + 1) (fZ + 1 + 1) (fZ + 1) (.slice none 0 0) [] 0:=⟨.int .i64 0,0,0,hpp,.nil,rfl,Nat.le_refl _,by omega,Nat.le_refl _⟩
 have hF0:Hv (fZ + 1 + 1) (fZ + 1) Hb 0 Hb (fZ + 1 + 1):=⟨by omega,Nat.le_refl _,fun _ _ _=>rfl,0,_,[],by omega,bP,.nil,Nat.zero_le _,fun u hu=>by cases hu⟩
 refine WC.loop (α:=Nat) (fun t=>[(S1,.slice rb r.length rc),(S2,.pointer (some ⟨nx,0,none⟩)),(S5,.int .i64 e),(S6,.pointer (some ⟨fZ,0,none⟩)),(S7,.slice (some ⟨b,0,some 1⟩) r.length (2 * (r.length + 1))),(S8,.pointer (some ⟨fZ + 1,0,none⟩)),(S9,.int .i64 ((t:Nat):Int))])
  (fun t H' nx'=>Hv (fZ + 1 + 1) (fZ + 1) Hb t H' nx') (fun t=>2 - t)
  ?_ 0 aW (by rw [hHb] at hF0 ⊢;exact hF0)
 intro t H' nx' hF
 by_cases ht:t < 2
 ·by_cases h0:e=0
  ·subst h0
   have CA:aQ n es r=0:=by
    apply Classical.byContradiction
    intro h
    unfold cK at WX
    rw [if_neg h] at WX
    exact h WX
   exact abj E (gb:=nx) (hbx:=fZ) (pb:=fZ + 1) (nxb:=fZ + 1 + 1) WX (Lv CA).1 (Lv CA).2 dY OX rV Sn So (by omega) gb (by omega) je (by omega) ht hF (fun σ H2 nx2 hσ VO=>⟨t + 1,by omega,hσ,VO⟩)
  ·exact abi E (gb:=nx) (hbx:=fZ) (pb:=fZ + 1) (nxb:=fZ + 1 + 1) WX h0 dP (by omega) dY OX rV Sn So (by omega) gb (by omega) je (by omega) (fun h=>by
    have h1:=Lv h
    have h2:=(dU h).1.1
    have:=ed (es:=es) (k:=n.toNat)
    omega) ht hF (fun σ H2 nx2 hσ VO=>⟨t + 1,by omega,hσ,VO⟩)
 ·obtain ⟨zj,th,_,B,lv,us,_,st,kp,kI,ik⟩:=hF
  have h2:t=2:=by omega
  subst h2
  repeat' (first|((first|refine WO.n rfl ?_|refine WO.k rfl ?_);(refine ei (fun h=>?_) (fun h=>?_)<;>(try simp only [Int.ofNat_eq_natCast] at h)))|with_reducible (first|refine WO.nil ?_|refine WC.aa ?_|refine WC.seq ?_|refine WC.skip ?_|refine WC.exit ?_|refine WC.block ?_)|refine WC.aB rfl ?_|refine WC.ax rfl ?_|with_reducible (first|refine aC ?_|refine dQ ?_|refine eh ?_))
  ·omega
  refine WO.cn rfl ?_
  refine WF.ke (E.ha _ _ _ (kp.ap st (by omega) (by omega) ik)) ?_
  repeat' (first|(refine WO.k rfl ?_;refine aK ?_)|with_reducible (first|refine WO.nil ?_|refine WC.ret ?_|refine aC ?_))
  exact az (vs:=[_]) rfl rfl
end Go.Eng
