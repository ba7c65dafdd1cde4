import Derived.Test.YtkojdclaojbpiaaGreatWi
/- The law: orders that somebody hands in. -/
namespace Go.Eng
variable {A : AProg} {H : Heap} {nx : Nat} {σ : Slots} {Q : Post}
set_option maxRecDepth 100000


theorem flatI (l : List Int) : l.flatMap encI = l.map (.int .i64) := by
  induction l with
  | nil => rfl
  | cons x l ih => rw [List.flatMap_cons, ih]; rfl
theorem oneI (l : List Int) : allOne (l.flatMap encI) = true := by
  induction l with
  | nil => rfl
  | cons x l ih => rw [List.flatMap_cons]; exact ih
theorem lenI (l : List Int) : (l.flatMap encI).length = l.length * 1 := by rw [flatI]; simp

/-- the list, from its end on -/
theorem lawL {n : Int} {l : List Int} {lbase : Option Addr} {lc nx1 : Nat} {H0 : Heap} {x2 x5 x6 x7 : Value} (hl : SlE H0 nx 1 encI (.slice lbase l.length lc) l) (hm : l.length ≤ 400) (hs : Same H0 H nx) (hn : nx ≤ nx1)
    (hexit : ∀ v σ H' nx', SubS [([true], .slice lbase l.length lc), ([false], x2), ([true, false], x5), ([false, false], x6), ([true, true, true], x7), ([false, true, true], v)] σ → Same H H' nx1 → nx1 ≤ nx' → SlE H' nx' 1 encI v l.reverse → Q (.exit 0) σ H' nx') :
    WC A (.loop xLawL) [([true], .slice lbase l.length lc), ([false], x2), ([true, false], x5), ([false, false], x6), ([true, true, true], x7), ([false, true, true], .slice none 0 0), ([true, false, true], .int .i64 ((l.length : Int) - 1))] H nx1 Q := by
  refine WC.loop (α := Nat × Value) (fun k => [([true], .slice lbase l.length lc), ([false], x2), ([true, false], x5), ([false, false], x6), ([true, true, true], x7), ([false, true, true], k.2), ([true, false, true], .int .i64 ((l.length : Int) - 1 - k.1))])
    (fun k H' nx' => k.1 ≤ l.length ∧ nx1 ≤ nx' ∧ Same H H' nx1 ∧ Grows H' nx1 nx' 1 k.2 k.1 ((l.reverse.take k.1).flatMap encI)) (fun k => l.length - k.1)
    ?_ (0, .slice none 0 0) (.cons rfl (.cons rfl (.cons rfl (.cons rfl (.cons rfl (.cons rfl (.cons (by show some _ = some _; simp) (.nil _)))))))) ⟨Nat.zero_le _, Nat.le_refl _, .refl, .nil⟩
  rintro ⟨k, v⟩ H1 nx2 ⟨hk, hnx, hs1, hg⟩
  simp only at hk hg ⊢
  unfold xLawL
  repeat' (first | ((first | refine WO.n rfl ?_ | refine WO.k rfl ?_); ((refine Then.both (Act.geq rfl rfl) (fun h => ?_) (fun h => ?_)) <;> (try simp only [Int.ofNat_eq_natCast] at h))) | with_reducible refine WO.nil ?_ | with_reducible refine WC.reg ?_ | with_reducible refine WC.seq ?_ | with_reducible refine WC.skip ?_ | with_reducible refine WC.exit ?_ | with_reducible refine WC.block ?_ | refine WC.condT rfl ?_ | refine WC.condF rfl ?_ | with_reducible refine stN ?_ | with_reducible refine stE ?_)
  · have hlt : k < l.length := by omega
    obtain ⟨b, o, ds, rfl, hb, _, _, hr, hds⟩ := hl.at (by intro e; rw [e] at hlt; simp at hlt)
    have hx : ds[o + ((l.length : Int) - 1 - k).toNat * 1]? = some (.int .i64 l[l.length - 1 - k]) := by
      have := take1 (v := .int .i64 l[l.length - 1 - k]) (hds (l.length - 1 - k) _ (List.getElem?_eq_getElem (by omega)))
      rw [show ((l.length : Int) - 1 - k).toNat = l.length - 1 - k by omega]; exact this
    have hr1 : Rd H1 b ds := hs1.rd (by omega) (hs.rd hb hr)
    refine WO.n rfl ?_
    refine Then.of (Act.ixsI rfl rfl (by omega) (by omega)) ?_
    repeat' (refine WO.n rfl ?_; (first | refine Then.of (Act.lod rfl (by (with_reducible (first | exact Rd.self | assumption | exact Rd.own (by assumption) | ((repeat ((apply Rd.skip); (with_unfolding_all omega))); first | exact Rd.self | assumption | exact Rd.own (by assumption))))) (partOf_one (by assumption))) ?_ | refine Then.of (Act.bsl rfl rfl (by omega)) ?_))
    refine WO.n rfl ?_
    refine Then.push rfl rfl (hg.same (Same.refl.set (Nat.le_refl _)) (Nat.le_succ _)) (src_one Rd.self rfl) (by omega) (by omega) rfl rfl (by omega) (by unfold small; omega) (by unfold small; omega) ?_
    intro v' H2 hg2 hs2 _
    repeat' (first | ((first | refine WO.n rfl ?_ | refine WO.k rfl ?_); (first | refine Then.of (Act.mov rfl) ?_ | refine Then.of (Act.sub rfl rfl (by (unfold In64; simp only [Int.ofNat_eq_natCast]; omega))) ?_)) | with_reducible refine WO.nil ?_ | with_reducible refine WC.reg ?_ | with_reducible refine stN ?_ | with_reducible refine bkN ?_)
    refine ⟨(k + 1, v'), by show l.length - (k + 1) < l.length - k; omega, .cons rfl (.cons rfl (.cons rfl (.cons rfl (.cons rfl (.cons rfl (.cons ?_ (.nil _))))))), by show k + 1 ≤ _; omega, by omega, (hs1.set (by omega)).trans hs2 (Nat.le_refl _), ?_⟩
    · show some _ = some _
      congr 2
      show (l.length : Int) - 1 - k - 1 = (l.length : Int) - 1 - ((k + 1 : Nat) : Int)
      omega
    · have hrev : l.reverse[k]? = some l[l.length - 1 - k] := by rw [List.getElem?_reverse (by omega), List.getElem?_eq_getElem (by omega)]
      have : (l.reverse.take (k + 1)).flatMap encI = (l.reverse.take k).flatMap encI ++ [.int .i64 l[l.length - 1 - k]] := by
        rw [List.take_add_one, hrev, List.flatMap_append]; rfl
      rw [this]
      exact hg2
  · have hkl : k = l.length := by omega
    subst hkl
    rw [List.take_of_length_le (by simp)] at hg
    refine hexit v _ _ _ (.cons rfl (.cons rfl (.cons rfl (.cons rfl (.cons rfl (.cons rfl (.nil _))))))) hs1 hnx (Grows.sle (nx0 := nx1) (by simpa using hg) (fun _ => rfl))

theorem law_spec {g : FuncId} (hf : A.funcs g = some xLaw) (hh : ∀ g, g ≠ 5 → ∀ vs H nx, A.hook g vs H nx = none) (hg : g ≠ 5) (h5 : ∀ H nx, A.hook 5 [] H nx = some (.ok (.bool true) H nx)) (hP : A.P.underlying 4 = some .bool) (h6 : A.funcs 6 = some xLight) (h7 : A.funcs 7 = some xIs) (h8 : A.funcs 8 = some xInts) (h9 : A.funcs 9 = some xMay) (h10 : A.funcs 10 = some xRIs)
    (h21 : A.funcs 21 = some xNMay) (h22 : A.funcs 22 = some xPl) (h23 : A.funcs 23 = some xRPl) (h24 : A.funcs 24 = some xFrom) (h25 : A.funcs 25 = some xTo) (h53 : A.funcs 53 = some xCh)
    {n : Int} {ev lv : Value} {es : List (Int × Int)} {l : List Int} (he : SlE H nx 2 encP ev es) (hl : SlE H nx 1 encI lv l) :
    WF A g [.agg #[.int .i64 n, ev], lv] H nx fun v _ _ => v = .bool true := by
  obtain ⟨base, c, rfl⟩ := he.form
  obtain ⟨lbase, lc, rfl⟩ := hl.form
  refine WF.enter (hh g hg _ _ _) hf ?_
  repeat' (first | (refine WO.k rfl ?_; (first | refine Then.of (Act.mov rfl) ?_ | refine Then.of (Act.box rfl) ?_)) | with_reducible refine WO.nil ?_ | with_reducible refine WC.reg ?_ | with_reducible refine WC.seq ?_ | with_reducible refine stN ?_)
  refine WO.cn rfl ?_
  refine WF.hooked (h5 _ _) ?_
  repeat' (first | ((first | refine WO.n rfl ?_ | refine WO.k rfl ?_); (first | refine Then.of (Act.not rfl) ?_ | refine Then.of (Act.lod rfl (by (with_reducible (first | exact Rd.self | assumption | exact Rd.own (by assumption) | ((repeat ((apply Rd.skip); (with_unfolding_all omega))); first | exact Rd.self | assumption | exact Rd.own (by assumption))))) rfl) ?_)) | with_reducible refine WO.nil ?_ | with_reducible refine WC.reg ?_ | with_reducible refine WC.seq ?_ | with_reducible refine WC.skip ?_ | refine WC.condF rfl ?_ | with_reducible refine stN ?_)
  refine WO.cn rfl ?_
  have hs0 : Same H (set1 H nx [.int .i64 n, .slice base es.length c]) nx := Same.refl.set (Nat.le_refl _)
  refine (light_spec h6 hh (by decide) h9 ((he.same hs0).up (Nat.le_succ _))).of ?_
  rintro _ H1 nx1 ⟨rfl, hs1, hn1⟩
  have hb1 : Rd H1 nx [.int .i64 n, .slice base es.length c] := hs1.rd (by omega) Rd.self
  have hs01 : Same H H1 nx := hs0.trans hs1 (by omega)
  clear hs1
  by_cases hlight : Light n es
  · rw [decide_eq_true hlight]
    repeat' (first | ((first | refine WO.n rfl ?_ | refine WO.k rfl ?_); (first | refine Then.of (Act.mov rfl) ?_ | refine Then.of (Act.len rfl) ?_ | refine Then.of (Act.not rfl) ?_ | refine Then.of (Act.pick rfl rfl rfl) ?_ | ((refine Then.both (Act.gtr rfl rfl) (fun h => ?_) (fun h => ?_)) <;> (try simp only [Int.ofNat_eq_natCast] at h)))) | refine WO.gYes rfl ?_ | with_reducible refine WO.nil ?_ | with_reducible refine WC.reg ?_ | with_reducible refine WC.seq ?_ | with_reducible refine WC.skip ?_ | with_reducible refine WC.ret ?_ | refine WC.condT rfl ?_ | refine WC.condF rfl ?_ | with_reducible refine stN ?_ | with_reducible refine stR ?_)
    · exact fin_ret (vs := [_]) rfl rfl
    · have hl1 := (hl.same hs01).up (show nx ≤ nx1 by omega)
      refine WO.n rfl ?_
      refine Then.pushes (nx0 := nx1) rfl rfl .nil (hl1.src (fun _ => rfl)) (by omega) (oneI l) (lenI l) (Nat.le_refl _) (by unfold small; omega) (by unfold small; omega) ?_
      intro v1 H2 nx2 hn2 hg1 hs2 _
      repeat' (refine WO.n rfl ?_; refine Then.of (Act.bsl rfl rfl (by omega)) ?_)
      refine WO.n rfl ?_
      refine Then.push rfl rfl (hg1.same (Same.refl.set (Nat.le_refl _)) (Nat.le_succ _)) (src_one Rd.self rfl) (by omega) (by omega) rfl rfl (by omega) (by unfold small; omega) (by unfold small; omega) ?_
      intro v2 H3 hg2 hs3 _
      obtain ⟨_, ⟨_, h0⟩ | ⟨b2, rfl, hb0, hb1', hr2⟩⟩ := hg2
      · omega
      rw [Nat.zero_add] at *
      have hs13 : Same H1 H3 nx1 := hs2.trans ((Same.refl.set (by omega)).trans hs3 (Nat.le_refl _)) (Nat.le_refl _)
      have hb3 := hs13.rd (by omega) hb1
      have hs03 : Same H H3 nx := hs01.trans hs13 (by omega)
      have ht : SlE H3 (nx2 + 1 + 1) 1 encI (.slice (some ⟨b2, 0 + 0 * 1, some 1⟩) (l.length - 0) (2 * (l.length + 1) - 2 * 0)) l := SlE.pre (Rd.own hr2) hb1' (by show l.length ≤ sureCap (2 * (l.length + 1)); rw [sure_two]; omega) (fun _ => rfl)
      repeat' (refine WO.n rfl ?_; refine Then.of (Act.len rfl) ?_)
      refine WO.n rfl ?_
      refine Then.of (Act.slc rfl rfl rfl (by omega) (by rw [sure_two]; omega)) ?_
      repeat' (first | ((first | refine WO.n rfl ?_ | refine WO.k rfl ?_); (first | refine Then.of (Act.mov rfl) ?_ | refine Then.of (Act.lod rfl (by (with_reducible (first | exact Rd.self | assumption | exact Rd.own (by assumption) | ((repeat ((apply Rd.skip); (with_unfolding_all omega))); first | exact Rd.self | assumption | exact Rd.own (by assumption))))) rfl) ?_)) | with_reducible refine WO.nil ?_ | with_reducible refine WC.reg ?_ | with_reducible refine WC.seq ?_ | with_reducible refine stN ?_)
      refine WO.cn rfl ?_
      have hlen : es.length ≤ 4000 := by have := hlight.1; omega
      have hl4 : l.length ≤ 400 := by omega
      refine (isst_spec h7 hh (by decide) h21 h22 ((he.same hs03).up (by omega)) ht (by omega) hlen).of ?_
      rintro _ H4 nx4 ⟨hs4, hn4, rfl⟩
      have hb4 := hs4.rd (by omega) hb3
      have hs04 : Same H H4 nx := hs03.trans hs4 (by omega)
      by_cases hmay : May n es
      · rw [if_pos hmay]
        repeat' (first | ((first | refine WO.n rfl ?_ | refine WO.k rfl ?_); (first | refine Then.of (Act.mov rfl) ?_ | refine Then.of (Act.ext rfl rfl) ?_)) | with_reducible refine WO.nil ?_ | with_reducible refine WC.reg ?_ | with_reducible refine WC.seq ?_ | with_reducible refine stN ?_)
        refine WO.cn rfl ?_
        refine (ints_spec h8 (hh 8 (by decide)) ((ht.same hs4).up hn4) ((hl.same hs04).up (by omega)) (by omega)).of ?_
        rintro _ _ _ ⟨rfl, rfl, rfl⟩
        rw [decide_eq_true rfl]
        repeat' (first | ((first | refine WO.n rfl ?_ | refine WO.k rfl ?_); (first | refine Then.of (Act.not rfl) ?_ | refine Then.of (Act.lod rfl (by (with_reducible (first | exact Rd.self | assumption | exact Rd.own (by assumption) | ((repeat ((apply Rd.skip); (with_unfolding_all omega))); first | exact Rd.self | assumption | exact Rd.own (by assumption))))) rfl) ?_)) | with_reducible refine WO.nil ?_ | with_reducible refine WC.reg ?_ | with_reducible refine WC.seq ?_ | with_reducible refine WC.skip ?_ | refine WC.condF rfl ?_ | with_reducible refine stN ?_)
        refine WO.cn rfl ?_
        refine (may_spec h9 (hh 9 (by decide)) ((he.same hs04).up (by omega))).of ?_
        rintro _ H5 nx5 ⟨rfl, hs5, hn5⟩
        rw [decide_eq_true hmay]
        have hb5 := hs5.rd (by omega) hb4
        have hs05 : Same H H5 nx := hs04.trans hs5 (by omega)
        repeat' (first | ((first | refine WO.n rfl ?_ | refine WO.k rfl ?_); (first | refine Then.of (Act.mov rfl) ?_ | refine Then.of (Act.len rfl) ?_ | refine Then.of (Act.not rfl) ?_ | refine Then.of (Act.sub rfl rfl (by (unfold In64; simp only [Int.ofNat_eq_natCast]; omega))) ?_)) | with_reducible refine WO.nil ?_ | with_reducible refine WC.reg ?_ | with_reducible refine WC.seq ?_ | with_reducible refine WC.skip ?_ | with_reducible refine WC.block ?_ | refine WC.condF rfl ?_ | with_reducible refine stN ?_)
        refine WC.sub (.cons rfl (.cons rfl (.cons rfl (.cons rfl (.cons rfl (.cons rfl (.cons rfl (.nil _)))))))) (lawL (n := n) (x2 := .pointer (some ⟨nx, 0, none⟩)) hl hl4 hs05 (by omega) (fun v σ H6 nx6 hσ hs6 hn6 hback => ?_))
        have hb6 := hs6.rd (by omega) hb5
        have hs06 : Same H H6 nx := hs05.trans hs6 (by omega)
        refine bkE (stN (WC.sub hσ ?_))
        repeat' (first | (refine WO.n rfl ?_; refine Then.of (Act.lod rfl (by (with_reducible (first | exact Rd.self | assumption | exact Rd.own (by assumption) | ((repeat ((apply Rd.skip); (with_unfolding_all omega))); first | exact Rd.self | assumption | exact Rd.own (by assumption))))) rfl) ?_) | with_reducible refine WC.reg ?_ | with_reducible refine WC.seq ?_)
        refine WO.cn rfl ?_
        refine (isst_spec h7 hh (by decide) h21 h22 ((he.same hs06).up (by omega)) hback (by simp; omega) hlen).of ?_
        rintro _ H7 nx7 ⟨hs7, hn7, rfl⟩
        have hb7 := hs7.rd (by omega) hb6
        have hs07 : Same H H7 nx := hs06.trans hs7 (by omega)
        rw [if_pos hmay, show decide (IsStP n es l.reverse) = decide (IsStP n es l) from decide_eq_decide.2 IsStP.rev_iff]
        by_cases hst : IsStP n es l
        · rw [decide_eq_true hst]
          repeat' (first | ((first | refine WO.n rfl ?_ | refine WO.k rfl ?_); (first | refine Then.of (Act.mov rfl) ?_ | refine Then.of (Act.ext rfl rfl) ?_ | refine Then.of (Act.pick rfl rfl rfl) ?_ | refine Then.of (Act.lod rfl (by (with_reducible (first | exact Rd.self | assumption | exact Rd.own (by assumption) | ((repeat ((apply Rd.skip); (with_unfolding_all omega))); first | exact Rd.self | assumption | exact Rd.own (by assumption))))) rfl) ?_ | ((refine Then.both (Act.eqlI rfl rfl) (fun h => ?_) (fun h => ?_)) <;> (try simp only [Int.ofNat_eq_natCast] at h)))) | refine WO.gYes rfl ?_ | refine WO.gNo rfl ?_ | with_reducible refine WO.nil ?_ | with_reducible refine WC.reg ?_ | with_reducible refine WC.seq ?_ | with_reducible refine WC.ret ?_ | with_reducible refine stN ?_)
          · refine WO.cn rfl ?_
            refine (ris_spec h10 hh (by decide) h23 h24 h25 h53 ((he.same hs07).up (by omega)) ((hl.same hs07).up (by omega)) (by omega) hlen hmay.2.2.2).of ?_
            rintro _ H8 nx8 ⟨_, _, rfl⟩
            rw [decide_eq_true hst]
            refine WO.gYes rfl ?_
            refine WO.n rfl ?_
            refine Then.of (Act.eqlB hP rfl rfl) ?_
            repeat' (first | (refine WO.n rfl ?_; (first | refine Then.of (Act.mov rfl) ?_ | refine Then.of (Act.pick rfl rfl rfl) ?_)) | refine WO.gYes rfl ?_)
            refine WO.n rfl ?_
            refine Then.of (Act.eqlB hP rfl rfl) ?_
            repeat' (first | ((first | refine WO.n rfl ?_ | refine WO.k rfl ?_); (first | refine Then.of (Act.mov rfl) ?_ | refine Then.of (Act.pick rfl rfl rfl) ?_)) | with_reducible refine WO.nil ?_ | with_reducible refine WC.ret ?_ | with_reducible refine stN ?_)
            exact fin_ret (vs := [_]) rfl rfl
          · exact absurd rfl h
          · exact absurd rfl h
        · rw [decide_eq_false hst]
          repeat' (first | ((first | refine WO.n rfl ?_ | refine WO.k rfl ?_); (first | refine Then.of (Act.mov rfl) ?_ | refine Then.of (Act.ext rfl rfl) ?_ | refine Then.of (Act.pick rfl rfl rfl) ?_ | refine Then.of (Act.lod rfl (by (with_reducible (first | exact Rd.self | assumption | exact Rd.own (by assumption) | ((repeat ((apply Rd.skip); (with_unfolding_all omega))); first | exact Rd.self | assumption | exact Rd.own (by assumption))))) rfl) ?_ | ((refine Then.both (Act.eqlI rfl rfl) (fun h => ?_) (fun h => ?_)) <;> (try simp only [Int.ofNat_eq_natCast] at h)))) | refine WO.gYes rfl ?_ | refine WO.gNo rfl ?_ | with_reducible refine WO.nil ?_ | with_reducible refine WC.reg ?_ | with_reducible refine WC.seq ?_ | with_reducible refine WC.ret ?_ | with_reducible refine stN ?_)
          · refine WO.cn rfl ?_
            refine (ris_spec h10 hh (by decide) h23 h24 h25 h53 ((he.same hs07).up (by omega)) ((hl.same hs07).up (by omega)) (by omega) hlen hmay.2.2.2).of ?_
            rintro _ H8 nx8 ⟨_, _, rfl⟩
            rw [decide_eq_false hst]
            refine WO.gYes rfl ?_
            refine WO.n rfl ?_
            refine Then.of (Act.eqlB hP rfl rfl) ?_
            repeat' (first | (refine WO.n rfl ?_; (first | refine Then.of (Act.mov rfl) ?_ | refine Then.of (Act.pick rfl rfl rfl) ?_)) | refine WO.gYes rfl ?_)
            refine WO.n rfl ?_
            refine Then.of (Act.eqlB hP rfl rfl) ?_
            repeat' (first | ((first | refine WO.n rfl ?_ | refine WO.k rfl ?_); (first | refine Then.of (Act.mov rfl) ?_ | refine Then.of (Act.pick rfl rfl rfl) ?_)) | with_reducible refine WO.nil ?_ | with_reducible refine WC.ret ?_ | with_reducible refine stN ?_)
            exact fin_ret (vs := [_]) rfl rfl
          · exact absurd rfl h
          · exact absurd rfl h
      · rw [if_neg hmay]
        repeat' (first | ((first | refine WO.n rfl ?_ | refine WO.k rfl ?_); (first | refine Then.of (Act.mov rfl) ?_ | refine Then.of (Act.ext rfl rfl) ?_)) | with_reducible refine WO.nil ?_ | with_reducible refine WC.reg ?_ | with_reducible refine WC.seq ?_ | with_reducible refine stN ?_)
        refine WO.cn rfl ?_
        refine (ints_spec h8 (hh 8 (by decide)) ((ht.same hs4).up hn4) ((hl.same hs04).up (by omega)) (by omega)).of ?_
        rintro _ _ _ ⟨rfl, rfl, rfl⟩
        rw [decide_eq_true rfl]
        repeat' (first | ((first | refine WO.n rfl ?_ | refine WO.k rfl ?_); (first | refine Then.of (Act.not rfl) ?_ | refine Then.of (Act.lod rfl (by (with_reducible (first | exact Rd.self | assumption | exact Rd.own (by assumption) | ((repeat ((apply Rd.skip); (with_unfolding_all omega))); first | exact Rd.self | assumption | exact Rd.own (by assumption))))) rfl) ?_)) | with_reducible refine WO.nil ?_ | with_reducible refine WC.reg ?_ | with_reducible refine WC.seq ?_ | with_reducible refine WC.skip ?_ | refine WC.condF rfl ?_ | with_reducible refine stN ?_)
        refine WO.cn rfl ?_
        refine (may_spec h9 (hh 9 (by decide)) ((he.same hs04).up (by omega))).of ?_
        rintro _ H5 nx5 ⟨rfl, hs5, hn5⟩
        rw [decide_eq_false hmay]
        repeat' (first | ((first | refine WO.n rfl ?_ | refine WO.k rfl ?_); (first | refine Then.of (Act.mov rfl) ?_ | refine Then.of (Act.not rfl) ?_ | refine Then.of (Act.pick rfl rfl rfl) ?_ | ((refine Then.both (Act.eqlI rfl rfl) (fun h => ?_) (fun h => ?_)) <;> (try simp only [Int.ofNat_eq_natCast] at h)))) | refine WO.gYes rfl ?_ | refine WO.gNo rfl ?_ | with_reducible refine WO.nil ?_ | with_reducible refine WC.reg ?_ | with_reducible refine WC.seq ?_ | with_reducible refine WC.ret ?_ | refine WC.condT rfl ?_ | with_reducible refine stN ?_ | with_reducible refine stR ?_)
        · exact fin_ret (vs := [_]) rfl rfl
        · exact absurd rfl h
  · rw [decide_eq_false hlight]
    repeat' (first | ((first | refine WO.n rfl ?_ | refine WO.k rfl ?_); (first | refine Then.of (Act.mov rfl) ?_ | refine Then.of (Act.not rfl) ?_ | refine Then.of (Act.pick rfl rfl rfl) ?_)) | refine WO.gNo rfl ?_ | with_reducible refine WO.nil ?_ | with_reducible refine WC.reg ?_ | with_reducible refine WC.seq ?_ | with_reducible refine WC.ret ?_ | refine WC.condT rfl ?_ | with_reducible refine stN ?_ | with_reducible refine stR ?_)
    exact fin_ret (vs := [_]) rfl rfl
end Go.Eng
