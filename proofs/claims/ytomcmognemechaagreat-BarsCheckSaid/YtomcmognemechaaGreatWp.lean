import Derived.Test.YtomcmognemechaaGreatWo
/- The reference's answer. -/
namespace Go.Eng
variable {A : AProg} {H H' : Heap} {nx nx' : Nat} {σ : Slots} {Q : Post}
set_option maxRecDepth 100000

theorem ref_spec {g : FuncId} (hf : A.funcs g = some xRef) (h17 : A.funcs 17 = some xSpan) (hh : ∀ g, g ≠ 4 → ∀ vs H nx, A.hook g vs H nx = none) (hg : g ≠ 4)
    {n : Int} {ev yv lv rv xv : Value} {es : List (Int × Int)} {Y L R X : List Int} (hm : May n es) (hsm : n ≤ 60 ∧ es.length ≤ 60)
    (he : SlE H nx 2 encP ev es) (hy : SlE H nx 1 encI yv Y) (hl : SlE H nx 1 encI lv L) (hr : SlE H nx 1 encI rv R) (hx : SlE H nx 1 encI xv X) :
    WF A g [.agg #[.int .i64 n, ev], .agg #[yv, lv, rv, xv]] H nx fun fv H' nx' => Same H H' nx ∧ nx ≤ nx' ∧ SlE H' nx' 3 encF fv (flaws n es Y L R X) := by
  obtain ⟨base, ec, rfl⟩ := he.form
  obtain ⟨yb, yc, rfl⟩ := hy.form
  obtain ⟨lb', lc, rfl⟩ := hl.form
  obtain ⟨rb, rc, rfl⟩ := hr.form
  obtain ⟨xb, xc, rfl⟩ := hx.form
  refine WF.enter (hh g hg _ _ _) hf ?_
  repeat' (first | ((first | refine WO.n rfl ?_ | refine WO.k rfl ?_); (first | refine Then.of (Act.mov rfl) ?_ | refine Then.of (Act.fad rfl) ?_ | refine Then.of (Act.len rfl) ?_ | refine Then.of (Act.box rfl) ?_ | refine Then.of (Act.bld rfl rfl) ?_ | refine Then.of (Act.pick rfl rfl rfl) ?_ | refine Then.of (Act.lod rfl (by (with_reducible (first | exact Rd.self | assumption | exact Rd.own (by assumption) | ((repeat ((apply Rd.skip); (with_unfolding_all omega))); first | exact Rd.self | assumption | exact Rd.own (by assumption))))) rfl) ?_ | refine Then.of (Act.bsl rfl rfl (by omega)) ?_ | ((refine Then.both (Act.neqI rfl rfl) (fun h => ?_) (fun h => ?_)) <;> (try simp only [Int.ofNat_eq_natCast] at h)))) | refine WO.gYes rfl ?_ | refine WO.gNo rfl ?_ | with_reducible refine WO.nil ?_ | with_reducible refine WC.reg ?_ | with_reducible refine WC.seq ?_ | with_reducible refine WC.skip ?_ | with_reducible refine WC.ret ?_ | with_reducible refine WC.block ?_ | refine WC.condT rfl ?_ | refine WC.condF rfl ?_ | with_reducible refine stN ?_ | with_reducible refine stR ?_)
  iterate 4
    · refine fin_ret (vs := [_]) rfl ⟨((Same.refl.set (Nat.le_refl _)).set (by omega)).set (by omega), by omega, ?_⟩
      rw [show flaws n es Y L R X = [(1, 0, 0)] from if_neg (fun hfit => by obtain ⟨f1, f2, f3, f4⟩ := hfit; omega)]
      exact SlE.pre (xs := [((1, 0, 0) : Fl)]) (rest := []) Rd.self (by omega) (by decide) (fun _ => rfl)
  have hfit : Fits n es Y L R X := ⟨by omega, by omega, by omega, by omega⟩
  have hfl : flaws n es Y L R X = (vwOf n es Y L R X).all := if_pos hfit
  have hs0 : Same H (set1 (set1 H nx [.int .i64 n, .slice base es.length ec]) (nx + 1) [.slice yb Y.length yc, .slice lb' L.length lc, .slice rb R.length rc, .slice xb X.length xc]) nx := (Same.refl.set (Nat.le_refl _)).set (Nat.le_succ _)
  have hup : nx ≤ nx + 1 + 1 := by omega
  have vw := vw_of (nx := nx + 1 + 1) (H := set1 (set1 H nx [.int .i64 n, .slice base es.length ec]) (nx + 1) [.slice yb Y.length yc, .slice lb' L.length lc, .slice rb R.length rc, .slice xb X.length xc]) hm hsm.1 hsm.2 hfit ((he.same hs0).up hup) ((hy.same hs0).up hup) ((hl.same hs0).up hup) ((hr.same hs0).up hup) ((hx.same hs0).up hup)
  have hnn := vw.hn
  have hmm := vw.hm
  have hrn : Rd (set1 (set1 H nx [.int .i64 n, .slice base es.length ec]) (nx + 1) [.slice yb Y.length yc, .slice lb' L.length lc, .slice rb R.length rc, .slice xb X.length xc]) nx [.int .i64 n, .slice base es.length ec] := Rd.skip (by omega) Rd.self
  have hrv : Rd (set1 (set1 H nx [.int .i64 n, .slice base es.length ec]) (nx + 1) [.slice yb Y.length yc, .slice lb' L.length lc, .slice rb R.length rc, .slice xb X.length xc]) (nx + 1) [.slice yb Y.length yc, .slice lb' L.length lc, .slice rb R.length rc, .slice xb X.length xc] := Rd.self
  have hnb : nx < nx + 1 + 1 := by omega
  have hvb : nx + 1 < nx + 1 + 1 := by omega
  refine WC.sub (.cons rfl (.cons rfl (.cons rfl (.cons rfl (.nil _))))) (r2L ⟨.nil, .refl, Nat.le_refl _⟩ vw hnb hvb hrn hrv (fun σ H1 nx1 v1 hσ hn1 st1 => ?_))
  refine bkE (stN (WC.sub hσ ?_))
  have hs1 := st1.g.sle (fun _ => rfl)
  obtain ⟨b1, c1, rfl⟩ := hs1.form
  repeat' (first | ((first | refine WO.n rfl ?_ | refine WO.k rfl ?_); (first | refine Then.of (Act.mov rfl) ?_ | refine Then.of (Act.len rfl) ?_ | ((refine Then.both (Act.gtr rfl rfl) (fun h => ?_) (fun h => ?_)) <;> (try simp only [Int.ofNat_eq_natCast] at h)))) | with_reducible refine WO.nil ?_ | with_reducible refine WC.reg ?_ | with_reducible refine WC.seq ?_ | with_reducible refine WC.skip ?_ | with_reducible refine WC.ret ?_ | with_reducible refine WC.block ?_ | refine WC.condT rfl ?_ | refine WC.condF rfl ?_ | with_reducible refine stN ?_ | with_reducible refine stR ?_)
  · refine fin_ret (vs := [_]) rfl ⟨hs0.trans st1.same (by omega), by omega, ?_⟩
    rw [hfl]
    have : (vwOf n es Y L R X).all = (vwOf n es Y L R X).f2 := by
      unfold Vw.all
      cases hq : (vwOf n es Y L R X).f2 with
      | nil => rw [hq] at h; simp at h
      | cons a l => rfl
    rw [this]
    exact hs1
  · have hf2 : (vwOf n es Y L R X).f2 = [] := List.eq_nil_of_length_eq_zero (by omega)
    have st1' := st1
    rw [hf2] at st1' ⊢
    have l3 := f3_len (vwOf n es Y L R X) (vwOf n es Y L R X).m
    have l4 := len60 (Nat.le_refl (vwOf n es Y L R X).n) hnn (f4_len _ _)
    have l5 := len60' (Nat.le_refl (vwOf n es Y L R X).m) hnn hmm (f5_len _ _)
    refine WC.sub (.cons rfl (.cons rfl (.cons rfl (.cons rfl (.nil _))))) (r3L st1' vw hnb hvb hrn hrv (fun σ H3 nx3 v3 hσ hn3 st3 => ?_))
    refine bkE (stN (WC.sub hσ ?_))
    repeat' (first | (refine WO.k rfl ?_; refine Then.of (Act.mov rfl) ?_) | with_reducible refine WO.nil ?_ | with_reducible refine WC.reg ?_ | with_reducible refine WC.seq ?_ | with_reducible refine WC.block ?_ | with_reducible refine stN ?_)
    refine WC.sub (.cons rfl (.cons rfl (.cons rfl (.cons rfl (.nil _))))) (r4O st3 vw hnb hvb hrn hrv (by omega) (fun σ H4 nx4 v4 hσ hn4 st4 => ?_))
    refine bkE (stN (WC.sub hσ ?_))
    repeat' (first | (refine WO.k rfl ?_; refine Then.of (Act.mov rfl) ?_) | with_reducible refine WO.nil ?_ | with_reducible refine WC.reg ?_ | with_reducible refine WC.seq ?_ | with_reducible refine WC.block ?_ | with_reducible refine stN ?_)
    refine WC.sub (.cons rfl (.cons rfl (.cons rfl (.cons rfl (.nil _))))) (r5O h17 hh st4 vw hnb hvb hrn hrv (by rw [List.length_append]; omega) (fun σ H5 nx5 v5 hσ hn5 st5 => ?_))
    refine bkE (stN (WC.sub hσ ?_))
    repeat' (first | (refine WO.k rfl ?_; refine Then.of (Act.mov rfl) ?_) | with_reducible refine WO.nil ?_ | with_reducible refine WC.reg ?_ | with_reducible refine WC.seq ?_ | with_reducible refine WC.block ?_ | with_reducible refine stN ?_)
    refine WC.sub (.cons rfl (.cons rfl (.cons rfl (.cons rfl (.nil _))))) (r6O h17 hh st5 vw hnb hvb hrn hrv (by rw [List.length_append, List.length_append]; omega) (fun σ H6 nx6 v6 hσ hn6 st6 => ?_))
    refine bkE (stN (WC.sub hσ ?_))
    repeat' (first | (refine WO.k rfl ?_; refine Then.of (Act.mov rfl) ?_) | with_reducible refine WO.nil ?_ | with_reducible refine WC.reg ?_ | with_reducible refine WC.seq ?_ | with_reducible refine WC.ret ?_ | with_reducible refine stN ?_)
    refine fin_ret (vs := [_]) rfl ⟨hs0.trans st6.same (by omega), by omega, ?_⟩
    rw [hfl]
    unfold Vw.all
    rw [hf2]
    exact st6.g.sle (fun _ => rfl)
end Go.Eng
