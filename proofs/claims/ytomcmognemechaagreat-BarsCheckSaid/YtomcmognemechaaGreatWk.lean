import Derived.Test.YtomcmognemechaaGreatWg
import Derived.Test.YtomcmognemechaaGreatWi
/- bars.Check. -/
namespace Go.Eng
variable {A : AProg} {H H' : Heap} {nx nx' : Nat} {σ : Slots} {Q : Post}
set_option maxRecDepth 100000

def xCheck : AFunc := ⟨[((.var [false, true]), none), ((.var [true, false]), none)], (.seq (.reg false [(⟨(some [false]), none, (.box (.var []))⟩, []), (⟨(some [true, true]), none, (.box (.var [true]))⟩, []), (⟨(some [false, true]), none, (.mov (.cst (.slice none 0 0)))⟩, []), (⟨(some [true, false]), none, (.mov (.cst (.int .i64 (.ofNat 0))))⟩, [])]) (.seq (.seq (.reg false [(⟨none, none, (.lod (.var [false]) (some 2))⟩, []), (⟨none, none, (.call (.fn 12) [(.loc 0)])⟩, []), (⟨(some [true, false, true]), none, (.un .not (.loc 0))⟩, [])]) (.cond (.var [true, false, true]) (.seq (.reg false [(⟨(some [false, true]), none, (.mov (.cst (.slice none 0 0)))⟩, []), (⟨(some [true, false]), none, (.mov (.cst (.int .i64 (.ofNat 1))))⟩, [])]) .ret) .skip)) (.seq (.reg false [(⟨none, none, (.lod (.var [false]) (some 2))⟩, []), (⟨none, none, (.lod (.var [true, true]) (some 4))⟩, []), (⟨none, none, (.bld [(.int .i64 (.ofNat 0)), (.slice none 0 0), (.slice none 0 0), (.slice none 0 0), (.slice none 0 0), (.slice none 0 0), (.slice none 0 0)] [(0, 2, (.loc 1)), (2, 4, (.loc 0))])⟩, []), (⟨none, none, (.box (.loc 0))⟩, []), (⟨(some [false, false]), none, (.mov (.loc 0))⟩, [])]) (.seq (.seq (.reg false [(⟨none, none, (.fad (.var [true, true]) 0)⟩, []), (⟨none, none, (.lod (.loc 0) none)⟩, []), (⟨none, none, (.len (.loc 0))⟩, []), (⟨none, none, (.fad (.var [false]) 0)⟩, []), (⟨none, none, (.lod (.loc 0) none)⟩, []), (⟨none, none, (.bin .neq 3 (.loc 2) (.loc 0))⟩, []), (⟨none, none, (.mov (.loc 0))⟩, []), (⟨none, (some (0, false)), (.fad (.var [true, true]) 1)⟩, []), (⟨none, (some (1, false)), (.lod (.loc 0) none)⟩, []), (⟨none, (some (2, false)), (.len (.loc 0))⟩, []), (⟨none, (some (3, false)), (.fad (.var [false]) 0)⟩, []), (⟨none, (some (4, false)), (.lod (.loc 0) none)⟩, []), (⟨none, (some (5, false)), (.bin .neq 3 (.loc 2) (.loc 0))⟩, []), (⟨none, none, (.pick (.loc 6) (.cst (.bool true)) (.loc 0))⟩, []), (⟨none, none, (.mov (.loc 0))⟩, []), (⟨none, (some (0, false)), (.fad (.var [true, true]) 2)⟩, []), (⟨none, (some (1, false)), (.lod (.loc 0) none)⟩, []), (⟨none, (some (2, false)), (.len (.loc 0))⟩, []), (⟨none, (some (3, false)), (.fad (.var [false]) 0)⟩, []), (⟨none, (some (4, false)), (.lod (.loc 0) none)⟩, []), (⟨none, (some (5, false)), (.bin .neq 3 (.loc 2) (.loc 0))⟩, []), (⟨none, none, (.pick (.loc 6) (.cst (.bool true)) (.loc 0))⟩, []), (⟨none, none, (.mov (.loc 0))⟩, []), (⟨none, (some (0, false)), (.fad (.var [true, true]) 3)⟩, []), (⟨none, (some (1, false)), (.lod (.loc 0) none)⟩, []), (⟨none, (some (2, false)), (.len (.loc 0))⟩, []), (⟨none, (some (3, false)), (.fad (.var [false]) 1)⟩, []), (⟨none, (some (4, false)), (.lod (.loc 0) none)⟩, []), (⟨none, (some (5, false)), (.len (.loc 0))⟩, []), (⟨none, (some (6, false)), (.bin .neq 3 (.loc 3) (.loc 0))⟩, []), (⟨(some [false, true, false, false, true]), none, (.pick (.loc 7) (.cst (.bool true)) (.loc 0))⟩, [])]) (.cond (.var [false, true, false, false, true]) (.seq (.reg false [(⟨none, none, (.call (.fn 13) [(.var [false, false]), (.cst (.bool true)), (.cst (.int .i64 (.ofNat 1))), (.cst (.int .i64 (.ofNat 0))), (.cst (.int .i64 (.ofNat 0)))])⟩, [])]) (.seq (.reg false [(⟨none, none, (.nilck (.var [false, false]))⟩, []), (⟨none, none, (.fad (.loc 0) 6)⟩, []), (⟨none, none, (.lod (.loc 0) none)⟩, []), (⟨(some [false, true]), none, (.mov (.loc 0))⟩, []), (⟨(some [true, false]), none, (.mov (.cst (.int .i64 (.ofNat 0))))⟩, [])]) .ret)) .skip)) (.seq (.reg false [(⟨none, none, (.call (.fn 14) [(.var [false, false])])⟩, [])]) (.seq (.seq (.reg false [(⟨none, none, (.nilck (.var [false, false]))⟩, []), (⟨none, none, (.fad (.loc 0) 6)⟩, []), (⟨none, none, (.lod (.loc 0) none)⟩, []), (⟨none, none, (.len (.loc 0))⟩, []), (⟨(some [false, false, true, false, false]), none, (.bin .gtr 3 (.loc 0) (.cst (.int .i64 (.ofNat 0))))⟩, [])]) (.cond (.var [false, false, true, false, false]) (.seq (.reg false [(⟨none, none, (.nilck (.var [false, false]))⟩, []), (⟨none, none, (.fad (.loc 0) 6)⟩, []), (⟨none, none, (.lod (.loc 0) none)⟩, []), (⟨(some [false, true]), none, (.mov (.loc 0))⟩, []), (⟨(some [true, false]), none, (.mov (.cst (.int .i64 (.ofNat 0))))⟩, [])]) .ret) .skip)) (.seq (.reg false [(⟨none, none, (.call (.fn 15) [(.var [false, false])])⟩, [])]) (.seq (.reg false [(⟨none, none, (.call (.fn 16) [(.var [false, false])])⟩, [])]) (.seq (.reg false [(⟨none, none, (.nilck (.var [false, false]))⟩, []), (⟨none, none, (.fad (.loc 0) 6)⟩, []), (⟨none, none, (.lod (.loc 0) none)⟩, []), (⟨(some [false, true]), none, (.mov (.loc 0))⟩, []), (⟨(some [true, false]), none, (.mov (.cst (.int .i64 (.ofNat 0))))⟩, [])]) .ret)))))))))⟩

/-- a net and a view that fit -/
def vwOf (n : Int) (es : List (Int × Int)) (Y L R X : List Int) : Vw := ⟨n.toNat, es.length, (fun i => Y.getD i 0), (fun i => L.getD i 0), (fun i => R.getD i 0), (fun i => X.getD i 0), (fun i => (es.getD i (0, 0)).1.toNat), (fun i => (es.getD i (0, 0)).2.toNat)⟩
def Fits (n : Int) (es : List (Int × Int)) (Y L R X : List Int) : Prop := (Y.length : Int) = n ∧ (L.length : Int) = n ∧ (R.length : Int) = n ∧ X.length = es.length
instance {n : Int} {es : List (Int × Int)} {Y L R X : List Int} : Decidable (Fits n es Y L R X) := by unfold Fits; infer_instance
def flaws (n : Int) (es : List (Int × Int)) (Y L R X : List Int) : List Fl := if Fits n es Y L R X then (vwOf n es Y L R X).all else [(1, 0, 0)]

theorem vw_of {n : Int} {ev yv lv rv xv : Value} {es : List (Int × Int)} {Y L R X : List Int} (hm : May n es) (hn : n ≤ 60) (he60 : es.length ≤ 60) (hf : Fits n es Y L R X)
    (he : SlE H nx 2 encP ev es) (hy : SlE H nx 1 encI yv Y) (hl : SlE H nx 1 encI lv L) (hr : SlE H nx 1 encI rv R) (hx : SlE H nx 1 encI xv X) : VwS (vwOf n es Y L R X) H nx (.int .i64 n) ev yv lv rv xv := by
  obtain ⟨h0, _, _, hb⟩ := hm
  obtain ⟨f1, f2, f3, f4⟩ := hf
  have e1 : Y.length = n.toNat := by omega
  have e2 : L.length = n.toNat := by omega
  have e3 : R.length = n.toNat := by omega
  have g := he.fp (fun e h => ⟨(hb e h).1, (hb e h).2.2.1⟩)
  have g1 := hy.fn
  have g2 := hl.fn
  have g3 := hr.fn
  have g4 := hx.fn
  rw [e1] at g1
  rw [e2] at g2
  rw [e3] at g3
  rw [f4] at g4
  refine ⟨?_, g, g1, g2, g3, g4, by show n.toNat ≤ 60; omega, he60, fun e h => ?_, fun e h => ?_⟩
  · show Value.int .i64 n = .int .i64 ((n.toNat : Nat) : Int)
    congr 1; omega
  · have h' : e < es.length := h
    have := hb _ (List.getElem_mem h')
    show (es.getD e (0, 0)).1.toNat < n.toNat
    rw [show es.getD e (0, 0) = es[e] by simp [List.getD_eq_getElem?_getD, h']]
    unfold inB at this; omega
  · have h' : e < es.length := h
    have := hb _ (List.getElem_mem h')
    show (es.getD e (0, 0)).2.toNat < n.toNat
    rw [show es.getD e (0, 0) = es[e] by simp [List.getD_eq_getElem?_getD, h']]
    unfold inB at this; omega

theorem LkS.sle {lb fb : Nat} {H0 : Heap} {n0 ev yv lv rv xv : Value} {fl : List Fl} (st : LkS lb H0 n0 ev yv lv rv xv H nx fl fb) : ∃ fv, getP H (at_ lb) = some (.cells [n0, ev, yv, lv, rv, xv, fv]) ∧ SlE H nx 3 encF fv fl := by
  obtain ⟨⟨fv, hl, hfv⟩, hs, hlt⟩ := st
  refine ⟨fv, hl, ?_⟩
  rcases hfv with ⟨rfl, rfl, _⟩ | ⟨rfl, h1, h2, h3⟩
  · exact .nil
  · exact .pre (rest := []) (.inl (by simpa using h3)) h2 (by rw [sure_two]; omega) (fun _ => rfl)

theorem row1_nil {f : Nat → List Fl} : ∀ k, row1 f k = [] → ∀ i, i < k → f i = [] := by
  intro k
  induction k with
  | zero => intro _ i hi; omega
  | succ k ih =>
    intro h i hi
    rw [row1_succ] at h
    obtain ⟨h1, h2⟩ := List.append_eq_nil_iff.1 h
    rcases (show i < k ∨ i = k by omega) with h3 | rfl
    · exact ih h1 i h3
    · exact h2
theorem f2_ok {w : Vw} (h : w.f2 = []) : ∀ v, v < w.n → w.L v ≤ w.R v := by
  intro v hv
  have := row1_nil _ h v hv
  have hb : w.b2 v = false := by
    cases hb : w.b2 v with
    | false => rfl
    | true => simp [sel, hb] at this
  have := of_decide_eq_false hb
  omega

theorem check_spec {g : FuncId} (hf : A.funcs g = some xCheck) (h12 : A.funcs 12 = some xNMay) (h13 : A.funcs 13 = some xFind) (h14 : A.funcs 14 = some xBars) (h15 : A.funcs 15 = some xLines) (h16 : A.funcs 16 = some xPairs) (h29 : A.funcs 29 = some xWithin) (h30 : A.funcs 30 = some xLevels) (hh : ∀ g, g ≠ 4 → ∀ vs H nx, A.hook g vs H nx = none) (hg : g ≠ 4)
    {n : Int} {ev yv lv rv xv : Value} {es : List (Int × Int)} {Y L R X : List Int} (hsm : May n es → n ≤ 60 ∧ es.length ≤ 60)
    (he : SlE H nx 2 encP ev es) (hy : SlE H nx 1 encI yv Y) (hl : SlE H nx 1 encI lv L) (hr : SlE H nx 1 encI rv R) (hx : SlE H nx 1 encI xv X) :
    WF A g [.agg #[.int .i64 n, ev], .agg #[yv, lv, rv, xv]] H nx fun v H' nx' => Same H H' nx ∧ nx ≤ nx' ∧ ((¬ May n es ∧ v = .tuple ⟨[.slice none 0 0, .int .i64 1]⟩) ∨ (May n es ∧ ∃ fv, v = .tuple ⟨[fv, .int .i64 0]⟩ ∧ SlE H' nx' 3 encF fv (flaws n es Y L R X))) := by
  obtain ⟨base, ec, rfl⟩ := he.form
  obtain ⟨yb, yc, rfl⟩ := hy.form
  obtain ⟨lb', lc, rfl⟩ := hl.form
  obtain ⟨rb, rc, rfl⟩ := hr.form
  obtain ⟨xb, xc, rfl⟩ := hx.form
  refine WF.enter (hh g hg _ _ _) hf ?_
  repeat' (first | ((first | refine WO.n rfl ?_ | refine WO.k rfl ?_); (first | refine Then.of (Act.mov rfl) ?_ | refine Then.of (Act.box rfl) ?_ | refine Then.of (Act.lod rfl (by (with_reducible (first | exact Rd.self | assumption | exact Rd.own (by assumption) | ((repeat ((apply Rd.skip); (with_unfolding_all omega))); first | exact Rd.self | assumption | exact Rd.own (by assumption))))) rfl) ?_)) | with_reducible refine WO.nil ?_ | with_reducible refine WC.reg ?_ | with_reducible refine WC.seq ?_ | with_reducible refine stN ?_)
  refine WO.cn rfl ?_
  have hs0 : Same H (set1 (set1 H nx [.int .i64 n, .slice base es.length ec]) (nx + 1) [.slice yb Y.length yc, .slice lb' L.length lc, .slice rb R.length rc, .slice xb X.length xc]) nx := (Same.refl.set (Nat.le_refl _)).set (Nat.le_succ _)
  refine (nmay_spec h12 (hh 12 (by decide)) ((he.same hs0).up (show nx ≤ nx + 1 + 1 by omega))).of ?_
  rintro _ H1 nx1 ⟨rfl, hs1, hn1⟩
  have hs01 := hs0.trans hs1 (by omega)
  have hb1 : Rd H1 nx [.int .i64 n, .slice base es.length ec] := hs1.rd (by omega) (Rd.skip (by omega) Rd.self)
  have hb2 : Rd H1 (nx + 1) [.slice yb Y.length yc, .slice lb' L.length lc, .slice rb R.length rc, .slice xb X.length xc] := hs1.rd (by omega) Rd.self
  by_cases hmay : May n es
  · rw [decide_eq_true hmay]
    repeat' (first | ((first | refine WO.n rfl ?_ | refine WO.k rfl ?_); (first | refine Then.of (Act.mov rfl) ?_ | refine Then.of (Act.fad rfl) ?_ | refine Then.of (Act.len rfl) ?_ | refine Then.of (Act.not rfl) ?_ | refine Then.of (Act.box rfl) ?_ | refine Then.of (Act.bld rfl rfl) ?_ | refine Then.of (Act.pick rfl rfl rfl) ?_ | refine Then.of (Act.lod rfl (by (with_reducible (first | exact Rd.self | assumption | exact Rd.own (by assumption) | ((repeat ((apply Rd.skip); (with_unfolding_all omega))); first | exact Rd.self | assumption | exact Rd.own (by assumption))))) rfl) ?_ | ((refine Then.both (Act.neqI rfl rfl) (fun h => ?_) (fun h => ?_)) <;> (try simp only [Int.ofNat_eq_natCast] at h)))) | refine WO.gYes rfl ?_ | refine WO.gNo rfl ?_ | with_reducible refine WO.nil ?_ | with_reducible refine WC.reg ?_ | with_reducible refine WC.seq ?_ | with_reducible refine WC.skip ?_ | refine WC.condT rfl ?_ | refine WC.condF rfl ?_ | with_reducible refine stN ?_)
    all_goals
      have st0 : LkS nx1 H1 (.int .i64 n) (.slice base es.length ec) (.slice yb Y.length yc) (.slice lb' L.length lc) (.slice rb R.length rc) (.slice xb X.length xc) (set1 H1 nx1 [.int .i64 n, .slice base es.length ec, .slice yb Y.length yc, .slice lb' L.length lc, .slice rb R.length rc, .slice xb X.length xc, .slice none 0 0]) (nx1 + 1) [] nx1 :=
        ⟨⟨_, get_self, .inl ⟨rfl, rfl, rfl⟩⟩, Same.refl.set (Nat.le_refl _), by omega⟩
      refine WO.cn rfl ?_
    iterate 4
      · refine (find_spec h13 (hh 13 (by decide)) st0 (by simp)).of ?_
        rintro _ H3 nx3 ⟨hn3, fb3, st3, _, _⟩
        obtain ⟨fv3, hl3, hsl⟩ := st3.sle
        repeat' (first | ((first | refine WO.n rfl ?_ | refine WO.k rfl ?_); (first | refine Then.of (Act.mov rfl) ?_ | refine Then.of (Act.fad rfl) ?_ | refine Then.of (Act.lod rfl (by (with_reducible (first | exact Rd.self | assumption | exact Rd.own (by assumption) | ((repeat ((apply Rd.skip); (with_unfolding_all omega))); first | exact Rd.self | assumption | exact Rd.own (by assumption))))) rfl) ?_ | refine Then.of (Act.nilck rfl) ?_)) | with_reducible refine WO.nil ?_ | with_reducible refine WC.reg ?_ | with_reducible refine WC.seq ?_ | with_reducible refine WC.ret ?_ | with_reducible refine stN ?_ | with_reducible refine stR ?_)
        refine fin_ret (vs := [_, _]) rfl ⟨hs01.trans st3.same (by omega), by omega, .inr ⟨hmay, fv3, rfl, ?_⟩⟩
        have : flaws n es Y L R X = [(1, 0, 0)] := if_neg (fun hfit => by obtain ⟨f1, f2, f3, f4⟩ := hfit; omega)
        rw [this]
        exact hsl
    have hfit : Fits n es Y L R X := ⟨by omega, by omega, by omega, by omega⟩
    have hup : nx ≤ nx1 := by omega
    have vw := vw_of (nx := nx1) (H := H1) hmay (hsm hmay).1 (hsm hmay).2 hfit ((he.same hs01).up hup) ((hy.same hs01).up hup) ((hl.same hs01).up hup) ((hr.same hs01).up hup) ((hx.same hs01).up hup)
    refine (bars_spec h14 h13 h29 hh (by decide) st0 vw).of ?_
    rintro _ H3 nx3 ⟨hn3, fb3, st3⟩
    have hfl : flaws n es Y L R X = (vwOf n es Y L R X).all := if_pos hfit
    obtain ⟨fv3, hl3, hsl3⟩ := st3.sle
    obtain ⟨b3, c3, rfl⟩ := hsl3.form
    repeat' (first | ((first | refine WO.n rfl ?_ | refine WO.k rfl ?_); (first | refine Then.of (Act.mov rfl) ?_ | refine Then.of (Act.fad rfl) ?_ | refine Then.of (Act.len rfl) ?_ | refine Then.of (Act.lod rfl (by (with_reducible (first | exact Rd.self | assumption | exact Rd.own (by assumption) | ((repeat ((apply Rd.skip); (with_unfolding_all omega))); first | exact Rd.self | assumption | exact Rd.own (by assumption))))) rfl) ?_ | ((refine Then.both (Act.gtr rfl rfl) (fun h => ?_) (fun h => ?_)) <;> (try simp only [Int.ofNat_eq_natCast] at h)) | refine Then.of (Act.nilck rfl) ?_)) | with_reducible refine WO.nil ?_ | with_reducible refine WC.reg ?_ | with_reducible refine WC.seq ?_ | with_reducible refine WC.skip ?_ | with_reducible refine WC.ret ?_ | refine WC.condT rfl ?_ | refine WC.condF rfl ?_ | with_reducible refine stN ?_ | with_reducible refine stR ?_)
    · refine fin_ret (vs := [_, _]) rfl ⟨hs01.trans st3.same (by omega), by omega, .inr ⟨hmay, _, rfl, ?_⟩⟩
      rw [hfl]
      have : (vwOf n es Y L R X).all = (vwOf n es Y L R X).f2 := by
        unfold Vw.all
        cases hq : (vwOf n es Y L R X).f2 with
        | nil => rw [hq] at h; simp at h
        | cons a l => rfl
      rw [this]
      exact hsl3
    · have hf2 : (vwOf n es Y L R X).f2 = [] := List.eq_nil_of_length_eq_zero (by omega)
      rw [hf2] at st3
      refine WO.cn rfl ?_
      refine (lines_spec h15 h13 h29 hh (by decide) st3 vw).of ?_
      rintro _ H4 nx4 ⟨hn4, fb4, st4⟩
      repeat' (first | with_reducible refine WO.nil ?_ | with_reducible refine WC.reg ?_ | with_reducible refine WC.seq ?_ | with_reducible refine stN ?_)
      refine WO.cn rfl ?_
      refine (pairs_spec h16 h13 h29 h30 hh (by decide) st4 vw (f2_ok hf2) (by have := f3_len (vwOf n es Y L R X) (vwOf n es Y L R X).m; have := vw.hm; omega)).of ?_
      rintro _ H5 nx5 ⟨hn5, fb5, st5⟩
      obtain ⟨fv5, hl5, hsl5⟩ := st5.sle
      repeat' (first | ((first | refine WO.n rfl ?_ | refine WO.k rfl ?_); (first | refine Then.of (Act.mov rfl) ?_ | refine Then.of (Act.fad rfl) ?_ | refine Then.of (Act.lod rfl (by (with_reducible (first | exact Rd.self | assumption | exact Rd.own (by assumption) | ((repeat ((apply Rd.skip); (with_unfolding_all omega))); first | exact Rd.self | assumption | exact Rd.own (by assumption))))) rfl) ?_ | refine Then.of (Act.nilck rfl) ?_)) | with_reducible refine WO.nil ?_ | with_reducible refine WC.reg ?_ | with_reducible refine WC.seq ?_ | with_reducible refine WC.ret ?_ | with_reducible refine stN ?_)
      refine fin_ret (vs := [_, _]) rfl ⟨hs01.trans st5.same (by omega), by omega, .inr ⟨hmay, fv5, rfl, ?_⟩⟩
      rw [hfl]
      unfold Vw.all
      rw [hf2]
      exact hsl5
  · rw [decide_eq_false hmay]
    repeat' (first | (refine WO.k rfl ?_; (first | refine Then.of (Act.mov rfl) ?_ | refine Then.of (Act.not rfl) ?_)) | with_reducible refine WO.nil ?_ | with_reducible refine WC.reg ?_ | with_reducible refine WC.seq ?_ | with_reducible refine WC.ret ?_ | refine WC.condT rfl ?_ | with_reducible refine stN ?_ | with_reducible refine stR ?_)
    exact fin_ret (vs := [_, _]) rfl ⟨hs01, by omega, .inl ⟨hmay, rfl⟩⟩
end Go.Eng
