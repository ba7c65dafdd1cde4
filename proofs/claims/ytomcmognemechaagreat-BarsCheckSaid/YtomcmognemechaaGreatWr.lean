import Derived.Test.YtomcmognemechaaGreatWq
import Derived.Test.YtomcmognemechaaGreatWj
/- The law: the flaws of any view. -/
namespace Go.Eng
variable {A : AProg} {H : Heap} {nx : Nat} {σ : Slots} {Q : Post}
set_option maxRecDepth 100000

def xBLaw : AFunc := ⟨[((.var [false, true]), none)], (.seq (.reg false [(⟨(some [false]), none, (.box (.var []))⟩, []), (⟨(some [true, true]), none, (.box (.var [true]))⟩, []), (⟨(some [false, true]), none, (.mov (.cst (.bool false)))⟩, [])]) (.seq (.seq (.reg false [(⟨none, none, (.call (.fn 4) [])⟩, []), (⟨(some [true, false, true]), none, (.un .not (.loc 0))⟩, [])]) (.cond (.var [true, false, true]) (.seq (.reg false [(⟨(some [false, true]), none, (.mov (.cst (.bool false)))⟩, [])]) .ret) .skip)) (.seq (.seq (.reg false [(⟨none, none, (.lod (.var [false]) (some 2))⟩, []), (⟨none, none, (.call (.fn 5) [(.loc 0)])⟩, []), (⟨none, none, (.mov (.loc 0))⟩, []), (⟨none, (some (0, true)), (.fad (.var [false]) 0)⟩, []), (⟨none, (some (1, true)), (.lod (.loc 0) none)⟩, []), (⟨none, (some (2, true)), (.bin .gtr 3 (.loc 0) (.cst (.int .i64 (.ofNat 60))))⟩, []), (⟨none, (some (3, true)), (.mov (.loc 0))⟩, []), (⟨none, (some (0, false)), (.fad (.var [false]) 1)⟩, []), (⟨none, (some (1, false)), (.lod (.loc 0) none)⟩, []), (⟨none, (some (2, false)), (.len (.loc 0))⟩, []), (⟨none, (some (3, false)), (.bin .gtr 3 (.loc 0) (.cst (.int .i64 (.ofNat 60))))⟩, []), (⟨none, (some (8, true)), (.pick (.loc 4) (.cst (.bool true)) (.loc 0))⟩, []), (⟨none, none, (.pick (.loc 9) (.loc 0) (.cst (.bool false)))⟩, []), (⟨none, none, (.mov (.loc 0))⟩, []), (⟨none, (some (0, false)), (.fad (.var [true, true]) 0)⟩, []), (⟨none, (some (1, false)), (.lod (.loc 0) none)⟩, []), (⟨none, (some (2, false)), (.len (.loc 0))⟩, []), (⟨none, (some (3, false)), (.fad (.var [true, true]) 1)⟩, []), (⟨none, (some (4, false)), (.lod (.loc 0) none)⟩, []), (⟨none, (some (5, false)), (.len (.loc 0))⟩, []), (⟨none, (some (6, false)), (.bin .add 3 (.loc 3) (.loc 0))⟩, []), (⟨none, (some (7, false)), (.fad (.var [true, true]) 2)⟩, []), (⟨none, (some (8, false)), (.lod (.loc 0) none)⟩, []), (⟨none, (some (9, false)), (.len (.loc 0))⟩, []), (⟨none, (some (10, false)), (.bin .add 3 (.loc 3) (.loc 0))⟩, []), (⟨none, (some (11, false)), (.fad (.var [true, true]) 3)⟩, []), (⟨none, (some (12, false)), (.lod (.loc 0) none)⟩, []), (⟨none, (some (13, false)), (.len (.loc 0))⟩, []), (⟨none, (some (14, false)), (.bin .add 3 (.loc 3) (.loc 0))⟩, []), (⟨none, (some (15, false)), (.bin .gtr 3 (.loc 0) (.cst (.int .i64 (.ofNat 400))))⟩, []), (⟨(some [false, true, true, false, true]), none, (.pick (.loc 16) (.cst (.bool true)) (.loc 0))⟩, [])]) (.cond (.var [false, true, true, false, true]) (.seq (.reg false [(⟨(some [false, true]), none, (.mov (.cst (.bool true)))⟩, [])]) .ret) .skip)) (.seq (.reg true [(⟨none, none, (.fad (.var [true, true]) 0)⟩, []), (⟨none, none, (.lod (.loc 0) none)⟩, []), (⟨none, none, (.fad (.var [true, true]) 1)⟩, []), (⟨none, none, (.lod (.loc 0) none)⟩, []), (⟨none, none, (.fad (.var [true, true]) 2)⟩, []), (⟨none, none, (.lod (.loc 0) none)⟩, []), (⟨none, none, (.fad (.var [true, true]) 3)⟩, []), (⟨none, none, (.lod (.loc 0) none)⟩, []), (⟨none, none, (.app 1 8 [(.int .i64 (.ofNat 0))] (.cst (.slice none 0 0)) (.loc 6) false)⟩, [⟨none, (.lod (.loc 2) none), 1⟩, ⟨none, (.lod (.loc 4) none), 3⟩, ⟨none, (.lod (.loc 6) none), 5⟩]), (⟨none, none, (.app 1 8 [(.int .i64 (.ofNat 0))] (.cst (.slice none 0 0)) (.loc 5) false)⟩, [⟨none, (.lod (.loc 3) none), 2⟩, ⟨none, (.lod (.loc 5) none), 4⟩]), (⟨none, none, (.app 1 8 [(.int .i64 (.ofNat 0))] (.cst (.slice none 0 0)) (.loc 4) false)⟩, [⟨none, (.lod (.loc 4) none), 3⟩]), (⟨none, none, (.app 1 8 [(.int .i64 (.ofNat 0))] (.cst (.slice none 0 0)) (.loc 3) false)⟩, []), (⟨none, none, (.bld [(.slice none 0 0), (.slice none 0 0), (.slice none 0 0), (.slice none 0 0)] [(0, 1, (.loc 3)), (1, 1, (.loc 2)), (2, 1, (.loc 1)), (3, 1, (.loc 0))])⟩, []), (⟨(some [true, false]), none, (.alc [(.slice none 0 0), (.slice none 0 0), (.slice none 0 0), (.slice none 0 0)])⟩, []), (⟨none, none, (.sto (.loc 0) (.loc 1) 4)⟩, [])]) (.seq (.reg false [(⟨none, none, (.lod (.var [false]) (some 2))⟩, []), (⟨none, none, (.lod (.var [true, false]) (some 4))⟩, []), (⟨none, none, (.call (.fn 6) [(.loc 1), (.loc 0)])⟩, []), (⟨none, none, (.ext (.loc 0) 0)⟩, []), (⟨none, none, (.ext (.loc 1) 1)⟩, []), (⟨(some [false, false]), none, (.mov (.loc 1))⟩, []), (⟨(some [true, true, true]), none, (.mov (.loc 1))⟩, [])]) (.seq (.seq (.reg false [(⟨none, none, (.fad (.var [true, false]) 0)⟩, []), (⟨none, none, (.lod (.loc 0) none)⟩, []), (⟨none, none, (.fad (.var [true, true]) 0)⟩, []), (⟨none, none, (.lod (.loc 0) none)⟩, []), (⟨none, none, (.call (.fn 7) [(.loc 2), (.loc 0)])⟩, []), (⟨none, none, (.un .not (.loc 0))⟩, []), (⟨none, none, (.mov (.loc 0))⟩, []), (⟨none, (some (0, false)), (.fad (.var [true, false]) 1)⟩, []), (⟨none, (some (1, false)), (.lod (.loc 0) none)⟩, []), (⟨none, (some (2, false)), (.fad (.var [true, true]) 1)⟩, []), (⟨none, (some (3, false)), (.lod (.loc 0) none)⟩, []), (⟨none, (some (4, false)), (.call (.fn 7) [(.loc 2), (.loc 0)])⟩, []), (⟨none, (some (5, false)), (.un .not (.loc 0))⟩, []), (⟨none, none, (.pick (.loc 6) (.cst (.bool true)) (.loc 0))⟩, []), (⟨none, none, (.mov (.loc 0))⟩, []), (⟨none, (some (0, false)), (.fad (.var [true, false]) 2)⟩, []), (⟨none, (some (1, false)), (.lod (.loc 0) none)⟩, []), (⟨none, (some (2, false)), (.fad (.var [true, true]) 2)⟩, []), (⟨none, (some (3, false)), (.lod (.loc 0) none)⟩, []), (⟨none, (some (4, false)), (.call (.fn 7) [(.loc 2), (.loc 0)])⟩, []), (⟨none, (some (5, false)), (.un .not (.loc 0))⟩, []), (⟨none, none, (.pick (.loc 6) (.cst (.bool true)) (.loc 0))⟩, []), (⟨none, none, (.mov (.loc 0))⟩, []), (⟨none, (some (0, false)), (.fad (.var [true, false]) 3)⟩, []), (⟨none, (some (1, false)), (.lod (.loc 0) none)⟩, []), (⟨none, (some (2, false)), (.fad (.var [true, true]) 3)⟩, []), (⟨none, (some (3, false)), (.lod (.loc 0) none)⟩, []), (⟨none, (some (4, false)), (.call (.fn 7) [(.loc 2), (.loc 0)])⟩, []), (⟨none, (some (5, false)), (.un .not (.loc 0))⟩, []), (⟨(some [true, false, true, false, false, true]), none, (.pick (.loc 6) (.cst (.bool true)) (.loc 0))⟩, [])]) (.cond (.var [true, false, true, false, false, true]) (.seq (.reg false [(⟨(some [false, true]), none, (.mov (.cst (.bool false)))⟩, [])]) .ret) .skip)) (.seq (.seq (.reg false [(⟨none, none, (.lod (.var [false]) (some 2))⟩, []), (⟨none, none, (.call (.fn 5) [(.loc 0)])⟩, []), (⟨(some [false, true, false, false, false, true]), none, (.un .not (.loc 0))⟩, [])]) (.cond (.var [false, true, false, false, false, true]) (.seq (.reg false [(⟨none, none, (.bin .eql 31 (.var [true, true, true]) (.cst (.int .i64 (.ofNat 1))))⟩, []), (⟨none, none, (.mov (.loc 0))⟩, []), (⟨none, (some (0, true)), (.mov (.var [false, false]))⟩, []), (⟨none, (some (1, true)), (.len (.loc 0))⟩, []), (⟨none, (some (2, true)), (.bin .eql 3 (.loc 0) (.cst (.int .i64 (.ofNat 0))))⟩, []), (⟨none, none, (.pick (.loc 3) (.loc 0) (.cst (.bool false)))⟩, []), (⟨(some [false, true]), none, (.mov (.loc 0))⟩, [])]) .ret) .skip)) (.seq (.reg false [(⟨none, none, (.bin .eql 31 (.var [true, true, true]) (.cst (.int .i64 (.ofNat 0))))⟩, []), (⟨none, none, (.mov (.loc 0))⟩, []), (⟨none, (some (0, true)), (.mov (.var [false, false]))⟩, []), (⟨none, (some (1, true)), (.lod (.var [false]) (some 2))⟩, []), (⟨none, (some (2, true)), (.lod (.var [true, true]) (some 4))⟩, []), (⟨none, (some (3, true)), (.call (.fn 9) [(.loc 1), (.loc 0)])⟩, []), (⟨none, (some (4, true)), (.call (.fn 8) [(.loc 3), (.loc 0)])⟩, []), (⟨none, none, (.pick (.loc 5) (.loc 0) (.cst (.bool false)))⟩, []), (⟨(some [false, true]), none, (.mov (.loc 0))⟩, [])]) .ret))))))))⟩

theorem flatI (l : List Int) : l.flatMap encI = l.map (.int .i64) := by
  induction l with
  | nil => rfl
  | cons x l ih => rw [List.flatMap_cons, ih]; rfl
theorem oneI (l : List Int) : allOne (l.flatMap encI) = true := by
  induction l with
  | nil => rfl
  | cons x l ih => rw [List.flatMap_cons]; exact ih
theorem lenI (l : List Int) : (l.flatMap encI).length = l.length * 1 := by rw [flatI]; simp

theorem veq_slice {base : Option Addr} {n c : Nat} : veq (.slice base n c) (.slice base n c) = true := veq1_slice
theorem Grows.slI {nx0 : Nat} {v : Value} {l : List Int} (h : Grows H nx0 nx 1 v (0 + l.length) ([] ++ l.flatMap encI)) : SlE H nx 1 encI v l := Grows.sle (nx0 := nx0) (by simpa using h) (fun _ => rfl)

theorem flaws_len {n : Int} {es : List (Int × Int)} {Y L R X : List Int} (hm : May n es) (hsm : n ≤ 60 ∧ es.length ≤ 60) : (flaws n es Y L R X).length ≤ 40000 := by
  unfold flaws
  split
  · rename_i hf
    have hn : (vwOf n es Y L R X).n ≤ 60 := by show n.toNat ≤ 60; omega
    have hmm : (vwOf n es Y L R X).m ≤ 60 := hsm.2
    unfold Vw.all
    cases (vwOf n es Y L R X).f2.isEmpty with
    | true =>
      have l3 := f3_len (vwOf n es Y L R X) (vwOf n es Y L R X).m
      have l4 := len60 (Nat.le_refl (vwOf n es Y L R X).n) hn (f4_len _ _)
      have l5 := len60' (Nat.le_refl (vwOf n es Y L R X).m) hn hmm (f5_len _ _)
      have l6 := len60 (Nat.le_refl (vwOf n es Y L R X).m) hmm (f6_len _ _)
      show (_ ++ _ ++ _ ++ _ : List Fl).length ≤ _
      simp only [List.length_append]
      omega
    | false =>
      have := row1_len (f := fun v => sel ((vwOf n es Y L R X).b2 v) (2, (v : Int), 0)) (c := 1) (fun i => sel_len _ _) (vwOf n es Y L R X).n
      show (Vw.f2 _).length ≤ _
      unfold Vw.f2
      omega
  · simp

set_option maxHeartbeats 2000000 in
theorem blaw_spec {g : FuncId} (hf : A.funcs g = some xBLaw) (hh : ∀ g, g ≠ 4 → ∀ vs H nx, A.hook g vs H nx = none) (hg : g ≠ 4) (h4 : ∀ H nx, A.hook 4 [] H nx = some (.ok (.bool true) H nx))
    (hq : A.P.eqGuardType A.P.depth 43 = false) (hqe : ∀ a0 a1 a2 b0 b1 b2 : Int, ∀ d, quiet A.P (Op.equalIn (d + 1 + 1) 43 (.agg #[.int .i64 a0, .int .i64 a1, .int .i64 a2]) (.agg #[.int .i64 b0, .int .i64 b1, .int .i64 b2])) = some (a0 == b0 && (a1 == b1 && a2 == b2)))
    (h5 : A.funcs 5 = some xMay) (h6 : A.funcs 6 = some xCheck) (h7 : A.funcs 7 = some xInts) (h8 : A.funcs 8 = some xFlaws) (h9 : A.funcs 9 = some xRef)
    (h12 : A.funcs 12 = some xNMay) (h13 : A.funcs 13 = some xFind) (h14 : A.funcs 14 = some xBars) (h15 : A.funcs 15 = some xLines) (h16 : A.funcs 16 = some xPairs) (h17 : A.funcs 17 = some xSpan) (h29 : A.funcs 29 = some xWithin) (h30 : A.funcs 30 = some xLevels)
    {n : Int} {ev yv lv rv xv : Value} {es : List (Int × Int)} {Y L R X : List Int} (hbig : Y.length + L.length + R.length + X.length ≤ 4611686018427387904)
    (he : SlE H nx 2 encP ev es) (hy : SlE H nx 1 encI yv Y) (hl : SlE H nx 1 encI lv L) (hr : SlE H nx 1 encI rv R) (hx : SlE H nx 1 encI xv X) :
    WF A g [.agg #[.int .i64 n, ev], .agg #[yv, lv, rv, xv]] H nx fun v _ _ => v = .bool true := by
  obtain ⟨base, ec, rfl⟩ := he.form
  obtain ⟨yb, yc, rfl⟩ := hy.form
  obtain ⟨lb', lc, rfl⟩ := hl.form
  obtain ⟨rb, rc, rfl⟩ := hr.form
  obtain ⟨xb, xc, rfl⟩ := hx.form
  refine WF.enter (hh g hg _ _ _) hf ?_
  repeat' (first | (refine WO.k rfl ?_; (first | refine Then.of (Act.mov rfl) ?_ | refine Then.of (Act.box rfl) ?_)) | with_reducible refine WO.nil ?_ | with_reducible refine WC.reg ?_ | with_reducible refine WC.seq ?_ | with_reducible refine stN ?_)
  refine WO.cn rfl ?_
  refine WF.hooked (h4 _ _) ?_
  repeat' (first | ((first | refine WO.n rfl ?_ | refine WO.k rfl ?_); (first | refine Then.of (Act.not rfl) ?_ | refine Then.of (Act.lod rfl (by (with_reducible (first | exact Rd.self | assumption | exact Rd.own (by assumption) | ((repeat ((apply Rd.skip); (with_unfolding_all omega))); first | exact Rd.self | assumption | exact Rd.own (by assumption))))) rfl) ?_)) | with_reducible refine WO.nil ?_ | with_reducible refine WC.reg ?_ | with_reducible refine WC.seq ?_ | with_reducible refine WC.skip ?_ | refine WC.condF rfl ?_ | with_reducible refine stN ?_)
  refine WO.cn rfl ?_
  have hs0 : Same H (set1 (set1 H nx [.int .i64 n, .slice base es.length ec]) (nx + 1) [.slice yb Y.length yc, .slice lb' L.length lc, .slice rb R.length rc, .slice xb X.length xc]) nx := (Same.refl.set (Nat.le_refl _)).set (Nat.le_succ _)
  refine (may_spec h5 (hh 5 (by decide)) ((he.same hs0).up (show nx ≤ nx + 1 + 1 by omega))).of ?_
  rintro _ H1 nx1 ⟨rfl, hs1, hn1⟩
  have hs01 := hs0.trans hs1 (by omega)
  have hb1 : Rd H1 nx [.int .i64 n, .slice base es.length ec] := hs1.rd (by omega) (Rd.skip (by omega) Rd.self)
  have hb2 : Rd H1 (nx + 1) [.slice yb Y.length yc, .slice lb' L.length lc, .slice rb R.length rc, .slice xb X.length xc] := hs1.rd (by omega) Rd.self
  clear hs1
  generalize hd : decide (May n es) = d
  have hsm : d = false ∨ (n ≤ 60 ∧ es.length ≤ 60) → May n es → n ≤ 60 ∧ es.length ≤ 60 := by
    intro h hm
    rcases h with rfl | h
    · rw [decide_eq_true hm] at hd; cases hd
    · exact h
  cases d
  all_goals
    repeat' (first | ((first | refine WO.n rfl ?_ | refine WO.k rfl ?_); (first | refine Then.of (Act.mov rfl) ?_ | refine Then.of (Act.fad rfl) ?_ | refine Then.of (Act.len rfl) ?_ | refine Then.of (Act.pick rfl rfl rfl) ?_ | refine Then.of (Act.lod rfl (by (with_reducible (first | exact Rd.self | assumption | exact Rd.own (by assumption) | ((repeat ((apply Rd.skip); (with_unfolding_all omega))); first | exact Rd.self | assumption | exact Rd.own (by assumption))))) rfl) ?_ | ((refine Then.both (Act.gtr rfl rfl) (fun h => ?_) (fun h => ?_)) <;> (try simp only [Int.ofNat_eq_natCast] at h)) | refine Then.of (Act.addN rfl rfl (by omega)) ?_)) | refine WO.gYes rfl ?_ | refine WO.gNo rfl ?_ | refine WO.gUn rfl ?_ | with_reducible refine WO.nil ?_ | with_reducible refine WC.reg ?_ | with_reducible refine WC.drawn ?_ | with_reducible refine WC.seq ?_ | with_reducible refine WC.skip ?_ | with_reducible refine WC.ret ?_ | refine WC.condT rfl ?_ | refine WC.condF rfl ?_ | with_reducible refine stN ?_ | with_reducible refine stR ?_)
    all_goals try exact fin_ret (vs := [_]) rfl rfl
    have hsum : Y.length + L.length + R.length + X.length ≤ 400 := by omega
    have hsm1 := hsm (by first | exact .inl rfl | exact .inr ⟨by omega, by omega⟩)
    refine WO.na rfl ?_
    refine Then.pushes (nx0 := nx1) rfl rfl .nil (((hy.same hs01).up (show nx ≤ nx1 by omega)).src (fun _ => rfl)) (by omega) (oneI Y) (lenI Y) (Nat.le_refl _) (by unfold small; omega) (by unfold small; omega) ?_
    intro v1 H2 nx2 hn2 hg1 _ hf2
    have hs12 : Same H1 H2 nx1 := fun b hb => hf2 b hb (fun _ _ _ e => by cases e)
    clear hf2
    have ht1 := hg1.slI
    have hb21 := hs12.rd (show nx < nx1 by omega) hb1
    have hb22 := hs12.rd (show nx + 1 < nx1 by omega) hb2
    have hs02 := hs01.trans hs12 (by omega)
    refine ⟨.look rfl hb22 rfl rfl veq_slice (.look rfl hb22 rfl rfl veq_slice (.look rfl hb22 rfl rfl veq_slice .nil)), ?_⟩
    refine WO.na rfl ?_
    refine Then.pushes (nx0 := nx1) rfl rfl .nil (((hl.same hs02).up (show nx ≤ nx2 by omega)).src (fun _ => rfl)) (by omega) (oneI L) (lenI L) (by omega) (by unfold small; omega) (by unfold small; omega) ?_
    intro v2 H3 nx3 hn3 hg2 _ hf2
    have hs23 : Same H2 H3 nx2 := fun b hb => hf2 b hb (fun _ _ _ e => by cases e)
    clear hf2
    have ht2 := hg2.slI
    have hb31 := hs23.rd (show nx < nx2 by omega) hb21
    have hb32 := hs23.rd (show nx + 1 < nx2 by omega) hb22
    have hs03 := hs02.trans hs23 (by omega)
    refine ⟨.look rfl hb32 rfl rfl veq_slice (.look rfl hb32 rfl rfl veq_slice .nil), ?_⟩
    refine WO.na rfl ?_
    refine Then.pushes (nx0 := nx1) rfl rfl .nil (((hr.same hs03).up (show nx ≤ nx3 by omega)).src (fun _ => rfl)) (by omega) (oneI R) (lenI R) (by omega) (by unfold small; omega) (by unfold small; omega) ?_
    intro v3 H4 nx4 hn4 hg3 _ hf2
    have hs34 : Same H3 H4 nx3 := fun b hb => hf2 b hb (fun _ _ _ e => by cases e)
    clear hf2
    have ht3 := hg3.slI
    have hb41 := hs34.rd (show nx < nx3 by omega) hb31
    have hb42 := hs34.rd (show nx + 1 < nx3 by omega) hb32
    have hs04 := hs03.trans hs34 (by omega)
    refine ⟨.look rfl hb42 rfl rfl veq_slice .nil, ?_⟩
    refine WO.na rfl ?_
    refine Then.pushes (nx0 := nx1) rfl rfl .nil (((hx.same hs04).up (show nx ≤ nx4 by omega)).src (fun _ => rfl)) (by omega) (oneI X) (lenI X) (by omega) (by unfold small; omega) (by unfold small; omega) ?_
    intro v4 H5 nx5 hn5 hg4 _ hf2
    have hs45 : Same H4 H5 nx4 := fun b hb => hf2 b hb (fun _ _ _ e => by cases e)
    clear hf2
    have ht4 := hg4.slI
    have hb51 := hs45.rd (show nx < nx4 by omega) hb41
    have hb52 := hs45.rd (show nx + 1 < nx4 by omega) hb42
    have hs05 := hs04.trans hs45 (by omega)
    refine ⟨.nil, ?_⟩
    obtain ⟨yb1, yc1, rfl⟩ := ht1.form
    obtain ⟨lb1, lc1, rfl⟩ := ht2.form
    obtain ⟨rb1, rc1, rfl⟩ := ht3.form
    obtain ⟨xb1, xc1, rfl⟩ := ht4.form
    clear hg1 hg2 hg3 hg4
    have hy5 := ((((ht1.same hs23).up hn3).same hs34).up hn4)
    have hy5 := (hy5.same hs45).up hn5
    have hl5 := (((ht2.same hs34).up hn4).same hs45).up hn5
    have hr5 := (ht3.same hs45).up hn5
    have hx5 := ht4
    clear ht1 ht2 ht3 ht4 hb1 hb2 hb21 hb22 hb31 hb32 hb41 hb42 hs12 hs23 hs34 hs45 hs01 hs02 hs03 hs04
    repeat' (first | ((first | refine WO.n rfl ?_ | refine WO.k rfl ?_); (first | refine Then.of Act.alc ?_ | refine Then.of (Act.bld rfl rfl) ?_ | refine Then.of (Act.lod rfl (by (with_reducible (first | exact Rd.self | assumption | exact Rd.own (by assumption) | ((repeat ((apply Rd.skip); (with_unfolding_all omega))); first | exact Rd.self | assumption | exact Rd.own (by assumption))))) rfl) ?_ | refine Then.of (Act.stoN rfl rfl rfl (by omega) rfl (by (with_reducible (first | exact get_self | assumption | ((repeat ((apply get_skip); (with_unfolding_all omega))); first | exact get_self | assumption)))) (by (first | omega | decide | (simp only [List.length_map, List.length_append, List.length_set, List.length_cons, List.length_nil, List.length_replicate, List.length_range]; omega)))) ?_)) | with_reducible refine WO.nil ?_ | with_reducible refine WC.reg ?_ | with_reducible refine WC.seq ?_ | with_reducible refine stN ?_ | with_reducible refine drN ?_)
    refine WO.cn rfl ?_
    refine (check_spec h6 h12 h13 h14 h15 h16 h29 h30 hh (by decide) hsm1 ((he.same ((hs05.set (by omega)).set (by omega))).up (by omega)) ((hy5.same ((Same.refl.set (Nat.le_refl _)).set (Nat.le_refl _))).up (Nat.le_succ _))
      ((hl5.same ((Same.refl.set (Nat.le_refl _)).set (Nat.le_refl _))).up (Nat.le_succ _)) ((hr5.same ((Same.refl.set (Nat.le_refl _)).set (Nat.le_refl _))).up (Nat.le_succ _)) ((hx5.same ((Same.refl.set (Nat.le_refl _)).set (Nat.le_refl _))).up (Nat.le_succ _))).of ?_
    rintro _ H7 nx7 ⟨hs7, hn7, hcase⟩
    have hb71 : Rd H7 nx [.int .i64 n, .slice base es.length ec] := hs7.rd (by omega) (Rd.skip (by omega) (Rd.skip (by omega) hb51))
    have hb72 : Rd H7 (nx + 1) [.slice yb Y.length yc, .slice lb' L.length lc, .slice rb R.length rc, .slice xb X.length xc] := hs7.rd (by omega) (Rd.skip (by omega) (Rd.skip (by omega) hb52))
    have hb7t : Rd H7 nx5 [.slice yb1 Y.length yc1, .slice lb1 L.length lc1, .slice rb1 R.length rc1, .slice xb1 X.length xc1] := hs7.rd (by omega) Rd.self
    have hs07 : Same H H7 nx := ((hs05.set (by omega)).set (by omega)).trans hs7 (by omega)
    have hs57 : Same H5 H7 nx5 := ((Same.refl.set (Nat.le_refl _)).set (Nat.le_refl _)).trans hs7 (by omega)
    have hy7 := (hy5.same hs57).up (show nx5 ≤ nx7 by omega)
    have hl7 := (hl5.same hs57).up (show nx5 ≤ nx7 by omega)
    have hr7 := (hr5.same hs57).up (show nx5 ≤ nx7 by omega)
    have hx7 := (hx5.same hs57).up (show nx5 ≤ nx7 by omega)
    clear hy5 hl5 hr5 hx5 hs57 hs05 hb51 hb52 hs7
    rcases hcase with ⟨hm, rfl⟩ | ⟨hm, fv, rfl, hfv⟩
    all_goals first | (exfalso; rw [decide_eq_false hm] at hd; cases hd; done) | (exfalso; rw [decide_eq_true hm] at hd; cases hd; done) | skip
  · clear hd hsm hsm1
    repeat' (first | ((first | refine WO.n rfl ?_ | refine WO.k rfl ?_); (first | refine Then.of (Act.mov rfl) ?_ | refine Then.of (Act.ext rfl rfl) ?_ | refine Then.of (Act.fad rfl) ?_ | refine Then.of (Act.lod rfl (by (with_reducible (first | exact Rd.self | assumption | exact Rd.own (by assumption) | ((repeat ((apply Rd.skip); (with_unfolding_all omega))); first | exact Rd.self | assumption | exact Rd.own (by assumption))))) rfl) ?_)) | with_reducible refine WO.nil ?_ | with_reducible refine WC.reg ?_ | with_reducible refine WC.seq ?_ | with_reducible refine stN ?_)
    refine WO.cn rfl ?_
    refine (ints_spec h7 (hh 7 (by decide)) hy7 ((hy.same hs07).up (by omega)) (by omega)).of ?_
    rintro _ H7 nx7 ⟨rfl, rfl, rfl⟩
    rw [decide_eq_true rfl]
    repeat' (first | (refine WO.n rfl ?_; (first | refine Then.of (Act.mov rfl) ?_ | refine Then.of (Act.fad rfl) ?_ | refine Then.of (Act.not rfl) ?_ | refine Then.of (Act.lod rfl (by (with_reducible (first | exact Rd.self | assumption | exact Rd.own (by assumption) | ((repeat ((apply Rd.skip); (with_unfolding_all omega))); first | exact Rd.self | assumption | exact Rd.own (by assumption))))) rfl) ?_)) | refine WO.gYes rfl ?_)
    refine WO.cn rfl ?_
    refine (ints_spec h7 (hh 7 (by decide)) hl7 ((hl.same hs07).up (by omega)) (by omega)).of ?_
    rintro _ H7 nx7 ⟨rfl, rfl, rfl⟩
    rw [decide_eq_true rfl]
    repeat' (first | (refine WO.n rfl ?_; (first | refine Then.of (Act.mov rfl) ?_ | refine Then.of (Act.fad rfl) ?_ | refine Then.of (Act.not rfl) ?_ | refine Then.of (Act.pick rfl rfl rfl) ?_ | refine Then.of (Act.lod rfl (by (with_reducible (first | exact Rd.self | assumption | exact Rd.own (by assumption) | ((repeat ((apply Rd.skip); (with_unfolding_all omega))); first | exact Rd.self | assumption | exact Rd.own (by assumption))))) rfl) ?_)) | refine WO.gYes rfl ?_)
    refine WO.cn rfl ?_
    refine (ints_spec h7 (hh 7 (by decide)) hr7 ((hr.same hs07).up (by omega)) (by omega)).of ?_
    rintro _ H7 nx7 ⟨rfl, rfl, rfl⟩
    rw [decide_eq_true rfl]
    repeat' (first | (refine WO.n rfl ?_; (first | refine Then.of (Act.mov rfl) ?_ | refine Then.of (Act.fad rfl) ?_ | refine Then.of (Act.not rfl) ?_ | refine Then.of (Act.pick rfl rfl rfl) ?_ | refine Then.of (Act.lod rfl (by (with_reducible (first | exact Rd.self | assumption | exact Rd.own (by assumption) | ((repeat ((apply Rd.skip); (with_unfolding_all omega))); first | exact Rd.self | assumption | exact Rd.own (by assumption))))) rfl) ?_)) | refine WO.gYes rfl ?_)
    refine WO.cn rfl ?_
    refine (ints_spec h7 (hh 7 (by decide)) hx7 ((hx.same hs07).up (by omega)) (by omega)).of ?_
    rintro _ H7 nx7 ⟨rfl, rfl, rfl⟩
    rw [decide_eq_true rfl]
    repeat' (first | ((first | refine WO.n rfl ?_ | refine WO.k rfl ?_); (first | refine Then.of (Act.not rfl) ?_ | refine Then.of (Act.pick rfl rfl rfl) ?_ | refine Then.of (Act.lod rfl (by (with_reducible (first | exact Rd.self | assumption | exact Rd.own (by assumption) | ((repeat ((apply Rd.skip); (with_unfolding_all omega))); first | exact Rd.self | assumption | exact Rd.own (by assumption))))) rfl) ?_)) | refine WO.gYes rfl ?_ | with_reducible refine WO.nil ?_ | with_reducible refine WC.reg ?_ | with_reducible refine WC.seq ?_ | with_reducible refine WC.skip ?_ | refine WC.condF rfl ?_ | with_reducible refine stN ?_)
    refine WO.cn rfl ?_
    refine (may_spec h5 (hh 5 (by decide)) ((he.same hs07).up (by omega))).of ?_
    rintro _ H8 nx8 ⟨rfl, hs8, hn8⟩
    rw [decide_eq_false hm]
    repeat' (first | ((first | refine WO.n rfl ?_ | refine WO.k rfl ?_); (first | refine Then.of (Act.mov rfl) ?_ | refine Then.of (Act.len rfl) ?_ | refine Then.of (Act.not rfl) ?_ | refine Then.of (Act.pick rfl rfl rfl) ?_ | ((refine Then.both (Act.eqlI rfl rfl) (fun h => ?_) (fun h => ?_)) <;> (try simp only [Int.ofNat_eq_natCast] at h)))) | refine WO.gYes rfl ?_ | refine WO.gNo rfl ?_ | with_reducible refine WO.nil ?_ | with_reducible refine WC.reg ?_ | with_reducible refine WC.seq ?_ | with_reducible refine WC.ret ?_ | refine WC.condT rfl ?_ | with_reducible refine stN ?_ | with_reducible refine stR ?_)
    all_goals first | exact fin_ret (vs := [_]) rfl rfl | exact absurd rfl h | exact absurd trivial h
  · clear hd hsm
    repeat' (first | ((first | refine WO.n rfl ?_ | refine WO.k rfl ?_); (first | refine Then.of (Act.mov rfl) ?_ | refine Then.of (Act.ext rfl rfl) ?_ | refine Then.of (Act.fad rfl) ?_ | refine Then.of (Act.lod rfl (by (with_reducible (first | exact Rd.self | assumption | exact Rd.own (by assumption) | ((repeat ((apply Rd.skip); (with_unfolding_all omega))); first | exact Rd.self | assumption | exact Rd.own (by assumption))))) rfl) ?_)) | with_reducible refine WO.nil ?_ | with_reducible refine WC.reg ?_ | with_reducible refine WC.seq ?_ | with_reducible refine stN ?_)
    refine WO.cn rfl ?_
    refine (ints_spec h7 (hh 7 (by decide)) hy7 ((hy.same hs07).up (by omega)) (by omega)).of ?_
    rintro _ H7 nx7 ⟨rfl, rfl, rfl⟩
    rw [decide_eq_true rfl]
    repeat' (first | (refine WO.n rfl ?_; (first | refine Then.of (Act.mov rfl) ?_ | refine Then.of (Act.fad rfl) ?_ | refine Then.of (Act.not rfl) ?_ | refine Then.of (Act.lod rfl (by (with_reducible (first | exact Rd.self | assumption | exact Rd.own (by assumption) | ((repeat ((apply Rd.skip); (with_unfolding_all omega))); first | exact Rd.self | assumption | exact Rd.own (by assumption))))) rfl) ?_)) | refine WO.gYes rfl ?_)
    refine WO.cn rfl ?_
    refine (ints_spec h7 (hh 7 (by decide)) hl7 ((hl.same hs07).up (by omega)) (by omega)).of ?_
    rintro _ H7 nx7 ⟨rfl, rfl, rfl⟩
    rw [decide_eq_true rfl]
    repeat' (first | (refine WO.n rfl ?_; (first | refine Then.of (Act.mov rfl) ?_ | refine Then.of (Act.fad rfl) ?_ | refine Then.of (Act.not rfl) ?_ | refine Then.of (Act.pick rfl rfl rfl) ?_ | refine Then.of (Act.lod rfl (by (with_reducible (first | exact Rd.self | assumption | exact Rd.own (by assumption) | ((repeat ((apply Rd.skip); (with_unfolding_all omega))); first | exact Rd.self | assumption | exact Rd.own (by assumption))))) rfl) ?_)) | refine WO.gYes rfl ?_)
    refine WO.cn rfl ?_
    refine (ints_spec h7 (hh 7 (by decide)) hr7 ((hr.same hs07).up (by omega)) (by omega)).of ?_
    rintro _ H7 nx7 ⟨rfl, rfl, rfl⟩
    rw [decide_eq_true rfl]
    repeat' (first | (refine WO.n rfl ?_; (first | refine Then.of (Act.mov rfl) ?_ | refine Then.of (Act.fad rfl) ?_ | refine Then.of (Act.not rfl) ?_ | refine Then.of (Act.pick rfl rfl rfl) ?_ | refine Then.of (Act.lod rfl (by (with_reducible (first | exact Rd.self | assumption | exact Rd.own (by assumption) | ((repeat ((apply Rd.skip); (with_unfolding_all omega))); first | exact Rd.self | assumption | exact Rd.own (by assumption))))) rfl) ?_)) | refine WO.gYes rfl ?_)
    refine WO.cn rfl ?_
    refine (ints_spec h7 (hh 7 (by decide)) hx7 ((hx.same hs07).up (by omega)) (by omega)).of ?_
    rintro _ H7 nx7 ⟨rfl, rfl, rfl⟩
    rw [decide_eq_true rfl]
    repeat' (first | ((first | refine WO.n rfl ?_ | refine WO.k rfl ?_); (first | refine Then.of (Act.not rfl) ?_ | refine Then.of (Act.pick rfl rfl rfl) ?_ | refine Then.of (Act.lod rfl (by (with_reducible (first | exact Rd.self | assumption | exact Rd.own (by assumption) | ((repeat ((apply Rd.skip); (with_unfolding_all omega))); first | exact Rd.self | assumption | exact Rd.own (by assumption))))) rfl) ?_)) | refine WO.gYes rfl ?_ | with_reducible refine WO.nil ?_ | with_reducible refine WC.reg ?_ | with_reducible refine WC.seq ?_ | with_reducible refine WC.skip ?_ | refine WC.condF rfl ?_ | with_reducible refine stN ?_)
    refine WO.cn rfl ?_
    refine (may_spec h5 (hh 5 (by decide)) ((he.same hs07).up (by omega))).of ?_
    rintro _ H8 nx8 ⟨rfl, hs8, hn8⟩
    have hb81 := hs8.rd (show nx < nx7 by omega) hb71
    have hb82 := hs8.rd (show nx + 1 < nx7 by omega) hb72
    have hs08 := hs07.trans hs8 (by omega)
    rw [decide_eq_true hm]
    repeat' (first | ((first | refine WO.n rfl ?_ | refine WO.k rfl ?_); (first | refine Then.of (Act.mov rfl) ?_ | refine Then.of (Act.not rfl) ?_ | refine Then.of (Act.pick rfl rfl rfl) ?_ | refine Then.of (Act.lod rfl (by (with_reducible (first | exact Rd.self | assumption | exact Rd.own (by assumption) | ((repeat ((apply Rd.skip); (with_unfolding_all omega))); first | exact Rd.self | assumption | exact Rd.own (by assumption))))) rfl) ?_ | ((refine Then.both (Act.eqlI rfl rfl) (fun h => ?_) (fun h => ?_)) <;> (try simp only [Int.ofNat_eq_natCast] at h)))) | refine WO.gYes rfl ?_ | refine WO.gNo rfl ?_ | with_reducible refine WO.nil ?_ | with_reducible refine WC.reg ?_ | with_reducible refine WC.seq ?_ | with_reducible refine WC.skip ?_ | with_reducible refine WC.ret ?_ | refine WC.condF rfl ?_ | with_reducible refine stN ?_)
    · refine WO.cn rfl ?_
      refine (ref_spec h9 h17 hh (by decide) hm (hsm1 hm) ((he.same hs08).up (by omega)) ((hy.same hs08).up (by omega)) ((hl.same hs08).up (by omega)) ((hr.same hs08).up (by omega)) ((hx.same hs08).up (by omega))).of ?_
      rintro _ H9 nx9 ⟨hs9, hn9, hrf⟩
      repeat' (refine WO.gYes rfl ?_)
      refine WO.cn rfl ?_
      refine (flaws_spec h8 (hh 8 (by decide)) hq hqe ((hfv.same (hs8.trans hs9 hn8)).up (by omega)) hrf (flaws_len hm (hsm1 hm))).of ?_
      rintro _ _ _ ⟨rfl, rfl, rfl⟩
      rw [decide_eq_true rfl]
      repeat' (first | ((first | refine WO.n rfl ?_ | refine WO.k rfl ?_); (first | refine Then.of (Act.mov rfl) ?_ | refine Then.of (Act.pick rfl rfl rfl) ?_)) | with_reducible refine WO.nil ?_ | with_reducible refine WC.ret ?_ | with_reducible refine stN ?_)
      all_goals first | exact fin_ret (vs := [_]) rfl rfl | exact absurd rfl h | exact absurd trivial h
    · first | exact fin_ret (vs := [_]) rfl rfl | exact absurd rfl h | exact absurd trivial h
end Go.Eng
