import Derived.Test.YtomcmognemechaaGreatWa
/- A looker: a block with a net, a view and the flaws that were found; one more flaw; within; levels. -/
namespace Go.Eng
variable {A : AProg} {H : Heap} {nx : Nat} {σ : Slots} {Q : Post}
set_option maxRecDepth 100000

def xFind : AFunc := ⟨[], (.seq (.reg false [(⟨(some [false, false, true]), none, (.mov (.var [true]))⟩, [])]) (.cond (.var [false, false, true]) (.reg false [(⟨none, none, (.nilck (.var []))⟩, []), (⟨none, none, (.fad (.loc 0) 6)⟩, []), (⟨none, none, (.lod (.loc 0) none)⟩, []), (⟨none, none, (.bld [(.int .i64 (.ofNat 0)), (.int .i64 (.ofNat 0)), (.int .i64 (.ofNat 0))] [(0, 1, (.var [false])), (1, 1, (.var [true, true])), (2, 1, (.var [false, true]))])⟩, []), (⟨none, none, (.bsl 3 1 [(.int .i64 (.ofNat 0)), (.int .i64 (.ofNat 0)), (.int .i64 (.ofNat 0))] [(0, 3, (.loc 0))])⟩, []), (⟨none, none, (.app 3 24 [(.int .i64 (.ofNat 0)), (.int .i64 (.ofNat 0)), (.int .i64 (.ofNat 0))] (.loc 2) (.loc 0) false)⟩, []), (⟨none, none, (.nilck (.var []))⟩, []), (⟨none, none, (.fad (.loc 0) 6)⟩, []), (⟨none, none, (.sto (.loc 0) (.loc 2) 1)⟩, [])]) .skip))⟩
def xWithin : AFunc := ⟨[((.var [false, false]), none)], (.seq (.reg false [(⟨(some [false, false]), none, (.mov (.cst (.bool false)))⟩, [])]) (.seq (.reg false [(⟨none, none, (.bin .leq 3 (.var [true]) (.var []))⟩, []), (⟨none, none, (.mov (.loc 0))⟩, []), (⟨none, (some (0, true)), (.mov (.var []))⟩, []), (⟨none, (some (1, true)), (.mov (.var [false]))⟩, []), (⟨none, (some (2, true)), (.bin .leq 3 (.loc 1) (.loc 0))⟩, []), (⟨none, none, (.pick (.loc 3) (.loc 0) (.cst (.bool false)))⟩, []), (⟨(some [false, false]), none, (.mov (.loc 0))⟩, [])]) .ret))⟩
def xLevels : AFunc := ⟨[((.var [false, true]), none), ((.var [true, false]), none)], (.seq (.reg false [(⟨(some [false, true]), none, (.mov (.cst (.int .i64 (.ofNat 0))))⟩, []), (⟨(some [true, false]), none, (.mov (.cst (.int .i64 (.ofNat 0))))⟩, [])]) (.seq (.reg true [(⟨none, none, (.nilck (.var []))⟩, []), (⟨none, none, (.fad (.loc 0) 2)⟩, []), (⟨none, none, (.fad (.loc 0) 0)⟩, []), (⟨none, none, (.lod (.loc 0) none)⟩, []), (⟨none, none, (.nilck (.var []))⟩, []), (⟨none, none, (.fad (.loc 0) 0)⟩, []), (⟨none, none, (.fad (.loc 0) 1)⟩, []), (⟨none, none, (.lod (.loc 0) none)⟩, []), (⟨none, none, (.ixs (.loc 0) (.var [true]) 2)⟩, []), (⟨none, none, (.ixa (.loc 0) (.cst (.int .i64 (.ofNat 0))) 2 1)⟩, []), (⟨none, none, (.lod (.loc 0) none)⟩, []), (⟨none, none, (.ixs (.loc 7) (.loc 0) 1)⟩, []), (⟨none, none, (.lod (.loc 0) none)⟩, []), (⟨none, none, (.nilck (.var []))⟩, []), (⟨none, none, (.fad (.loc 0) 2)⟩, []), (⟨none, none, (.fad (.loc 0) 0)⟩, []), (⟨none, none, (.lod (.loc 0) none)⟩, []), (⟨none, none, (.nilck (.var []))⟩, []), (⟨none, none, (.fad (.loc 0) 0)⟩, []), (⟨none, none, (.fad (.loc 0) 1)⟩, []), (⟨none, none, (.lod (.loc 0) none)⟩, []), (⟨none, none, (.ixs (.loc 0) (.var [true]) 2)⟩, []), (⟨none, none, (.ixa (.loc 0) (.cst (.int .i64 (.ofNat 1))) 2 1)⟩, []), (⟨none, none, (.lod (.loc 0) none)⟩, []), (⟨none, none, (.ixs (.loc 7) (.loc 0) 1)⟩, []), (⟨none, none, (.lod (.loc 0) none)⟩, []), (⟨(some [false, false]), none, (.mov (.loc 13))⟩, []), (⟨(some [true, true, true]), none, (.mov (.loc 1))⟩, [])]) (.seq (.reg false [(⟨none, none, (.mnx true [(.var [false, false]), (.var [true, true, true])])⟩, []), (⟨none, none, (.mnx false [(.var [false, false]), (.var [true, true, true])])⟩, []), (⟨(some [false, true]), none, (.mov (.loc 1))⟩, []), (⟨(some [true, false]), none, (.mov (.loc 1))⟩, [])]) .ret)))⟩

/-- the flaws that were found, in their own block 'fb' (none yet: 'fb' is the looker's) -/
structure LkS (lb : Nat) (H0 : Heap) (n0 ev yv lv rv xv : Value) (H : Heap) (nx : Nat) (fl : List Fl) (fb : Nat) : Prop where
  own : ∃ fv, getP H (at_ lb) = some (.cells [n0, ev, yv, lv, rv, xv, fv]) ∧ ((fv = .slice none 0 0 ∧ fl = [] ∧ fb = lb) ∨ (fv = .slice (some ⟨fb, 0, some 3⟩) fl.length (2 * fl.length) ∧ lb < fb ∧ fb < nx ∧ getP H (at_ fb) = some (.cells (fl.flatMap encF))))
  same : Same H0 H lb
  lt : lb < nx

theorem encF_one (fl : List Fl) : allOne (fl.flatMap encF) = true := by
  induction fl with
  | nil => rfl
  | cons x l ih => rw [List.flatMap_cons]; exact ih
theorem encF_len (fl : List Fl) : (fl.flatMap encF).length = fl.length * 3 := by
  induction fl with
  | nil => rfl
  | cons x l ih => rw [List.flatMap_cons, List.length_append, ih, List.length_cons, Nat.succ_mul]; show 3 + _ = _; omega

/-- what a caller made for itself stays -/
def Stays (H H' : Heap) (nx lb fb : Nat) : Prop := ∀ c, c < nx → c ≠ lb → c ≠ fb → getP H' (at_ c) = getP H (at_ c)

theorem find_spec {g : FuncId} (hf : A.funcs g = some xFind) (hh : ∀ vs H nx, A.hook g vs H nx = none) {lb fb : Nat} {H0 : Heap} {n0 ev yv lv rv xv : Value} {fl : List Fl} (st : LkS lb H0 n0 ev yv lv rv xv H nx fl fb) {t : Bool} {c a b : Int} (hm : fl.length ≤ 100000) :
    WF A g [.pointer (some ⟨lb, 0, none⟩), .bool t, .int .i64 c, .int .i64 a, .int .i64 b] H nx fun _ H' nx' => nx ≤ nx' ∧ ∃ fb', LkS lb H0 n0 ev yv lv rv xv H' nx' (fl ++ sel t (c, a, b)) fb' ∧ (fb' = fb ∨ nx ≤ fb') ∧ Stays H H' nx lb fb := by
  refine WF.enter (hh _ _ _) hf ?_
  cases t with
  | false =>
    repeat' (first | (refine WO.k rfl ?_; refine Then.of (Act.mov rfl) ?_) | with_reducible refine WO.nil ?_ | with_reducible refine WC.reg ?_ | with_reducible refine WC.seq ?_ | with_reducible refine WC.skip ?_ | refine WC.condF rfl ?_)
    exact fin_normal (vs := []) rfl ⟨Nat.le_refl _, fb, by simpa [sel] using st, .inl rfl, fun _ _ _ _ => rfl⟩
  | true =>
    obtain ⟨⟨fv, hl, hfv⟩, hs, hlt⟩ := st
    have hg : Grows H (lb + 1) nx 3 fv fl.length (fl.flatMap encF) := by
      rcases hfv with ⟨rfl, rfl, _⟩ | ⟨rfl, h1, h2, h3⟩
      · exact .nil
      · exact ⟨encF_len fl, .inr ⟨fb, rfl, h1, h2, h3⟩⟩
    repeat' (first | ((first | refine WO.n rfl ?_ | refine WO.k rfl ?_); (first | refine Then.of (Act.mov rfl) ?_ | refine Then.of (Act.fad rfl) ?_ | refine Then.of (Act.bld rfl rfl) ?_ | refine Then.of (Act.lod rfl (by (with_reducible (first | exact Rd.self | assumption | exact Rd.own (by assumption) | ((repeat ((apply Rd.skip); (with_unfolding_all omega))); first | exact Rd.self | assumption | exact Rd.own (by assumption))))) rfl) ?_ | refine Then.of (Act.bsl rfl rfl (by omega)) ?_ | refine Then.of (Act.nilck rfl) ?_)) | with_reducible refine WO.nil ?_ | with_reducible refine WC.reg ?_ | with_reducible refine WC.seq ?_ | refine WC.condT rfl ?_)
    refine WO.n rfl ?_
    refine Then.pushX rfl rfl (hg.same (Same.refl.set (Nat.le_refl _)) (Nat.le_succ _)) (src_one Rd.self rfl) (by omega) (by omega) rfl (by unfold small; omega) (by unfold small; omega) ?_
    intro H2 hr2 hk2
    have hk3 : ∀ c, c < nx → c ≠ lb → c ≠ fb → getP H2 (at_ c) = getP H (at_ c) := fun c hc _ hcf => by
      rw [hk2 c (by omega) (fun k z' m e => ?_), get_set1, if_neg (by omega)]
      rcases hfv with ⟨rfl, _, _⟩ | ⟨rfl, _⟩ <;> cases e
      exact hcf rfl
    have hl2 : getP H2 (at_ lb) = some (.cells [n0, ev, yv, lv, rv, xv, fv]) := by
      rw [hk2 lb (by omega) (fun k z' m e => ?_), get_set1, if_neg (by omega)]
      · exact hl
      · rcases hfv with ⟨rfl, _, _⟩ | ⟨rfl, h1, _⟩ <;> cases e
        exact absurd h1 (Nat.lt_irrefl _)
    repeat' (first | (refine WO.n rfl ?_; (first | refine Then.of (Act.fad rfl) ?_ | refine Then.of (Act.sto1 rfl rfl rfl rfl (by (with_reducible (first | exact get_self | assumption | ((repeat ((apply get_skip); (with_unfolding_all omega))); first | exact get_self | assumption)))) (by (first | omega | decide | (simp only [List.length_map, List.length_append, List.length_set, List.length_cons, List.length_nil, List.length_replicate, List.length_range]; omega)))) ?_ | refine Then.of (Act.nilck rfl) ?_)) | with_reducible refine WO.nil ?_)
    refine fin_normal (vs := []) rfl ⟨by omega, nx + 1, ⟨⟨_, get_self, .inr ⟨?_, by omega, by omega, ?_⟩⟩, ?_, by omega⟩, .inr (by omega), fun c hc h1 h2 => ?_⟩
    · simp [sel]
    · rw [get_set1, if_neg (by omega), hr2]; simp [sel, encF]
    · intro c hc
      have hcf : c ≠ fb := by rcases hfv with ⟨_, _, h⟩ | ⟨_, h, _⟩ <;> omega
      rw [get_set1, if_neg (by omega), hk3 c (by omega) (by omega) hcf]
      exact hs c hc
    · rw [get_set1, if_neg h1]; exact hk3 c hc h1 h2

theorem within_spec {g : FuncId} (hf : A.funcs g = some xWithin) (hh : ∀ vs H nx, A.hook g vs H nx = none) {x a b : Int} :
    WF A g [.int .i64 x, .int .i64 a, .int .i64 b] H nx fun v H' nx' => H' = H ∧ nx' = nx ∧ v = .bool (decide (a ≤ x ∧ x ≤ b)) := by
  refine WF.enter (hh _ _ _) hf ?_
  repeat' (first | ((first | refine WO.n rfl ?_ | refine WO.k rfl ?_); (first | refine Then.of (Act.mov rfl) ?_ | refine Then.of (Act.pick rfl rfl rfl) ?_ | ((refine Then.both (Act.leq rfl rfl) (fun h => ?_) (fun h => ?_)) <;> (try simp only [Int.ofNat_eq_natCast] at h)))) | refine WO.gYes rfl ?_ | refine WO.gNo rfl ?_ | with_reducible refine WO.nil ?_ | with_reducible refine WC.reg ?_ | with_reducible refine WC.seq ?_ | with_reducible refine WC.ret ?_ | with_reducible refine stN ?_)
  · exact fin_ret (vs := [_]) rfl ⟨rfl, rfl, by rw [decide_eq_true (show a ≤ x ∧ x ≤ b by omega)]; rfl⟩
  · exact fin_ret (vs := [_]) rfl ⟨rfl, rfl, by rw [decide_eq_false (show ¬ (a ≤ x ∧ x ≤ b) by omega)]; rfl⟩
  · exact fin_ret (vs := [_]) rfl ⟨rfl, rfl, by rw [decide_eq_false (show ¬ (a ≤ x ∧ x ≤ b) by omega)]; rfl⟩
theorem within_both {g : FuncId} (hf : A.funcs g = some xWithin) (hh : ∀ vs H nx, A.hook g vs H nx = none) {x : Int} (a b : Int) {K : Value → Heap → Nat → Prop} (h1 : a ≤ x ∧ x ≤ b → K (.bool true) H nx) (h2 : ¬ (a ≤ x ∧ x ≤ b) → K (.bool false) H nx) :
    WF A g [.int .i64 x, .int .i64 a, .int .i64 b] H nx K := by
  refine (within_spec hf hh).of ?_
  rintro _ _ _ ⟨rfl, rfl, rfl⟩
  by_cases h : a ≤ x ∧ x ≤ b
  · rw [decide_eq_true h]; exact h1 h
  · rw [decide_eq_false h]; exact h2 h
end Go.Eng
