import Derived.Test.YtomcmognemechaaGreatWl
/- The reference: bars over bars. -/
namespace Go.Eng
variable {A : AProg} {H H' : Heap} {nx nx' : Nat} {σ : Slots} {Q : Post}
set_option maxRecDepth 100000

def xR4O : ACode := (.seq (.seq (.reg false [(⟨none, none, (.fad (.var [false]) 0)⟩, []), (⟨none, none, (.lod (.loc 0) none)⟩, []), (⟨(some [true, false, true, true, true, true, false]), none, (.bin .lss 3 (.var [true, true, false]) (.loc 0))⟩, [])]) (.cond (.var [true, false, true, true, true, true, false]) .skip (.exit 4))) (.seq (.block 5 (.seq (.reg false [(⟨none, none, (.bin .add 3 (.var [true, true, false]) (.cst (.int .i64 (.ofNat 1))))⟩, []), (⟨(some [false, true, false]), none, (.mov (.loc 0))⟩, [])]) (.block 6 (.loop (.seq (.seq (.reg false [(⟨none, none, (.fad (.var [false]) 0)⟩, []), (⟨none, none, (.lod (.loc 0) none)⟩, []), (⟨(some [true, false, true, false, true, true, false]), none, (.bin .lss 3 (.var [false, true, false]) (.loc 0))⟩, [])]) (.cond (.var [true, false, true, false, true, true, false]) .skip (.exit 6))) (.seq (.block 7 (.seq (.reg true [(⟨none, none, (.fad (.var [true, true]) 0)⟩, []), (⟨none, none, (.lod (.loc 0) none)⟩, []), (⟨none, none, (.ixs (.loc 0) (.var [true, true, false]) 1)⟩, []), (⟨none, none, (.lod (.loc 0) none)⟩, []), (⟨none, none, (.fad (.var [true, true]) 0)⟩, []), (⟨none, none, (.lod (.loc 0) none)⟩, []), (⟨none, none, (.ixs (.loc 0) (.var [false, true, false]) 1)⟩, []), (⟨none, none, (.lod (.loc 0) none)⟩, []), (⟨none, none, (.bin .eql 3 (.loc 4) (.loc 0))⟩, []), (⟨none, none, (.mov (.loc 0))⟩, []), (⟨none, (some (0, true)), (.fad (.var [true, true]) 1)⟩, []), (⟨none, (some (1, true)), (.lod (.loc 0) none)⟩, []), (⟨none, (some (2, true)), (.mov (.var [true, true, false]))⟩, []), (⟨none, (some (3, true)), (.ixs (.loc 1) (.loc 0) 1)⟩, []), (⟨none, (some (4, true)), (.lod (.loc 0) none)⟩, []), (⟨none, (some (5, true)), (.fad (.var [true, true]) 2)⟩, []), (⟨none, (some (6, true)), (.lod (.loc 0) none)⟩, []), (⟨none, (some (7, true)), (.mov (.var [false, true, false]))⟩, []), (⟨none, (some (8, true)), (.ixs (.loc 1) (.loc 0) 1)⟩, []), (⟨none, (some (9, true)), (.lod (.loc 0) none)⟩, []), (⟨none, (some (10, true)), (.bin .leq 3 (.loc 5) (.loc 0))⟩, []), (⟨none, none, (.pick (.loc 11) (.loc 0) (.cst (.bool false)))⟩, []), (⟨none, none, (.mov (.loc 0))⟩, []), (⟨none, (some (0, true)), (.fad (.var [true, true]) 1)⟩, []), (⟨none, (some (1, true)), (.lod (.loc 0) none)⟩, []), (⟨none, (some (2, true)), (.mov (.var [false, true, false]))⟩, []), (⟨none, (some (3, true)), (.ixs (.loc 1) (.loc 0) 1)⟩, []), (⟨none, (some (4, true)), (.lod (.loc 0) none)⟩, []), (⟨none, (some (5, true)), (.fad (.var [true, true]) 2)⟩, []), (⟨none, (some (6, true)), (.lod (.loc 0) none)⟩, []), (⟨none, (some (7, true)), (.mov (.var [true, true, false]))⟩, []), (⟨none, (some (8, true)), (.ixs (.loc 1) (.loc 0) 1)⟩, []), (⟨none, (some (9, true)), (.lod (.loc 0) none)⟩, []), (⟨none, (some (10, true)), (.bin .leq 3 (.loc 5) (.loc 0))⟩, []), (⟨(some [false, true, true, true, false, false, false]), none, (.pick (.loc 11) (.loc 0) (.cst (.bool false)))⟩, [])]) (.cond (.var [false, true, true, true, false, false, false]) (.reg false [(⟨none, none, (.bld [(.int .i64 (.ofNat 0)), (.int .i64 (.ofNat 0)), (.int .i64 (.ofNat 0))] [(0, 1, (.cst (.int .i64 (.ofNat 4)))), (1, 1, (.var [true, true, false])), (2, 1, (.var [false, true, false]))])⟩, []), (⟨none, none, (.bsl 3 1 [(.int .i64 (.ofNat 0)), (.int .i64 (.ofNat 0)), (.int .i64 (.ofNat 0))] [(0, 3, (.loc 0))])⟩, []), (⟨none, none, (.app 3 24 [(.int .i64 (.ofNat 0)), (.int .i64 (.ofNat 0)), (.int .i64 (.ofNat 0))] (.var [true, false]) (.loc 0) false)⟩, []), (⟨(some [true, false]), none, (.mov (.loc 0))⟩, [])]) .skip))) (.reg false [(⟨none, none, (.bin .add 3 (.var [false, true, false]) (.cst (.int .i64 (.ofNat 1))))⟩, []), (⟨(some [false, true, false]), none, (.mov (.loc 0))⟩, [])]))))))) (.reg false [(⟨none, none, (.bin .add 3 (.var [true, true, false]) (.cst (.int .i64 (.ofNat 1))))⟩, []), (⟨(some [true, true, false]), none, (.mov (.loc 0))⟩, [])])))
def xR4I : ACode := (.seq (.seq (.reg false [(⟨none, none, (.fad (.var [false]) 0)⟩, []), (⟨none, none, (.lod (.loc 0) none)⟩, []), (⟨(some [true, false, true, false, true, true, false]), none, (.bin .lss 3 (.var [false, true, false]) (.loc 0))⟩, [])]) (.cond (.var [true, false, true, false, true, true, false]) .skip (.exit 6))) (.seq (.block 7 (.seq (.reg true [(⟨none, none, (.fad (.var [true, true]) 0)⟩, []), (⟨none, none, (.lod (.loc 0) none)⟩, []), (⟨none, none, (.ixs (.loc 0) (.var [true, true, false]) 1)⟩, []), (⟨none, none, (.lod (.loc 0) none)⟩, []), (⟨none, none, (.fad (.var [true, true]) 0)⟩, []), (⟨none, none, (.lod (.loc 0) none)⟩, []), (⟨none, none, (.ixs (.loc 0) (.var [false, true, false]) 1)⟩, []), (⟨none, none, (.lod (.loc 0) none)⟩, []), (⟨none, none, (.bin .eql 3 (.loc 4) (.loc 0))⟩, []), (⟨none, none, (.mov (.loc 0))⟩, []), (⟨none, (some (0, true)), (.fad (.var [true, true]) 1)⟩, []), (⟨none, (some (1, true)), (.lod (.loc 0) none)⟩, []), (⟨none, (some (2, true)), (.mov (.var [true, true, false]))⟩, []), (⟨none, (some (3, true)), (.ixs (.loc 1) (.loc 0) 1)⟩, []), (⟨none, (some (4, true)), (.lod (.loc 0) none)⟩, []), (⟨none, (some (5, true)), (.fad (.var [true, true]) 2)⟩, []), (⟨none, (some (6, true)), (.lod (.loc 0) none)⟩, []), (⟨none, (some (7, true)), (.mov (.var [false, true, false]))⟩, []), (⟨none, (some (8, true)), (.ixs (.loc 1) (.loc 0) 1)⟩, []), (⟨none, (some (9, true)), (.lod (.loc 0) none)⟩, []), (⟨none, (some (10, true)), (.bin .leq 3 (.loc 5) (.loc 0))⟩, []), (⟨none, none, (.pick (.loc 11) (.loc 0) (.cst (.bool false)))⟩, []), (⟨none, none, (.mov (.loc 0))⟩, []), (⟨none, (some (0, true)), (.fad (.var [true, true]) 1)⟩, []), (⟨none, (some (1, true)), (.lod (.loc 0) none)⟩, []), (⟨none, (some (2, true)), (.mov (.var [false, true, false]))⟩, []), (⟨none, (some (3, true)), (.ixs (.loc 1) (.loc 0) 1)⟩, []), (⟨none, (some (4, true)), (.lod (.loc 0) none)⟩, []), (⟨none, (some (5, true)), (.fad (.var [true, true]) 2)⟩, []), (⟨none, (some (6, true)), (.lod (.loc 0) none)⟩, []), (⟨none, (some (7, true)), (.mov (.var [true, true, false]))⟩, []), (⟨none, (some (8, true)), (.ixs (.loc 1) (.loc 0) 1)⟩, []), (⟨none, (some (9, true)), (.lod (.loc 0) none)⟩, []), (⟨none, (some (10, true)), (.bin .leq 3 (.loc 5) (.loc 0))⟩, []), (⟨(some [false, true, true, true, false, false, false]), none, (.pick (.loc 11) (.loc 0) (.cst (.bool false)))⟩, [])]) (.cond (.var [false, true, true, true, false, false, false]) (.reg false [(⟨none, none, (.bld [(.int .i64 (.ofNat 0)), (.int .i64 (.ofNat 0)), (.int .i64 (.ofNat 0))] [(0, 1, (.cst (.int .i64 (.ofNat 4)))), (1, 1, (.var [true, true, false])), (2, 1, (.var [false, true, false]))])⟩, []), (⟨none, none, (.bsl 3 1 [(.int .i64 (.ofNat 0)), (.int .i64 (.ofNat 0)), (.int .i64 (.ofNat 0))] [(0, 3, (.loc 0))])⟩, []), (⟨none, none, (.app 3 24 [(.int .i64 (.ofNat 0)), (.int .i64 (.ofNat 0)), (.int .i64 (.ofNat 0))] (.var [true, false]) (.loc 0) false)⟩, []), (⟨(some [true, false]), none, (.mov (.loc 0))⟩, [])]) .skip))) (.reg false [(⟨none, none, (.bin .add 3 (.var [false, true, false]) (.cst (.int .i64 (.ofNat 1))))⟩, []), (⟨(some [false, true, false]), none, (.mov (.loc 0))⟩, [])])))

theorem r4I {nb vb b0 u : Nat} {H0 : Heap} {n0 ev yv lv rv xv v5 : Value} {w : Vw} {pre : List Fl} (st : RfS H0 b0 H nx pre v5) (vw : VwS w H0 b0 n0 ev yv lv rv xv) (hnb : nb < b0) (hvb : vb < b0) (hrn : Rd H0 nb [n0, ev]) (hrv : Rd H0 vb [yv, lv, rv, xv]) (hu : u < w.n) (hpre : pre.length ≤ 50000)
    (hexit : ∀ σ H' nx' fv, SubS [([false], .pointer (some ⟨nb, 0, none⟩)), ([true, true], .pointer (some ⟨vb, 0, none⟩)), ([true, true, false], .int .i64 (u : Int)), ([true, false], fv)] σ → nx ≤ nx' → RfS H0 b0 H' nx' (pre ++ w.r4 u (w.n - (u + 1))) fv → Q (.exit 6) σ H' nx') :
    WC A (.loop xR4I) [([false], .pointer (some ⟨nb, 0, none⟩)), ([true, true], .pointer (some ⟨vb, 0, none⟩)), ([true, true, false], .int .i64 (u : Int)), ([true, false], v5), ([false, true, false], .int .i64 ((u + 1 : Nat) : Int))] H nx Q := by
  refine WC.loop (α := Nat × Value) (fun k => [([false], .pointer (some ⟨nb, 0, none⟩)), ([true, true], .pointer (some ⟨vb, 0, none⟩)), ([true, true, false], .int .i64 (u : Int)), ([true, false], k.2), ([false, true, false], .int .i64 ((u + 1 + k.1 : Nat) : Int))])
    (fun k H' nx' => u + 1 + k.1 ≤ w.n ∧ nx ≤ nx' ∧ RfS H0 b0 H' nx' (pre ++ w.r4 u k.1) k.2) (fun k => w.n - k.1)
    ?_ (0, v5) (.cons rfl (.cons rfl (.cons rfl (.cons rfl (.cons rfl (.nil _)))))) ⟨by omega, Nat.le_refl _, by simpa [Vw.r4, rowI, row1_zero] using st⟩
  rintro ⟨j, fv⟩ H1 nx2 ⟨hj, hnx, st1⟩
  simp only at hj st1 ⊢
  have hlen := r4_len w u j
  have hlen2 : (pre ++ w.r4 u j).length ≤ 100000 := by rw [List.length_append]; have := vw.hn; omega
  obtain ⟨hn, ee, ey, el, er, ex, hnn, hmm, ha, hb⟩ := vw.same st1.same (Nat.le_refl _)
  have hrn1 := st1.same.rd hnb hrn
  have hrv1 := st1.same.rd hvb hrv
  have hle := st1.le
  subst hn
  obtain ⟨base, yc, rfl, h1⟩ := ey
  obtain ⟨yb, yo, yds, rfl, hyb, hyr, hyd⟩ := h1 (by omega)
  obtain ⟨base, lc, rfl, h1⟩ := el
  obtain ⟨lb', lo, lds, rfl, hlb, hlr, hld⟩ := h1 (by omega)
  obtain ⟨base, rc, rfl, h1⟩ := er
  obtain ⟨rb, ro, rds, rfl, hrb, hrr, hrd⟩ := h1 (by omega)
  have q1 := hyd u hu
  have q2 := hld u hu
  have q3 := hrd u hu
  clear hlen
  unfold xR4I
  repeat' (first | ((first | refine WO.n rfl ?_ | refine WO.k rfl ?_); (first | refine Then.of (Act.fad rfl) ?_ | refine Then.of (Act.lod rfl (by (with_reducible (first | exact Rd.self | assumption | exact Rd.own (by assumption) | ((repeat ((apply Rd.skip); (with_unfolding_all omega))); first | exact Rd.self | assumption | exact Rd.own (by assumption))))) rfl) ?_ | refine Then.of (Act.lod rfl (by (with_reducible (first | exact Rd.self | assumption | exact Rd.own (by assumption) | ((repeat ((apply Rd.skip); (with_unfolding_all omega))); first | exact Rd.self | assumption | exact Rd.own (by assumption))))) (partOf_one (by assumption))) ?_ | refine Then.of (Act.ixs rfl rfl (by omega)) ?_ | ((refine Then.both (Act.lss rfl rfl) (fun h => ?_) (fun h => ?_)) <;> (try simp only [Int.ofNat_eq_natCast] at h)))) | with_reducible refine WO.nil ?_ | with_reducible refine WC.reg ?_ | with_reducible refine WC.drawn ?_ | with_reducible refine WC.seq ?_ | with_reducible refine WC.skip ?_ | with_reducible refine WC.exit ?_ | with_reducible refine WC.block ?_ | refine WC.condT rfl ?_ | refine WC.condF rfl ?_ | with_reducible refine stN ?_ | with_reducible refine stE ?_)
  · have hv : u + 1 + j < w.n := by omega
    have q4 := hyd _ hv
    have q5 := hld _ hv
    have q6 := hrd _ hv
    repeat' (first | ((first | refine WO.n rfl ?_ | refine WO.k rfl ?_); (first | refine Then.of (Act.mov rfl) ?_ | refine Then.of (Act.fad rfl) ?_ | refine Then.of (Act.bld rfl rfl) ?_ | refine Then.of (Act.pick rfl rfl rfl) ?_ | refine Then.of (Act.lod rfl (by (with_reducible (first | exact Rd.self | assumption | exact Rd.own (by assumption) | ((repeat ((apply Rd.skip); (with_unfolding_all omega))); first | exact Rd.self | assumption | exact Rd.own (by assumption))))) rfl) ?_ | refine Then.of (Act.lod rfl (by (with_reducible (first | exact Rd.self | assumption | exact Rd.own (by assumption) | ((repeat ((apply Rd.skip); (with_unfolding_all omega))); first | exact Rd.self | assumption | exact Rd.own (by assumption))))) (partOf_one (by assumption))) ?_ | refine Then.of (Act.ixs rfl rfl (by omega)) ?_ | refine Then.of (Act.bsl rfl rfl (by omega)) ?_ | ((refine Then.both (Act.leq rfl rfl) (fun h => ?_) (fun h => ?_)) <;> (try simp only [Int.ofNat_eq_natCast] at h)) | ((refine Then.both (Act.eqlI rfl rfl) (fun h => ?_) (fun h => ?_)) <;> (try simp only [Int.ofNat_eq_natCast] at h)) | refine Then.of (Act.addN rfl rfl (by omega)) ?_)) | refine WO.gYes rfl ?_ | refine WO.gNo rfl ?_ | with_reducible refine WO.nil ?_ | with_reducible refine WC.reg ?_ | with_reducible refine WC.skip ?_ | refine WC.condT rfl ?_ | refine WC.condF rfl ?_ | with_reducible refine stN ?_ | with_reducible refine bkN ?_ | with_reducible refine drN ?_)
    · refine WO.n rfl ?_
      refine Then.push (nx0 := b0) rfl rfl (st1.g.same (Same.refl.set (Nat.le_refl _)) (Nat.le_succ _)) (src_one Rd.self rfl) (by omega) (by omega) rfl rfl (by omega) (by unfold small; omega) (by unfold small; omega) ?_
      intro v2 H3 hg2 hs2 _
      repeat' (first | ((first | refine WO.n rfl ?_ | refine WO.k rfl ?_); (first | refine Then.of (Act.mov rfl) ?_ | refine Then.of (Act.addN rfl rfl (by omega)) ?_)) | with_reducible refine WO.nil ?_ | with_reducible refine WC.reg ?_ | with_reducible refine stN ?_ | with_reducible refine bkN ?_)
      refine ⟨(j + 1, v2), by show w.n - (j + 1) < w.n - j; omega, .cons rfl (.cons rfl (.cons rfl (.cons rfl (.cons rfl (.nil _))))), by show u + 1 + (j + 1) ≤ _; omega, by omega, ?_⟩
      show RfS _ _ _ _ (pre ++ w.r4 u (j + 1)) v2
      rw [r4_succ, ← List.append_assoc, show w.b4 u (u + 1 + j) = true from decide_eq_true (by omega)]
      exact st1.one hg2 (Same.refl.set (by omega)) hs2 (by omega)
    all_goals
      refine ⟨(j + 1, fv), by show w.n - (j + 1) < w.n - j; omega, .cons rfl (.cons rfl (.cons rfl (.cons rfl (.cons rfl (.nil _))))), by show u + 1 + (j + 1) ≤ _; omega, by omega, ?_⟩
      show RfS _ _ _ _ (pre ++ w.r4 u (j + 1)) fv
      rw [r4_succ, ← List.append_assoc, show w.b4 u (u + 1 + j) = false from decide_eq_false (by omega)]
      simpa [sel] using st1
  · have hkn : j = w.n - (u + 1) := by omega
    subst hkn
    exact hexit _ _ _ _ (.cons rfl (.cons rfl (.cons rfl (.cons rfl (.nil _))))) hnx st1

theorem r4O {nb vb b0 : Nat} {H0 : Heap} {n0 ev yv lv rv xv v5 : Value} {w : Vw} {pre : List Fl} (st : RfS H0 b0 H nx pre v5) (vw : VwS w H0 b0 n0 ev yv lv rv xv) (hnb : nb < b0) (hvb : vb < b0) (hrn : Rd H0 nb [n0, ev]) (hrv : Rd H0 vb [yv, lv, rv, xv]) (hpre : pre.length ≤ 40000)
    (hexit : ∀ σ H' nx' fv, SubS [([false], .pointer (some ⟨nb, 0, none⟩)), ([true, true], .pointer (some ⟨vb, 0, none⟩)), ([true, false], fv)] σ → nx ≤ nx' → RfS H0 b0 H' nx' (pre ++ w.f4 w.n) fv → Q (.exit 4) σ H' nx') :
    WC A (.loop xR4O) [([false], .pointer (some ⟨nb, 0, none⟩)), ([true, true], .pointer (some ⟨vb, 0, none⟩)), ([true, false], v5), ([true, true, false], .int .i64 0)] H nx Q := by
  refine WC.loop (α := Nat × Value) (fun k => [([false], .pointer (some ⟨nb, 0, none⟩)), ([true, true], .pointer (some ⟨vb, 0, none⟩)), ([true, false], k.2), ([true, true, false], .int .i64 ((k.1 : Nat) : Int))])
    (fun k H' nx' => k.1 ≤ w.n ∧ nx ≤ nx' ∧ RfS H0 b0 H' nx' (pre ++ w.f4 k.1) k.2) (fun k => w.n - k.1)
    ?_ (0, v5) (.cons rfl (.cons rfl (.cons rfl (.cons rfl (.nil _))))) ⟨Nat.zero_le _, Nat.le_refl _, by simpa [Vw.f4, row1_zero] using st⟩
  rintro ⟨k, fv⟩ H1 nx2 ⟨hk, hnx, st1⟩
  simp only at hk st1 ⊢
  have hnn := vw.hn
  have hlen := len60 hk hnn (f4_len w k)
  have hrn1 := st1.same.rd hnb hrn
  have hn0 := vw.n
  subst hn0
  unfold xR4O
  repeat' (first | ((first | refine WO.n rfl ?_ | refine WO.k rfl ?_); (first | refine Then.of (Act.mov rfl) ?_ | refine Then.of (Act.fad rfl) ?_ | refine Then.of (Act.lod rfl (by (with_reducible (first | exact Rd.self | assumption | exact Rd.own (by assumption) | ((repeat ((apply Rd.skip); (with_unfolding_all omega))); first | exact Rd.self | assumption | exact Rd.own (by assumption))))) rfl) ?_ | ((refine Then.both (Act.lss rfl rfl) (fun h => ?_) (fun h => ?_)) <;> (try simp only [Int.ofNat_eq_natCast] at h)) | refine Then.of (Act.addN rfl rfl (by omega)) ?_)) | with_reducible refine WO.nil ?_ | with_reducible refine WC.reg ?_ | with_reducible refine WC.seq ?_ | with_reducible refine WC.skip ?_ | with_reducible refine WC.exit ?_ | with_reducible refine WC.block ?_ | refine WC.condT rfl ?_ | refine WC.condF rfl ?_ | with_reducible refine stN ?_ | with_reducible refine stE ?_)
  · have hk' : k < w.n := by omega
    refine WC.sub (.cons rfl (.cons rfl (.cons rfl (.cons rfl (.cons rfl (.nil _)))))) (r4I st1 vw hnb hvb hrn hrv hk' (by rw [List.length_append]; omega) (fun σ H3 nx3 v3 hσ hn3 st3 => ?_))
    refine bkE (bkN (stN (WC.sub hσ ?_)))
    repeat' (first | ((first | refine WO.n rfl ?_ | refine WO.k rfl ?_); (first | refine Then.of (Act.mov rfl) ?_ | refine Then.of (Act.addN rfl rfl (by omega)) ?_)) | with_reducible refine WO.nil ?_ | with_reducible refine WC.reg ?_)
    refine ⟨(k + 1, v3), by show w.n - (k + 1) < w.n - k; omega, .cons rfl (.cons rfl (.cons rfl (.cons rfl (.nil _)))), by show k + 1 ≤ _; omega, by omega, ?_⟩
    show RfS _ _ _ _ (pre ++ w.f4 (k + 1)) v3
    rw [f4_succ, ← List.append_assoc]
    exact st3
  · have hkn : k = w.n := by omega
    subst hkn
    exact hexit _ _ _ _ (.cons rfl (.cons rfl (.cons rfl (.nil _)))) hnx st1
end Go.Eng
