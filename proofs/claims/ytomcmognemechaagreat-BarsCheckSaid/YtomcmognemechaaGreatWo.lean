import Derived.Test.YtomcmognemechaaGreatWn
/- The reference: lines over bars, lines over lines. -/
namespace Go.Eng
variable {A : AProg} {H H' : Heap} {nx nx' : Nat} {σ : Slots} {Q : Post}
set_option maxRecDepth 100000

def xR6O : ACode := (.seq (.seq (.reg false [(⟨none, none, (.fad (.var [false]) 1)⟩, []), (⟨none, none, (.lod (.loc 0) none)⟩, []), (⟨none, none, (.len (.loc 0))⟩, []), (⟨(some [true, true, false, true, false, true, false, true]), none, (.bin .lss 3 (.var [true, false, true, true]) (.loc 0))⟩, [])]) (.cond (.var [true, true, false, true, false, true, false, true]) .skip (.exit 12))) (.seq (.block 13 (.seq (.reg false [(⟨none, none, (.lod (.var [false]) (some 2))⟩, []), (⟨none, none, (.lod (.var [true, true]) (some 4))⟩, []), (⟨none, none, (.call (.fn 17) [(.loc 1), (.loc 0), (.var [true, false, true, true])])⟩, []), (⟨none, none, (.ext (.loc 0) 0)⟩, []), (⟨none, none, (.ext (.loc 1) 1)⟩, []), (⟨(some [false, false, true, true]), none, (.mov (.loc 1))⟩, []), (⟨(some [true, true, false, true]), none, (.mov (.loc 1))⟩, [])]) (.seq (.reg false [(⟨none, none, (.bin .add 3 (.var [true, false, true, true]) (.cst (.int .i64 (.ofNat 1))))⟩, []), (⟨(some [false, true, false, true]), none, (.mov (.loc 0))⟩, [])]) (.block 14 (.loop (.seq (.seq (.reg false [(⟨none, none, (.fad (.var [false]) 1)⟩, []), (⟨none, none, (.lod (.loc 0) none)⟩, []), (⟨none, none, (.len (.loc 0))⟩, []), (⟨(some [true, true, false, true, true, false, false, true]), none, (.bin .lss 3 (.var [false, true, false, true]) (.loc 0))⟩, [])]) (.cond (.var [true, true, false, true, true, false, false, true]) .skip (.exit 14))) (.seq (.block 15 (.seq (.reg false [(⟨none, none, (.lod (.var [false]) (some 2))⟩, []), (⟨none, none, (.lod (.var [true, true]) (some 4))⟩, []), (⟨none, none, (.call (.fn 17) [(.loc 1), (.loc 0), (.var [false, true, false, true])])⟩, []), (⟨none, none, (.ext (.loc 0) 0)⟩, []), (⟨none, none, (.ext (.loc 1) 1)⟩, []), (⟨(some [true, false, false, true]), none, (.mov (.loc 1))⟩, []), (⟨(some [false, false, false, true]), none, (.mov (.loc 1))⟩, [])]) (.seq (.reg true [(⟨none, none, (.fad (.var [true, true]) 3)⟩, []), (⟨none, none, (.lod (.loc 0) none)⟩, []), (⟨none, none, (.ixs (.loc 0) (.var [true, false, true, true]) 1)⟩, []), (⟨none, none, (.lod (.loc 0) none)⟩, []), (⟨none, none, (.fad (.var [true, true]) 3)⟩, []), (⟨none, none, (.lod (.loc 0) none)⟩, []), (⟨none, none, (.ixs (.loc 0) (.var [false, true, false, true]) 1)⟩, []), (⟨none, none, (.lod (.loc 0) none)⟩, []), (⟨none, none, (.bin .eql 3 (.loc 4) (.loc 0))⟩, []), (⟨none, none, (.mov (.loc 0))⟩, []), (⟨none, (some (0, true)), (.mov (.var [false, false, true, true]))⟩, []), (⟨none, (some (1, true)), (.mov (.var [true, false, false, true]))⟩, []), (⟨none, (some (2, true)), (.mnx false [(.loc 1), (.loc 0)])⟩, []), (⟨none, (some (3, true)), (.mov (.var [true, true, false, true]))⟩, []), (⟨none, (some (4, true)), (.mov (.var [false, false, false, true]))⟩, []), (⟨none, (some (5, true)), (.mnx true [(.loc 1), (.loc 0)])⟩, []), (⟨none, (some (6, true)), (.bin .lss 3 (.loc 3) (.loc 0))⟩, []), (⟨(some [false, true, true, true, true, true, true, false]), none, (.pick (.loc 7) (.loc 0) (.cst (.bool false)))⟩, [])]) (.cond (.var [false, true, true, true, true, true, true, false]) (.reg false [(⟨none, none, (.bld [(.int .i64 (.ofNat 0)), (.int .i64 (.ofNat 0)), (.int .i64 (.ofNat 0))] [(0, 1, (.cst (.int .i64 (.ofNat 6)))), (1, 1, (.var [true, false, true, true])), (2, 1, (.var [false, true, false, true]))])⟩, []), (⟨none, none, (.bsl 3 1 [(.int .i64 (.ofNat 0)), (.int .i64 (.ofNat 0)), (.int .i64 (.ofNat 0))] [(0, 3, (.loc 0))])⟩, []), (⟨none, none, (.app 3 24 [(.int .i64 (.ofNat 0)), (.int .i64 (.ofNat 0)), (.int .i64 (.ofNat 0))] (.var [true, false]) (.loc 0) false)⟩, []), (⟨(some [true, false]), none, (.mov (.loc 0))⟩, [])]) .skip)))) (.reg false [(⟨none, none, (.bin .add 3 (.var [false, true, false, true]) (.cst (.int .i64 (.ofNat 1))))⟩, []), (⟨(some [false, true, false, true]), none, (.mov (.loc 0))⟩, [])])))))))) (.reg false [(⟨none, none, (.bin .add 3 (.var [true, false, true, true]) (.cst (.int .i64 (.ofNat 1))))⟩, []), (⟨(some [true, false, true, true]), none, (.mov (.loc 0))⟩, [])])))
def xR6I : ACode := (.seq (.seq (.reg false [(⟨none, none, (.fad (.var [false]) 1)⟩, []), (⟨none, none, (.lod (.loc 0) none)⟩, []), (⟨none, none, (.len (.loc 0))⟩, []), (⟨(some [true, true, false, true, true, false, false, true]), none, (.bin .lss 3 (.var [false, true, false, true]) (.loc 0))⟩, [])]) (.cond (.var [true, true, false, true, true, false, false, true]) .skip (.exit 14))) (.seq (.block 15 (.seq (.reg false [(⟨none, none, (.lod (.var [false]) (some 2))⟩, []), (⟨none, none, (.lod (.var [true, true]) (some 4))⟩, []), (⟨none, none, (.call (.fn 17) [(.loc 1), (.loc 0), (.var [false, true, false, true])])⟩, []), (⟨none, none, (.ext (.loc 0) 0)⟩, []), (⟨none, none, (.ext (.loc 1) 1)⟩, []), (⟨(some [true, false, false, true]), none, (.mov (.loc 1))⟩, []), (⟨(some [false, false, false, true]), none, (.mov (.loc 1))⟩, [])]) (.seq (.reg true [(⟨none, none, (.fad (.var [true, true]) 3)⟩, []), (⟨none, none, (.lod (.loc 0) none)⟩, []), (⟨none, none, (.ixs (.loc 0) (.var [true, false, true, true]) 1)⟩, []), (⟨none, none, (.lod (.loc 0) none)⟩, []), (⟨none, none, (.fad (.var [true, true]) 3)⟩, []), (⟨none, none, (.lod (.loc 0) none)⟩, []), (⟨none, none, (.ixs (.loc 0) (.var [false, true, false, true]) 1)⟩, []), (⟨none, none, (.lod (.loc 0) none)⟩, []), (⟨none, none, (.bin .eql 3 (.loc 4) (.loc 0))⟩, []), (⟨none, none, (.mov (.loc 0))⟩, []), (⟨none, (some (0, true)), (.mov (.var [false, false, true, true]))⟩, []), (⟨none, (some (1, true)), (.mov (.var [true, false, false, true]))⟩, []), (⟨none, (some (2, true)), (.mnx false [(.loc 1), (.loc 0)])⟩, []), (⟨none, (some (3, true)), (.mov (.var [true, true, false, true]))⟩, []), (⟨none, (some (4, true)), (.mov (.var [false, false, false, true]))⟩, []), (⟨none, (some (5, true)), (.mnx true [(.loc 1), (.loc 0)])⟩, []), (⟨none, (some (6, true)), (.bin .lss 3 (.loc 3) (.loc 0))⟩, []), (⟨(some [false, true, true, true, true, true, true, false]), none, (.pick (.loc 7) (.loc 0) (.cst (.bool false)))⟩, [])]) (.cond (.var [false, true, true, true, true, true, true, false]) (.reg false [(⟨none, none, (.bld [(.int .i64 (.ofNat 0)), (.int .i64 (.ofNat 0)), (.int .i64 (.ofNat 0))] [(0, 1, (.cst (.int .i64 (.ofNat 6)))), (1, 1, (.var [true, false, true, true])), (2, 1, (.var [false, true, false, true]))])⟩, []), (⟨none, none, (.bsl 3 1 [(.int .i64 (.ofNat 0)), (.int .i64 (.ofNat 0)), (.int .i64 (.ofNat 0))] [(0, 3, (.loc 0))])⟩, []), (⟨none, none, (.app 3 24 [(.int .i64 (.ofNat 0)), (.int .i64 (.ofNat 0)), (.int .i64 (.ofNat 0))] (.var [true, false]) (.loc 0) false)⟩, []), (⟨(some [true, false]), none, (.mov (.loc 0))⟩, [])]) .skip)))) (.reg false [(⟨none, none, (.bin .add 3 (.var [false, true, false, true]) (.cst (.int .i64 (.ofNat 1))))⟩, []), (⟨(some [false, true, false, true]), none, (.mov (.loc 0))⟩, [])])))

theorem r5O (h17 : A.funcs 17 = some xSpan) (hh : ∀ g, g ≠ 4 → ∀ vs H nx, A.hook g vs H nx = none) {nb vb b0 : Nat} {H0 : Heap} {n0 ev yv lv rv xv v5 : Value} {w : Vw} {pre : List Fl} (st : RfS H0 b0 H nx pre v5) (vw : VwS w H0 b0 n0 ev yv lv rv xv) (hnb : nb < b0) (hvb : vb < b0) (hrn : Rd H0 nb [n0, ev]) (hrv : Rd H0 vb [yv, lv, rv, xv]) (hpre : pre.length ≤ 40000)
    (hexit : ∀ σ H' nx' fv, SubS [([false], .pointer (some ⟨nb, 0, none⟩)), ([true, true], .pointer (some ⟨vb, 0, none⟩)), ([true, false], fv)] σ → nx ≤ nx' → RfS H0 b0 H' nx' (pre ++ w.f5 w.m) fv → Q (.exit 8) σ H' nx') :
    WC A (.loop xR5O) [([false], .pointer (some ⟨nb, 0, none⟩)), ([true, true], .pointer (some ⟨vb, 0, none⟩)), ([true, false], v5), ([true, false, false], .int .i64 0)] H nx Q := by
  refine WC.loop (α := Nat × Value) (fun k => [([false], .pointer (some ⟨nb, 0, none⟩)), ([true, true], .pointer (some ⟨vb, 0, none⟩)), ([true, false], k.2), ([true, false, false], .int .i64 ((k.1 : Nat) : Int))])
    (fun k H' nx' => k.1 ≤ w.m ∧ nx ≤ nx' ∧ RfS H0 b0 H' nx' (pre ++ w.f5 k.1) k.2) (fun k => w.m - k.1)
    ?_ (0, v5) (.cons rfl (.cons rfl (.cons rfl (.cons rfl (.nil _))))) ⟨Nat.zero_le _, Nat.le_refl _, by simpa [Vw.f5, row1_zero] using st⟩
  rintro ⟨k, fv⟩ H1 nx2 ⟨hk, hnx, st1⟩
  simp only at hk st1 ⊢
  have hnn := vw.hn
  have hmm := vw.hm
  have hlen := len60' hk hnn hmm (f5_len w k)
  have hrn1 := st1.same.rd hnb hrn
  have hrv1 := st1.same.rd hvb hrv
  have hn0 := vw.n
  subst hn0
  obtain ⟨eb, ec, rfl, _⟩ := vw.e
  have vw1 := vw.same st1.same st1.le
  unfold xR5O
  repeat' (first | ((first | refine WO.n rfl ?_ | refine WO.k rfl ?_); (first | refine Then.of (Act.fad rfl) ?_ | refine Then.of (Act.len rfl) ?_ | refine Then.of (Act.lod rfl (by (with_reducible (first | exact Rd.self | assumption | exact Rd.own (by assumption) | ((repeat ((apply Rd.skip); (with_unfolding_all omega))); first | exact Rd.self | assumption | exact Rd.own (by assumption))))) rfl) ?_ | ((refine Then.both (Act.lss rfl rfl) (fun h => ?_) (fun h => ?_)) <;> (try simp only [Int.ofNat_eq_natCast] at h)))) | with_reducible refine WO.nil ?_ | with_reducible refine WC.reg ?_ | with_reducible refine WC.seq ?_ | with_reducible refine WC.skip ?_ | with_reducible refine WC.exit ?_ | with_reducible refine WC.block ?_ | refine WC.condT rfl ?_ | refine WC.condF rfl ?_ | with_reducible refine stN ?_ | with_reducible refine stE ?_)
  · have hk' : k < w.m := by omega
    refine WO.cn rfl ?_
    refine (span_spec h17 (hh 17 (by decide)) vw1 hk').of ?_
    rintro _ H2 nx3 ⟨hs2, hn2, rfl⟩
    have st2 := st1.up hs2 hn2
    repeat' (first | ((first | refine WO.n rfl ?_ | refine WO.k rfl ?_); (first | refine Then.of (Act.mov rfl) ?_ | refine Then.of (Act.ext rfl rfl) ?_)) | with_reducible refine WO.nil ?_ | with_reducible refine WC.reg ?_ | with_reducible refine WC.seq ?_ | with_reducible refine WC.block ?_ | with_reducible refine stN ?_)
    refine WC.sub (.cons rfl (.cons rfl (.cons rfl (.cons rfl (.cons rfl (.cons rfl (.cons rfl (.nil _)))))))) (r5I st2 vw hnb hvb hrn hrv hk' (by rw [List.length_append]; omega) (fun σ H3 nx3 v3 hσ hn3 st3 => ?_))
    refine bkE (bkN (stN (WC.sub hσ ?_)))
    repeat' (first | ((first | refine WO.n rfl ?_ | refine WO.k rfl ?_); (first | refine Then.of (Act.mov rfl) ?_ | refine Then.of (Act.addN rfl rfl (by omega)) ?_)) | with_reducible refine WO.nil ?_ | with_reducible refine WC.reg ?_)
    refine ⟨(k + 1, v3), by show w.m - (k + 1) < w.m - k; omega, .cons rfl (.cons rfl (.cons rfl (.cons rfl (.nil _)))), by show k + 1 ≤ _; omega, by omega, ?_⟩
    show RfS _ _ _ _ (pre ++ w.f5 (k + 1)) v3
    rw [f5_succ, ← List.append_assoc]
    exact st3
  · have hkn : k = w.m := by omega
    subst hkn
    exact hexit _ _ _ _ (.cons rfl (.cons rfl (.cons rfl (.nil _)))) hnx st1

theorem r6I (h17 : A.funcs 17 = some xSpan) (hh : ∀ g, g ≠ 4 → ∀ vs H nx, A.hook g vs H nx = none) {nb vb b0 u : Nat} {H0 : Heap} {n0 ev yv lv rv xv v5 : Value} {w : Vw} {pre : List Fl} (st : RfS H0 b0 H nx pre v5) (vw : VwS w H0 b0 n0 ev yv lv rv xv) (hnb : nb < b0) (hvb : vb < b0) (hrn : Rd H0 nb [n0, ev]) (hrv : Rd H0 vb [yv, lv, rv, xv]) (hu : u < w.m) (hpre : pre.length ≤ 50000)
    (hexit : ∀ σ H' nx' fv, SubS [([false], .pointer (some ⟨nb, 0, none⟩)), ([true, true], .pointer (some ⟨vb, 0, none⟩)), ([true, false, true, true], .int .i64 (u : Int)), ([true, false], fv)] σ → nx ≤ nx' → RfS H0 b0 H' nx' (pre ++ w.r6 u (w.m - (u + 1))) fv → Q (.exit 14) σ H' nx') :
    WC A (.loop xR6I) [([false], .pointer (some ⟨nb, 0, none⟩)), ([true, true], .pointer (some ⟨vb, 0, none⟩)), ([true, false, true, true], .int .i64 (u : Int)), ([false, false, true, true], .int .i64 (w.lo u)), ([true, true, false, true], .int .i64 (w.hi u)), ([true, false], v5), ([false, true, false, true], .int .i64 ((u + 1 : Nat) : Int))] H nx Q := by
  refine WC.loop (α := Nat × Value) (fun k => [([false], .pointer (some ⟨nb, 0, none⟩)), ([true, true], .pointer (some ⟨vb, 0, none⟩)), ([true, false, true, true], .int .i64 (u : Int)), ([false, false, true, true], .int .i64 (w.lo u)), ([true, true, false, true], .int .i64 (w.hi u)), ([true, false], k.2), ([false, true, false, true], .int .i64 ((u + 1 + k.1 : Nat) : Int))])
    (fun k H' nx' => u + 1 + k.1 ≤ w.m ∧ nx ≤ nx' ∧ RfS H0 b0 H' nx' (pre ++ w.r6 u k.1) k.2) (fun k => w.m - k.1)
    ?_ (0, v5) (.cons rfl (.cons rfl (.cons rfl (.cons rfl (.cons rfl (.cons rfl (.cons rfl (.nil _)))))))) ⟨by omega, Nat.le_refl _, by simpa [Vw.r6, rowI, row1_zero] using st⟩
  rintro ⟨j, fv⟩ H1 nx2 ⟨hj, hnx, st1⟩
  simp only at hj st1 ⊢
  have hlen := r6_len w u j
  have hlen2 : (pre ++ w.r6 u j).length ≤ 100000 := by rw [List.length_append]; have := vw.hm; omega
  have hmm := vw.hm
  have hrn1 := st1.same.rd hnb hrn
  have hrv1 := st1.same.rd hvb hrv
  have hle := st1.le
  have vw1 := vw.same st1.same st1.le
  have hn0 := vw.n
  subst hn0
  obtain ⟨eb, ec, rfl, _⟩ := vw.e
  obtain ⟨base, xc, rfl, h1⟩ := vw1.x
  obtain ⟨xb, xo, xds, rfl, hxb, hxr, hxd⟩ := h1 (by omega)
  have q1 := hxd u hu
  clear hlen h1
  unfold xR6I
  repeat' (first | ((first | refine WO.n rfl ?_ | refine WO.k rfl ?_); (first | refine Then.of (Act.fad rfl) ?_ | refine Then.of (Act.len rfl) ?_ | refine Then.of (Act.lod rfl (by (with_reducible (first | exact Rd.self | assumption | exact Rd.own (by assumption) | ((repeat ((apply Rd.skip); (with_unfolding_all omega))); first | exact Rd.self | assumption | exact Rd.own (by assumption))))) rfl) ?_ | ((refine Then.both (Act.lss rfl rfl) (fun h => ?_) (fun h => ?_)) <;> (try simp only [Int.ofNat_eq_natCast] at h)))) | with_reducible refine WO.nil ?_ | with_reducible refine WC.reg ?_ | with_reducible refine WC.seq ?_ | with_reducible refine WC.skip ?_ | with_reducible refine WC.exit ?_ | with_reducible refine WC.block ?_ | refine WC.condT rfl ?_ | refine WC.condF rfl ?_ | with_reducible refine stN ?_ | with_reducible refine stE ?_)
  · have hv : u + 1 + j < w.m := by omega
    have q4 := hxd _ hv
    refine WO.cn rfl ?_
    refine (span_spec h17 (hh 17 (by decide)) vw1 hv).of ?_
    rintro _ H2 nx3 ⟨hs2, hn2, rfl⟩
    have st2 := st1.up hs2 hn2
    have hrv2 := st2.same.rd hvb hrv
    have hrn2 := st2.same.rd hnb hrn
    have hxr2 := hs2.rd hxb hxr
    have hle2 := st2.le
    clear hxr hrv1 hrn1
    repeat' (first | ((first | refine WO.n rfl ?_ | refine WO.k rfl ?_); (first | refine Then.of (Act.mov rfl) ?_ | refine Then.of (Act.ext rfl rfl) ?_ | refine Then.of (Act.fad rfl) ?_ | refine Then.of (Act.bld rfl rfl) ?_ | refine Then.of (Act.pick rfl rfl rfl) ?_ | refine Then.of (Act.lod rfl (by (with_reducible (first | exact Rd.self | assumption | exact Rd.own (by assumption) | ((repeat ((apply Rd.skip); (with_unfolding_all omega))); first | exact Rd.self | assumption | exact Rd.own (by assumption))))) rfl) ?_ | refine Then.of (Act.lod rfl (by (with_reducible (first | exact Rd.self | assumption | exact Rd.own (by assumption) | ((repeat ((apply Rd.skip); (with_unfolding_all omega))); first | exact Rd.self | assumption | exact Rd.own (by assumption))))) (partOf_one (by assumption))) ?_ | refine Then.of (Act.ixs rfl rfl (by omega)) ?_ | refine Then.of (Act.bsl rfl rfl (by omega)) ?_ | ((refine Then.both (Act.lss rfl rfl) (fun h => ?_) (fun h => ?_)) <;> (try simp only [Int.ofNat_eq_natCast] at h)) | ((refine Then.both (Act.eqlI rfl rfl) (fun h => ?_) (fun h => ?_)) <;> (try simp only [Int.ofNat_eq_natCast] at h)) | refine Then.of (Act.addN rfl rfl (by omega)) ?_ | refine Then.of (Act.min2 rfl rfl) ?_ | refine Then.of (Act.max2 rfl rfl) ?_)) | refine WO.gYes rfl ?_ | refine WO.gNo rfl ?_ | with_reducible refine WO.nil ?_ | with_reducible refine WC.reg ?_ | with_reducible refine WC.drawn ?_ | with_reducible refine WC.seq ?_ | with_reducible refine WC.skip ?_ | refine WC.condT rfl ?_ | refine WC.condF rfl ?_ | with_reducible refine stN ?_ | with_reducible refine bkN ?_ | with_reducible refine drN ?_)
    · refine WO.n rfl ?_
      refine Then.push (nx0 := b0) rfl rfl (st2.g.same (Same.refl.set (Nat.le_refl _)) (Nat.le_succ _)) (src_one Rd.self rfl) (by omega) (by omega) rfl rfl (by omega) (by unfold small; omega) (by unfold small; omega) ?_
      intro v2 H3 hg2 hs3 _
      repeat' (first | ((first | refine WO.n rfl ?_ | refine WO.k rfl ?_); (first | refine Then.of (Act.mov rfl) ?_ | refine Then.of (Act.addN rfl rfl (by omega)) ?_)) | with_reducible refine WO.nil ?_ | with_reducible refine WC.reg ?_ | with_reducible refine stN ?_ | with_reducible refine bkN ?_)
      refine ⟨(j + 1, v2), by show w.m - (j + 1) < w.m - j; omega, .cons rfl (.cons rfl (.cons rfl (.cons rfl (.cons rfl (.cons rfl (.cons rfl (.nil _))))))), by show u + 1 + (j + 1) ≤ _; omega, by omega, ?_⟩
      show RfS _ _ _ _ (pre ++ w.r6 u (j + 1)) v2
      rw [r6_succ, ← List.append_assoc, show w.b6 u (u + 1 + j) = true from decide_eq_true (by omega)]
      exact st2.one hg2 (Same.refl.set (by omega)) hs3 (by omega)
    all_goals
      refine ⟨(j + 1, fv), by show w.m - (j + 1) < w.m - j; omega, .cons rfl (.cons rfl (.cons rfl (.cons rfl (.cons rfl (.cons rfl (.cons rfl (.nil _))))))), by show u + 1 + (j + 1) ≤ _; omega, by omega, ?_⟩
      show RfS _ _ _ _ (pre ++ w.r6 u (j + 1)) fv
      rw [r6_succ, ← List.append_assoc, show w.b6 u (u + 1 + j) = false from decide_eq_false (by omega)]
      simpa [sel] using st2
  · have hkn : j = w.m - (u + 1) := by omega
    subst hkn
    exact hexit _ _ _ _ (.cons rfl (.cons rfl (.cons rfl (.cons rfl (.nil _))))) hnx st1

theorem r6O (h17 : A.funcs 17 = some xSpan) (hh : ∀ g, g ≠ 4 → ∀ vs H nx, A.hook g vs H nx = none) {nb vb b0 : Nat} {H0 : Heap} {n0 ev yv lv rv xv v5 : Value} {w : Vw} {pre : List Fl} (st : RfS H0 b0 H nx pre v5) (vw : VwS w H0 b0 n0 ev yv lv rv xv) (hnb : nb < b0) (hvb : vb < b0) (hrn : Rd H0 nb [n0, ev]) (hrv : Rd H0 vb [yv, lv, rv, xv]) (hpre : pre.length ≤ 40000)
    (hexit : ∀ σ H' nx' fv, SubS [([true, false], fv)] σ → nx ≤ nx' → RfS H0 b0 H' nx' (pre ++ w.f6 w.m) fv → Q (.exit 12) σ H' nx') :
    WC A (.loop xR6O) [([false], .pointer (some ⟨nb, 0, none⟩)), ([true, true], .pointer (some ⟨vb, 0, none⟩)), ([true, false], v5), ([true, false, true, true], .int .i64 0)] H nx Q := by
  refine WC.loop (α := Nat × Value) (fun k => [([false], .pointer (some ⟨nb, 0, none⟩)), ([true, true], .pointer (some ⟨vb, 0, none⟩)), ([true, false], k.2), ([true, false, true, true], .int .i64 ((k.1 : Nat) : Int))])
    (fun k H' nx' => k.1 ≤ w.m ∧ nx ≤ nx' ∧ RfS H0 b0 H' nx' (pre ++ w.f6 k.1) k.2) (fun k => w.m - k.1)
    ?_ (0, v5) (.cons rfl (.cons rfl (.cons rfl (.cons rfl (.nil _))))) ⟨Nat.zero_le _, Nat.le_refl _, by simpa [Vw.f6, row1_zero] using st⟩
  rintro ⟨k, fv⟩ H1 nx2 ⟨hk, hnx, st1⟩
  simp only at hk st1 ⊢
  have hmm := vw.hm
  have hlen := len60 hk hmm (f6_len w k)
  have hrn1 := st1.same.rd hnb hrn
  have hrv1 := st1.same.rd hvb hrv
  have hn0 := vw.n
  subst hn0
  obtain ⟨eb, ec, rfl, _⟩ := vw.e
  have vw1 := vw.same st1.same st1.le
  unfold xR6O
  repeat' (first | ((first | refine WO.n rfl ?_ | refine WO.k rfl ?_); (first | refine Then.of (Act.fad rfl) ?_ | refine Then.of (Act.len rfl) ?_ | refine Then.of (Act.lod rfl (by (with_reducible (first | exact Rd.self | assumption | exact Rd.own (by assumption) | ((repeat ((apply Rd.skip); (with_unfolding_all omega))); first | exact Rd.self | assumption | exact Rd.own (by assumption))))) rfl) ?_ | ((refine Then.both (Act.lss rfl rfl) (fun h => ?_) (fun h => ?_)) <;> (try simp only [Int.ofNat_eq_natCast] at h)))) | with_reducible refine WO.nil ?_ | with_reducible refine WC.reg ?_ | with_reducible refine WC.seq ?_ | with_reducible refine WC.skip ?_ | with_reducible refine WC.exit ?_ | with_reducible refine WC.block ?_ | refine WC.condT rfl ?_ | refine WC.condF rfl ?_ | with_reducible refine stN ?_ | with_reducible refine stE ?_)
  · have hk' : k < w.m := by omega
    refine WO.cn rfl ?_
    refine (span_spec h17 (hh 17 (by decide)) vw1 hk').of ?_
    rintro _ H2 nx3 ⟨hs2, hn2, rfl⟩
    have st2 := st1.up hs2 hn2
    repeat' (first | ((first | refine WO.n rfl ?_ | refine WO.k rfl ?_); (first | refine Then.of (Act.mov rfl) ?_ | refine Then.of (Act.ext rfl rfl) ?_ | refine Then.of (Act.addN rfl rfl (by omega)) ?_)) | with_reducible refine WO.nil ?_ | with_reducible refine WC.reg ?_ | with_reducible refine WC.seq ?_ | with_reducible refine WC.block ?_ | with_reducible refine stN ?_)
    refine WC.sub (.cons rfl (.cons rfl (.cons rfl (.cons rfl (.cons rfl (.cons rfl (.cons rfl (.nil _)))))))) (r6I h17 hh st2 vw hnb hvb hrn hrv hk' (by rw [List.length_append]; omega) (fun σ H3 nx3 v3 hσ hn3 st3 => ?_))
    refine bkE (bkN (stN (WC.sub hσ ?_)))
    repeat' (first | ((first | refine WO.n rfl ?_ | refine WO.k rfl ?_); (first | refine Then.of (Act.mov rfl) ?_ | refine Then.of (Act.addN rfl rfl (by omega)) ?_)) | with_reducible refine WO.nil ?_ | with_reducible refine WC.reg ?_)
    refine ⟨(k + 1, v3), by show w.m - (k + 1) < w.m - k; omega, .cons rfl (.cons rfl (.cons rfl (.cons rfl (.nil _)))), by show k + 1 ≤ _; omega, by omega, ?_⟩
    show RfS _ _ _ _ (pre ++ w.f6 (k + 1)) v3
    rw [f6_succ, ← List.append_assoc]
    exact st3
  · have hkn : k = w.m := by omega
    subst hkn
    exact hexit _ _ _ _ (.cons rfl (.nil _)) hnx st1
end Go.Eng
