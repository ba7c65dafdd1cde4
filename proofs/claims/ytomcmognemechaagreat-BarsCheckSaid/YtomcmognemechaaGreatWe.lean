import Derived.Test.YtomcmognemechaaGreatWd
/- The looker looks at edges. -/
namespace Go.Eng
variable {A : AProg} {H H' : Heap} {nx nx' : Nat} {σ : Slots} {Q : Post}
set_option maxRecDepth 100000

def xLines : AFunc := ⟨[], (.seq (.reg false [(⟨none, none, (.nilck (.var []))⟩, []), (⟨none, none, (.fad (.loc 0) 0)⟩, []), (⟨none, none, (.fad (.loc 0) 1)⟩, []), (⟨(some [true, true, false]), none, (.lod (.loc 0) none)⟩, []), (⟨(some [false, true, false]), none, (.len (.loc 0))⟩, []), (⟨(some [true, false, false]), none, (.mov (.cst (.int .i64 (.ofNat 0))))⟩, [])]) (.block 0 (.loop (.seq (.reg false [(⟨(some [false, false, false]), none, (.bin .lss 3 (.var [true, false, false]) (.var [false, true, false]))⟩, [])]) (.seq (.cond (.var [false, false, false]) .skip (.exit 0)) (.seq (.block 1 (.seq (.reg false [(⟨none, none, (.ixs (.var [true, true, false]) (.var [true, false, false]) 2)⟩, []), (⟨none, none, (.lod (.loc 0) (some 2))⟩, []), (⟨(some [true, true]), none, (.alc [(.int .i64 (.ofNat 0)), (.int .i64 (.ofNat 0))])⟩, []), (⟨(some [false]), none, (.mov (.var [true, false, false]))⟩, []), (⟨none, none, (.sto (.loc 1) (.loc 2) 2)⟩, [])]) (.seq (.reg true [(⟨none, none, (.nilck (.var []))⟩, []), (⟨none, none, (.fad (.loc 0) 2)⟩, []), (⟨none, none, (.fad (.loc 0) 0)⟩, []), (⟨none, none, (.lod (.loc 0) none)⟩, []), (⟨none, none, (.ixa (.var [true, true]) (.cst (.int .i64 (.ofNat 0))) 2 1)⟩, []), (⟨none, none, (.lod (.loc 0) none)⟩, []), (⟨none, none, (.ixs (.loc 2) (.loc 0) 1)⟩, []), (⟨none, none, (.lod (.loc 0) none)⟩, []), (⟨none, none, (.nilck (.var []))⟩, []), (⟨none, none, (.fad (.loc 0) 2)⟩, []), (⟨none, none, (.fad (.loc 0) 0)⟩, []), (⟨none, none, (.lod (.loc 0) none)⟩, []), (⟨none, none, (.ixa (.var [true, true]) (.cst (.int .i64 (.ofNat 1))) 2 1)⟩, []), (⟨none, none, (.lod (.loc 0) none)⟩, []), (⟨none, none, (.ixs (.loc 2) (.loc 0) 1)⟩, []), (⟨none, none, (.lod (.loc 0) none)⟩, []), (⟨none, none, (.bin .eql 3 (.loc 8) (.loc 0))⟩, []), (⟨(some [false, true]), none, (.mov (.loc 0))⟩, [])]) (.seq (.seq (.reg false [(⟨(some [true, false, false, true, true]), none, (.lod (.var [true, true]) (some 2))⟩, []), (⟨(some [false, false, false, true, true]), none, (.mov (.cst (.int .i64 (.ofNat 0))))⟩, [])]) (.block 2 (.loop (.seq (.reg false [(⟨(some [true, true, true, false, true]), none, (.bin .lss 3 (.var [false, false, false, true, true]) (.cst (.int .i64 (.ofNat 2))))⟩, [])]) (.seq (.cond (.var [true, true, true, false, true]) .skip (.exit 2)) (.seq (.block 3 (.seq (.reg false [(⟨none, none, (.ix (.var [true, false, false, true, true]) (.var [false, false, false, true, true]) 2 1 none)⟩, []), (⟨(some [false, false]), none, (.mov (.loc 0))⟩, [])]) (.reg true [(⟨none, none, (.mov (.var [false, true]))⟩, []), (⟨none, (some (0, false)), (.mov (.var []))⟩, []), (⟨none, (some (1, false)), (.nilck (.loc 0))⟩, []), (⟨none, (some (2, false)), (.fad (.loc 0) 2)⟩, []), (⟨none, (some (3, false)), (.fad (.loc 0) 3)⟩, []), (⟨none, (some (4, false)), (.lod (.loc 0) none)⟩, []), (⟨none, (some (5, false)), (.mov (.var [false]))⟩, []), (⟨none, (some (6, false)), (.ixs (.loc 1) (.loc 0) 1)⟩, []), (⟨none, (some (7, false)), (.lod (.loc 0) none)⟩, []), (⟨none, (some (8, false)), (.mov (.var []))⟩, []), (⟨none, (some (9, false)), (.nilck (.loc 0))⟩, []), (⟨none, (some (10, false)), (.fad (.loc 0) 2)⟩, []), (⟨none, (some (11, false)), (.fad (.loc 0) 1)⟩, []), (⟨none, (some (12, false)), (.lod (.loc 0) none)⟩, []), (⟨none, (some (13, false)), (.mov (.var [false, false]))⟩, []), (⟨none, (some (14, false)), (.ixs (.loc 1) (.loc 0) 1)⟩, []), (⟨none, (some (15, false)), (.lod (.loc 0) none)⟩, []), (⟨none, (some (16, false)), (.mov (.var []))⟩, []), (⟨none, (some (17, false)), (.nilck (.loc 0))⟩, []), (⟨none, (some (18, false)), (.fad (.loc 0) 2)⟩, []), (⟨none, (some (19, false)), (.fad (.loc 0) 2)⟩, []), (⟨none, (some (20, false)), (.lod (.loc 0) none)⟩, []), (⟨none, (some (21, false)), (.mov (.var [false, false]))⟩, []), (⟨none, (some (22, false)), (.ixs (.loc 1) (.loc 0) 1)⟩, []), (⟨none, (some (23, false)), (.lod (.loc 0) none)⟩, []), (⟨none, (some (24, false)), (.call (.fn 29) [(.loc 16), (.loc 8), (.loc 0)])⟩, []), (⟨none, (some (25, false)), (.un .not (.loc 0))⟩, []), (⟨none, none, (.pick (.loc 26) (.cst (.bool true)) (.loc 0))⟩, []), (⟨(some [false, true]), none, (.mov (.loc 0))⟩, [])]))) (.reg false [(⟨none, none, (.bin .add 3 (.var [false, false, false, true, true]) (.cst (.int .i64 (.ofNat 1))))⟩, []), (⟨(some [false, false, false, true, true]), none, (.mov (.loc 0))⟩, [])]))))))) (.reg false [(⟨none, none, (.call (.fn 13) [(.var []), (.var [false, true]), (.cst (.int .i64 (.ofNat 3))), (.var [false]), (.cst (.int .i64 (.ofNat 0)))])⟩, [])]))))) (.reg false [(⟨none, none, (.bin .add 3 (.var [true, false, false]) (.cst (.int .i64 (.ofNat 1))))⟩, []), (⟨(some [true, false, false]), none, (.mov (.loc 0))⟩, [])])))))))⟩
def xLinesO : ACode := (.seq (.reg false [(⟨(some [false, false, false]), none, (.bin .lss 3 (.var [true, false, false]) (.var [false, true, false]))⟩, [])]) (.seq (.cond (.var [false, false, false]) .skip (.exit 0)) (.seq (.block 1 (.seq (.reg false [(⟨none, none, (.ixs (.var [true, true, false]) (.var [true, false, false]) 2)⟩, []), (⟨none, none, (.lod (.loc 0) (some 2))⟩, []), (⟨(some [true, true]), none, (.alc [(.int .i64 (.ofNat 0)), (.int .i64 (.ofNat 0))])⟩, []), (⟨(some [false]), none, (.mov (.var [true, false, false]))⟩, []), (⟨none, none, (.sto (.loc 1) (.loc 2) 2)⟩, [])]) (.seq (.reg true [(⟨none, none, (.nilck (.var []))⟩, []), (⟨none, none, (.fad (.loc 0) 2)⟩, []), (⟨none, none, (.fad (.loc 0) 0)⟩, []), (⟨none, none, (.lod (.loc 0) none)⟩, []), (⟨none, none, (.ixa (.var [true, true]) (.cst (.int .i64 (.ofNat 0))) 2 1)⟩, []), (⟨none, none, (.lod (.loc 0) none)⟩, []), (⟨none, none, (.ixs (.loc 2) (.loc 0) 1)⟩, []), (⟨none, none, (.lod (.loc 0) none)⟩, []), (⟨none, none, (.nilck (.var []))⟩, []), (⟨none, none, (.fad (.loc 0) 2)⟩, []), (⟨none, none, (.fad (.loc 0) 0)⟩, []), (⟨none, none, (.lod (.loc 0) none)⟩, []), (⟨none, none, (.ixa (.var [true, true]) (.cst (.int .i64 (.ofNat 1))) 2 1)⟩, []), (⟨none, none, (.lod (.loc 0) none)⟩, []), (⟨none, none, (.ixs (.loc 2) (.loc 0) 1)⟩, []), (⟨none, none, (.lod (.loc 0) none)⟩, []), (⟨none, none, (.bin .eql 3 (.loc 8) (.loc 0))⟩, []), (⟨(some [false, true]), none, (.mov (.loc 0))⟩, [])]) (.seq (.seq (.reg false [(⟨(some [true, false, false, true, true]), none, (.lod (.var [true, true]) (some 2))⟩, []), (⟨(some [false, false, false, true, true]), none, (.mov (.cst (.int .i64 (.ofNat 0))))⟩, [])]) (.block 2 (.loop (.seq (.reg false [(⟨(some [true, true, true, false, true]), none, (.bin .lss 3 (.var [false, false, false, true, true]) (.cst (.int .i64 (.ofNat 2))))⟩, [])]) (.seq (.cond (.var [true, true, true, false, true]) .skip (.exit 2)) (.seq (.block 3 (.seq (.reg false [(⟨none, none, (.ix (.var [true, false, false, true, true]) (.var [false, false, false, true, true]) 2 1 none)⟩, []), (⟨(some [false, false]), none, (.mov (.loc 0))⟩, [])]) (.reg true [(⟨none, none, (.mov (.var [false, true]))⟩, []), (⟨none, (some (0, false)), (.mov (.var []))⟩, []), (⟨none, (some (1, false)), (.nilck (.loc 0))⟩, []), (⟨none, (some (2, false)), (.fad (.loc 0) 2)⟩, []), (⟨none, (some (3, false)), (.fad (.loc 0) 3)⟩, []), (⟨none, (some (4, false)), (.lod (.loc 0) none)⟩, []), (⟨none, (some (5, false)), (.mov (.var [false]))⟩, []), (⟨none, (some (6, false)), (.ixs (.loc 1) (.loc 0) 1)⟩, []), (⟨none, (some (7, false)), (.lod (.loc 0) none)⟩, []), (⟨none, (some (8, false)), (.mov (.var []))⟩, []), (⟨none, (some (9, false)), (.nilck (.loc 0))⟩, []), (⟨none, (some (10, false)), (.fad (.loc 0) 2)⟩, []), (⟨none, (some (11, false)), (.fad (.loc 0) 1)⟩, []), (⟨none, (some (12, false)), (.lod (.loc 0) none)⟩, []), (⟨none, (some (13, false)), (.mov (.var [false, false]))⟩, []), (⟨none, (some (14, false)), (.ixs (.loc 1) (.loc 0) 1)⟩, []), (⟨none, (some (15, false)), (.lod (.loc 0) none)⟩, []), (⟨none, (some (16, false)), (.mov (.var []))⟩, []), (⟨none, (some (17, false)), (.nilck (.loc 0))⟩, []), (⟨none, (some (18, false)), (.fad (.loc 0) 2)⟩, []), (⟨none, (some (19, false)), (.fad (.loc 0) 2)⟩, []), (⟨none, (some (20, false)), (.lod (.loc 0) none)⟩, []), (⟨none, (some (21, false)), (.mov (.var [false, false]))⟩, []), (⟨none, (some (22, false)), (.ixs (.loc 1) (.loc 0) 1)⟩, []), (⟨none, (some (23, false)), (.lod (.loc 0) none)⟩, []), (⟨none, (some (24, false)), (.call (.fn 29) [(.loc 16), (.loc 8), (.loc 0)])⟩, []), (⟨none, (some (25, false)), (.un .not (.loc 0))⟩, []), (⟨none, none, (.pick (.loc 26) (.cst (.bool true)) (.loc 0))⟩, []), (⟨(some [false, true]), none, (.mov (.loc 0))⟩, [])]))) (.reg false [(⟨none, none, (.bin .add 3 (.var [false, false, false, true, true]) (.cst (.int .i64 (.ofNat 1))))⟩, []), (⟨(some [false, false, false, true, true]), none, (.mov (.loc 0))⟩, [])]))))))) (.reg false [(⟨none, none, (.call (.fn 13) [(.var []), (.var [false, true]), (.cst (.int .i64 (.ofNat 3))), (.var [false]), (.cst (.int .i64 (.ofNat 0)))])⟩, [])]))))) (.reg false [(⟨none, none, (.bin .add 3 (.var [true, false, false]) (.cst (.int .i64 (.ofNat 1))))⟩, []), (⟨(some [true, false, false]), none, (.mov (.loc 0))⟩, [])]))))
def xLinesI : ACode := (.seq (.reg false [(⟨(some [true, true, true, false, true]), none, (.bin .lss 3 (.var [false, false, false, true, true]) (.cst (.int .i64 (.ofNat 2))))⟩, [])]) (.seq (.cond (.var [true, true, true, false, true]) .skip (.exit 2)) (.seq (.block 3 (.seq (.reg false [(⟨none, none, (.ix (.var [true, false, false, true, true]) (.var [false, false, false, true, true]) 2 1 none)⟩, []), (⟨(some [false, false]), none, (.mov (.loc 0))⟩, [])]) (.reg true [(⟨none, none, (.mov (.var [false, true]))⟩, []), (⟨none, (some (0, false)), (.mov (.var []))⟩, []), (⟨none, (some (1, false)), (.nilck (.loc 0))⟩, []), (⟨none, (some (2, false)), (.fad (.loc 0) 2)⟩, []), (⟨none, (some (3, false)), (.fad (.loc 0) 3)⟩, []), (⟨none, (some (4, false)), (.lod (.loc 0) none)⟩, []), (⟨none, (some (5, false)), (.mov (.var [false]))⟩, []), (⟨none, (some (6, false)), (.ixs (.loc 1) (.loc 0) 1)⟩, []), (⟨none, (some (7, false)), (.lod (.loc 0) none)⟩, []), (⟨none, (some (8, false)), (.mov (.var []))⟩, []), (⟨none, (some (9, false)), (.nilck (.loc 0))⟩, []), (⟨none, (some (10, false)), (.fad (.loc 0) 2)⟩, []), (⟨none, (some (11, false)), (.fad (.loc 0) 1)⟩, []), (⟨none, (some (12, false)), (.lod (.loc 0) none)⟩, []), (⟨none, (some (13, false)), (.mov (.var [false, false]))⟩, []), (⟨none, (some (14, false)), (.ixs (.loc 1) (.loc 0) 1)⟩, []), (⟨none, (some (15, false)), (.lod (.loc 0) none)⟩, []), (⟨none, (some (16, false)), (.mov (.var []))⟩, []), (⟨none, (some (17, false)), (.nilck (.loc 0))⟩, []), (⟨none, (some (18, false)), (.fad (.loc 0) 2)⟩, []), (⟨none, (some (19, false)), (.fad (.loc 0) 2)⟩, []), (⟨none, (some (20, false)), (.lod (.loc 0) none)⟩, []), (⟨none, (some (21, false)), (.mov (.var [false, false]))⟩, []), (⟨none, (some (22, false)), (.ixs (.loc 1) (.loc 0) 1)⟩, []), (⟨none, (some (23, false)), (.lod (.loc 0) none)⟩, []), (⟨none, (some (24, false)), (.call (.fn 29) [(.loc 16), (.loc 8), (.loc 0)])⟩, []), (⟨none, (some (25, false)), (.un .not (.loc 0))⟩, []), (⟨none, none, (.pick (.loc 26) (.cst (.bool true)) (.loc 0))⟩, []), (⟨(some [false, true]), none, (.mov (.loc 0))⟩, [])]))) (.reg false [(⟨none, none, (.bin .add 3 (.var [false, false, false, true, true]) (.cst (.int .i64 (.ofNat 1))))⟩, []), (⟨(some [false, false, false, true, true]), none, (.mov (.loc 0))⟩, [])]))))

theorem LkS.stays {lb fb : Nat} {H0 : Heap} {n0 ev yv lv rv xv : Value} {fl : List Fl} (st : LkS lb H0 n0 ev yv lv rv xv H nx fl fb) (hn : nx ≤ nx') (h : ∀ c, c < nx → getP H' (at_ c) = getP H (at_ c)) : LkS lb H0 n0 ev yv lv rv xv H' nx' fl fb := by
  obtain ⟨⟨fv, hl, hfv⟩, hs, hlt⟩ := st
  refine ⟨⟨fv, (h lb hlt).trans hl, ?_⟩, fun c hc => (h c (by omega)).trans (hs c hc), by omega⟩
  rcases hfv with h1 | ⟨h1, h2, h3, h4⟩
  · exact .inl h1
  · exact .inr ⟨h1, h2, by omega, (h fb h3).trans h4⟩

namespace Vw
/-- a line that misses a bar -/
def nw (w : Vw) (e v : Nat) : Bool := decide (¬ (w.L v ≤ w.X e ∧ w.X e ≤ w.R v))
end Vw
/-- both ends of an edge -/
theorem linesI (h29 : A.funcs 29 = some xWithin) (hh : ∀ g, g ≠ 4 → ∀ vs H nx, A.hook g vs H nx = none) {lb : Nat} {H0 : Heap} {n0 ev yv lv rv xv : Value} {fl : List Fl} {fb : Nat} (st : LkS lb H0 n0 ev yv lv rv xv H nx fl fb) {w : Vw} (vw : VwS w H0 lb n0 ev yv lv rv xv) {e : Nat} (he : e < w.m) {t : Bool} {x11 x12 x13 : Value}
    (hexit : ∀ σ, SubS [([], .pointer (some ⟨lb, 0, none⟩)), ([false], .int .i64 (e : Int)), ([true, true, false], x11), ([false, true, false], x12), ([true, false, false], x13), ([false, true], .bool (t || w.nw e (w.a e) || w.nw e (w.b e)))] σ → Q (.exit 2) σ H nx) :
    WC A (.loop xLinesI) [([], .pointer (some ⟨lb, 0, none⟩)), ([false], .int .i64 (e : Int)), ([true, true, false], x11), ([false, true, false], x12), ([true, false, false], x13), ([false, true], .bool t), ([true, false, false, true, true], .agg ⟨[.int .i64 (w.a e : Int), .int .i64 (w.b e : Int)]⟩), ([false, false, false, true, true], .int .i64 (Int.ofNat 0))] H nx Q := by
  refine WC.loop (α := Nat × Bool) (fun k => [([], .pointer (some ⟨lb, 0, none⟩)), ([false], .int .i64 (e : Int)), ([true, true, false], x11), ([false, true, false], x12), ([true, false, false], x13), ([false, true], .bool k.2), ([true, false, false, true, true], .agg ⟨[.int .i64 (w.a e : Int), .int .i64 (w.b e : Int)]⟩), ([false, false, false, true, true], .int .i64 ((k.1 : Nat) : Int))])
    (fun k H' nx2 => H' = H ∧ nx2 = nx ∧ k.1 ≤ 2 ∧ (k.1 = 0 → k.2 = t) ∧ (k.1 = 1 → k.2 = (t || w.nw e (w.a e))) ∧ (k.1 = 2 → k.2 = (t || w.nw e (w.a e) || w.nw e (w.b e)))) (fun k => 2 - k.1)
    ?_ (0, t) (.cons rfl (.cons rfl (.cons rfl (.cons rfl (.cons rfl (.cons rfl (.cons rfl (.cons rfl (.nil _))))))))) ⟨rfl, rfl, Nat.zero_le _, fun _ => rfl, fun h => absurd (show (0 : Nat) = 1 from h) (by omega), fun h => absurd (show (0 : Nat) = 2 from h) (by omega)⟩
  rintro ⟨j, u⟩ _ _ ⟨rfl, rfl, hj, hj0, hj1, hj2⟩
  simp only at hj hj0 hj1 hj2 ⊢
  have hh29 := hh 29 (by decide)
  obtain ⟨⟨fv, hl, hfv⟩, hs, hlt⟩ := st
  obtain ⟨hn, ee, ey, el, er, ex, hnn, hmm, ha, hb⟩ := vw.same hs (Nat.le_refl _)
  have hae := ha e he
  have hbe := hb e he
  obtain ⟨base, lc, rfl, h1⟩ := el
  obtain ⟨lb', lo, lds, rfl, hlb, hlr, hld⟩ := h1 (by omega)
  obtain ⟨base, rc, rfl, h1⟩ := er
  obtain ⟨rb, ro, rds, rfl, hrb, hrr, hrd⟩ := h1 (by omega)
  obtain ⟨base, xc, rfl, h1⟩ := ex
  obtain ⟨xb, xo, xds, rfl, hxb, hxr, hxd⟩ := h1 (by omega)
  have q3 := hxd e he
  clear hfv
  unfold xLinesI
  rcases (show j = 0 ∨ j = 1 ∨ j = 2 by omega) with rfl | rfl | rfl
  · have q1 := hld (w.a e) hae
    have q2 := hrd (w.a e) hae
    have hu := hj0 rfl
    have hc : ([.int .i64 (w.a e : Int), .int .i64 (w.b e : Int)] : List Value)[0 * 1]? = some (.int .i64 (w.a e : Int)) := rfl
    cases u with
    | true =>
      repeat' (first | ((first | refine WO.n rfl ?_ | refine WO.k rfl ?_); (first | refine Then.of (Act.mov rfl) ?_ | refine Then.of (Act.pick rfl rfl rfl) ?_ | refine Then.of (Act.ix rfl rfl (by omega) (partOf_one (by assumption))) ?_ | ((refine Then.both (Act.lss rfl rfl) (fun h => ?_) (fun h => ?_)) <;> (try simp only [Int.ofNat_eq_natCast] at h)) | refine Then.of (Act.addN rfl rfl (by omega)) ?_)) | refine WO.gNo rfl ?_ | with_reducible refine WO.nil ?_ | with_reducible refine WC.reg ?_ | with_reducible refine WC.drawn ?_ | with_reducible refine WC.seq ?_ | with_reducible refine WC.skip ?_ | with_reducible refine WC.exit ?_ | with_reducible refine WC.block ?_ | refine WC.condT rfl ?_ | refine WC.condF rfl ?_ | with_reducible refine stN ?_ | with_reducible refine stE ?_ | with_reducible refine bkN ?_ | with_reducible refine drN ?_)
      rotate_left
      exfalso; omega
      refine ⟨(1, _), by show 2 - 1 < 2 - 0; omega, .cons rfl (.cons rfl (.cons rfl (.cons rfl (.cons rfl (.cons rfl (.cons rfl (.cons rfl (.nil _)))))))), rfl, rfl, by decide, fun h => absurd (show (1 : Nat) = 0 from h) (by omega), fun _ => ?_, fun h => absurd (show (1 : Nat) = 2 from h) (by omega)⟩
      show true = (t || w.nw e (w.a e))
      rw [← hu]; rfl
    | false =>
      repeat' (first | ((first | refine WO.n rfl ?_ | refine WO.k rfl ?_); (first | refine Then.of (Act.mov rfl) ?_ | refine Then.of (Act.fad rfl) ?_ | refine Then.of (Act.lod rfl (by (with_reducible (first | exact Rd.self | assumption | exact Rd.own (by assumption) | ((repeat ((apply Rd.skip); (with_unfolding_all omega))); first | exact Rd.self | assumption | exact Rd.own (by assumption))))) rfl) ?_ | refine Then.of (Act.lod rfl (by (with_reducible (first | exact Rd.self | assumption | exact Rd.own (by assumption) | ((repeat ((apply Rd.skip); (with_unfolding_all omega))); first | exact Rd.self | assumption | exact Rd.own (by assumption))))) (partOf_one (by assumption))) ?_ | refine Then.of (Act.ixs rfl rfl (by omega)) ?_ | refine Then.of (Act.ix rfl rfl (by omega) (partOf_one (by assumption))) ?_ | ((refine Then.both (Act.lss rfl rfl) (fun h => ?_) (fun h => ?_)) <;> (try simp only [Int.ofNat_eq_natCast] at h)) | refine Then.of (Act.nilck rfl) ?_)) | refine WO.gYes rfl ?_ | with_reducible refine WO.nil ?_ | with_reducible refine WC.reg ?_ | with_reducible refine WC.drawn ?_ | with_reducible refine WC.seq ?_ | with_reducible refine WC.skip ?_ | with_reducible refine WC.exit ?_ | with_reducible refine WC.block ?_ | refine WC.condT rfl ?_ | refine WC.condF rfl ?_ | with_reducible refine stN ?_ | with_reducible refine stE ?_)
      rotate_left
      exfalso; omega
      refine WO.cn rfl ?_
      refine within_both h29 hh29 (w.L (w.a e)) (w.R (w.a e)) (fun c1 => ?_) (fun c1 => ?_)
      · repeat' (first | ((first | refine WO.n rfl ?_ | refine WO.k rfl ?_); (first | refine Then.of (Act.mov rfl) ?_ | refine Then.of (Act.not rfl) ?_ | refine Then.of (Act.pick rfl rfl rfl) ?_ | refine Then.of (Act.addN rfl rfl (by omega)) ?_)) | refine WO.gYes rfl ?_ | with_reducible refine WO.nil ?_ | with_reducible refine WC.reg ?_ | with_reducible refine stN ?_ | with_reducible refine bkN ?_ | with_reducible refine drN ?_)
        refine ⟨(1, _), by show 2 - 1 < 2 - 0; omega, .cons rfl (.cons rfl (.cons rfl (.cons rfl (.cons rfl (.cons rfl (.cons rfl (.cons rfl (.nil _)))))))), rfl, rfl, by decide, fun h => absurd (show (1 : Nat) = 0 from h) (by omega), fun _ => ?_, fun h => absurd (show (1 : Nat) = 2 from h) (by omega)⟩
        show false = (t || w.nw e (w.a e))
        rw [← hu, show w.nw e (w.a e) = false from decide_eq_false (fun h => h c1)]; rfl
      · repeat' (first | ((first | refine WO.n rfl ?_ | refine WO.k rfl ?_); (first | refine Then.of (Act.mov rfl) ?_ | refine Then.of (Act.not rfl) ?_ | refine Then.of (Act.pick rfl rfl rfl) ?_ | refine Then.of (Act.addN rfl rfl (by omega)) ?_)) | refine WO.gYes rfl ?_ | with_reducible refine WO.nil ?_ | with_reducible refine WC.reg ?_ | with_reducible refine stN ?_ | with_reducible refine bkN ?_ | with_reducible refine drN ?_)
        refine ⟨(1, _), by show 2 - 1 < 2 - 0; omega, .cons rfl (.cons rfl (.cons rfl (.cons rfl (.cons rfl (.cons rfl (.cons rfl (.cons rfl (.nil _)))))))), rfl, rfl, by decide, fun h => absurd (show (1 : Nat) = 0 from h) (by omega), fun _ => ?_, fun h => absurd (show (1 : Nat) = 2 from h) (by omega)⟩
        show true = (t || w.nw e (w.a e))
        rw [← hu, show w.nw e (w.a e) = true from decide_eq_true c1]; rfl
  · have q1 := hld (w.b e) hbe
    have q2 := hrd (w.b e) hbe
    have hu := hj1 rfl
    have hc : ([.int .i64 (w.a e : Int), .int .i64 (w.b e : Int)] : List Value)[1 * 1]? = some (.int .i64 (w.b e : Int)) := rfl
    cases u with
    | true =>
      repeat' (first | ((first | refine WO.n rfl ?_ | refine WO.k rfl ?_); (first | refine Then.of (Act.mov rfl) ?_ | refine Then.of (Act.pick rfl rfl rfl) ?_ | refine Then.of (Act.ix rfl rfl (by omega) (partOf_one (by assumption))) ?_ | ((refine Then.both (Act.lss rfl rfl) (fun h => ?_) (fun h => ?_)) <;> (try simp only [Int.ofNat_eq_natCast] at h)) | refine Then.of (Act.addN rfl rfl (by omega)) ?_)) | refine WO.gNo rfl ?_ | with_reducible refine WO.nil ?_ | with_reducible refine WC.reg ?_ | with_reducible refine WC.drawn ?_ | with_reducible refine WC.seq ?_ | with_reducible refine WC.skip ?_ | with_reducible refine WC.exit ?_ | with_reducible refine WC.block ?_ | refine WC.condT rfl ?_ | refine WC.condF rfl ?_ | with_reducible refine stN ?_ | with_reducible refine stE ?_ | with_reducible refine bkN ?_ | with_reducible refine drN ?_)
      rotate_left
      exfalso; omega
      refine ⟨(2, _), by show 2 - 2 < 2 - 1; omega, .cons rfl (.cons rfl (.cons rfl (.cons rfl (.cons rfl (.cons rfl (.cons rfl (.cons rfl (.nil _)))))))), rfl, rfl, by decide, fun h => absurd (show (2 : Nat) = 0 from h) (by omega), fun h => absurd (show (2 : Nat) = 1 from h) (by omega), fun _ => ?_⟩
      show true = (t || w.nw e (w.a e) || w.nw e (w.b e))
      rw [← hu]; rfl
    | false =>
      repeat' (first | ((first | refine WO.n rfl ?_ | refine WO.k rfl ?_); (first | refine Then.of (Act.mov rfl) ?_ | refine Then.of (Act.fad rfl) ?_ | refine Then.of (Act.lod rfl (by (with_reducible (first | exact Rd.self | assumption | exact Rd.own (by assumption) | ((repeat ((apply Rd.skip); (with_unfolding_all omega))); first | exact Rd.self | assumption | exact Rd.own (by assumption))))) rfl) ?_ | refine Then.of (Act.lod rfl (by (with_reducible (first | exact Rd.self | assumption | exact Rd.own (by assumption) | ((repeat ((apply Rd.skip); (with_unfolding_all omega))); first | exact Rd.self | assumption | exact Rd.own (by assumption))))) (partOf_one (by assumption))) ?_ | refine Then.of (Act.ixs rfl rfl (by omega)) ?_ | refine Then.of (Act.ix rfl rfl (by omega) (partOf_one (by assumption))) ?_ | ((refine Then.both (Act.lss rfl rfl) (fun h => ?_) (fun h => ?_)) <;> (try simp only [Int.ofNat_eq_natCast] at h)) | refine Then.of (Act.nilck rfl) ?_)) | refine WO.gYes rfl ?_ | with_reducible refine WO.nil ?_ | with_reducible refine WC.reg ?_ | with_reducible refine WC.drawn ?_ | with_reducible refine WC.seq ?_ | with_reducible refine WC.skip ?_ | with_reducible refine WC.exit ?_ | with_reducible refine WC.block ?_ | refine WC.condT rfl ?_ | refine WC.condF rfl ?_ | with_reducible refine stN ?_ | with_reducible refine stE ?_)
      rotate_left
      exfalso; omega
      refine WO.cn rfl ?_
      refine within_both h29 hh29 (w.L (w.b e)) (w.R (w.b e)) (fun c1 => ?_) (fun c1 => ?_)
      · repeat' (first | ((first | refine WO.n rfl ?_ | refine WO.k rfl ?_); (first | refine Then.of (Act.mov rfl) ?_ | refine Then.of (Act.not rfl) ?_ | refine Then.of (Act.pick rfl rfl rfl) ?_ | refine Then.of (Act.addN rfl rfl (by omega)) ?_)) | refine WO.gYes rfl ?_ | with_reducible refine WO.nil ?_ | with_reducible refine WC.reg ?_ | with_reducible refine stN ?_ | with_reducible refine bkN ?_ | with_reducible refine drN ?_)
        refine ⟨(2, _), by show 2 - 2 < 2 - 1; omega, .cons rfl (.cons rfl (.cons rfl (.cons rfl (.cons rfl (.cons rfl (.cons rfl (.cons rfl (.nil _)))))))), rfl, rfl, by decide, fun h => absurd (show (2 : Nat) = 0 from h) (by omega), fun h => absurd (show (2 : Nat) = 1 from h) (by omega), fun _ => ?_⟩
        show false = (t || w.nw e (w.a e) || w.nw e (w.b e))
        rw [← hu, show w.nw e (w.b e) = false from decide_eq_false (fun h => h c1)]; rfl
      · repeat' (first | ((first | refine WO.n rfl ?_ | refine WO.k rfl ?_); (first | refine Then.of (Act.mov rfl) ?_ | refine Then.of (Act.not rfl) ?_ | refine Then.of (Act.pick rfl rfl rfl) ?_ | refine Then.of (Act.addN rfl rfl (by omega)) ?_)) | refine WO.gYes rfl ?_ | with_reducible refine WO.nil ?_ | with_reducible refine WC.reg ?_ | with_reducible refine stN ?_ | with_reducible refine bkN ?_ | with_reducible refine drN ?_)
        refine ⟨(2, _), by show 2 - 2 < 2 - 1; omega, .cons rfl (.cons rfl (.cons rfl (.cons rfl (.cons rfl (.cons rfl (.cons rfl (.cons rfl (.nil _)))))))), rfl, rfl, by decide, fun h => absurd (show (2 : Nat) = 0 from h) (by omega), fun h => absurd (show (2 : Nat) = 1 from h) (by omega), fun _ => ?_⟩
        show true = (t || w.nw e (w.a e) || w.nw e (w.b e))
        rw [← hu, show w.nw e (w.b e) = true from decide_eq_true c1]; rfl
  · obtain rfl := hj2 rfl
    repeat' (first | ((first | refine WO.n rfl ?_ | refine WO.k rfl ?_); ((refine Then.both (Act.lss rfl rfl) (fun h => ?_) (fun h => ?_)) <;> (try simp only [Int.ofNat_eq_natCast] at h))) | with_reducible refine WO.nil ?_ | with_reducible refine WC.reg ?_ | with_reducible refine WC.seq ?_ | with_reducible refine WC.skip ?_ | with_reducible refine WC.exit ?_ | with_reducible refine WC.block ?_ | refine WC.condT rfl ?_ | refine WC.condF rfl ?_ | with_reducible refine stN ?_ | with_reducible refine stE ?_)
    exfalso; omega
    exact hexit _ (.cons rfl (.cons rfl (.cons rfl (.cons rfl (.cons rfl (.cons rfl (.nil _)))))))
theorem take?_two {cs : List Value} {o : Nat} {u v : Value} (h1 : cs[o]? = some u) (h2 : cs[o + 1]? = some v) : take? 2 (cs.drop o) = some [u, v] := by
  obtain ⟨q1, r1⟩ := List.getElem?_eq_some_iff.1 h1
  obtain ⟨q2, r2⟩ := List.getElem?_eq_some_iff.1 h2
  rw [take?_of _ _ (by rw [List.length_drop]; omega), List.drop_eq_getElem_cons q1, List.drop_eq_getElem_cons q2, r1, r2]
  rfl
theorem f3_len (w : Vw) (k : Nat) : (w.f3 k).length ≤ k * 1 := row1_len (fun _ => sel_len _ _) k

theorem linesO (h13 : A.funcs 13 = some xFind) (h29 : A.funcs 29 = some xWithin) (hh : ∀ g, g ≠ 4 → ∀ vs H nx, A.hook g vs H nx = none) {lb : Nat} {H0 : Heap} {n0 yv lv rv xv : Value} {base : Option Addr} {ec fb : Nat} {w : Vw} (st : LkS lb H0 n0 (.slice base w.m ec) yv lv rv xv H nx [] fb) (vw : VwS w H0 lb n0 (.slice base w.m ec) yv lv rv xv)
    (hexit : ∀ σ H' nx' fb, SubS [([], .pointer (some ⟨lb, 0, none⟩))] σ → nx ≤ nx' → LkS lb H0 n0 (.slice base w.m ec) yv lv rv xv H' nx' (w.f3 w.m) fb → Q (.exit 0) σ H' nx') :
    WC A (.loop xLinesO) [([], .pointer (some ⟨lb, 0, none⟩)), ([true, true, false], .slice base w.m ec), ([false, true, false], .int .i64 (w.m : Int)), ([true, false, false], .int .i64 0)] H nx Q := by
  refine WC.loop (α := Nat × Nat) (fun k => [([], .pointer (some ⟨lb, 0, none⟩)), ([true, true, false], .slice base w.m ec), ([false, true, false], .int .i64 (w.m : Int)), ([true, false, false], .int .i64 ((k.1 : Nat) : Int))])
    (fun k H' nx' => k.1 ≤ w.m ∧ nx ≤ nx' ∧ LkS lb H0 n0 (.slice base w.m ec) yv lv rv xv H' nx' (w.f3 k.1) k.2) (fun k => w.m - k.1)
    ?_ (0, fb) (.cons rfl (.cons rfl (.cons rfl (.cons rfl (.nil _))))) ⟨Nat.zero_le _, Nat.le_refl _, st⟩
  rintro ⟨k, fb⟩ H1 nx2 ⟨hk, hnx, st1⟩
  simp only at hk st1 ⊢
  have hlen := f3_len w k
  have hh13 := hh 13 (by decide)
  have hmm := vw.hm
  unfold xLinesO
  have hlt := st1.lt
  have hvw := vw.same st1.same (Nat.le_refl _)
  repeat' (first | ((first | refine WO.n rfl ?_ | refine WO.k rfl ?_); ((refine Then.both (Act.lss rfl rfl) (fun h => ?_) (fun h => ?_)) <;> (try simp only [Int.ofNat_eq_natCast] at h))) | with_reducible refine WO.nil ?_ | with_reducible refine WC.reg ?_ | with_reducible refine WC.seq ?_ | with_reducible refine WC.skip ?_ | with_reducible refine WC.exit ?_ | with_reducible refine WC.block ?_ | refine WC.condT rfl ?_ | refine WC.condF rfl ?_ | with_reducible refine stN ?_ | with_reducible refine stE ?_)
  · have hk' : k < w.m := by omega
    obtain ⟨hn, ee, ey, el, er, ex, hnn, hmm, ha, hb⟩ := hvw
    have hae := ha k hk'
    have hbe := hb k hk'
    obtain ⟨base, ec, e1, h1⟩ := ee
    cases e1
    obtain ⟨eb, eo, eds, rfl, heb, her, hed⟩ := h1 (by omega)
    obtain ⟨base, yc, rfl, h1⟩ := ey
    obtain ⟨yb, yo, yds, rfl, hyb, hyr, hyd⟩ := h1 (by omega)
    have q0 := take?_two (hed k hk').1 (hed k hk').2
    have q3 := hyd _ hae
    have q4 := hyd _ hbe
    obtain ⟨fv, hl, _⟩ := st1.own
    repeat' (first | ((first | refine WO.n rfl ?_ | refine WO.k rfl ?_); (first | refine Then.of (Act.mov rfl) ?_ | refine Then.of (Act.fad rfl) ?_ | refine Then.of Act.alc ?_ | refine Then.of (Act.lod rfl (by (with_reducible (first | exact Rd.self | assumption | exact Rd.own (by assumption) | ((repeat ((apply Rd.skip); (with_unfolding_all omega))); first | exact Rd.self | assumption | exact Rd.own (by assumption))))) rfl) ?_ | refine Then.of (Act.lod rfl (by (with_reducible (first | exact Rd.self | assumption | exact Rd.own (by assumption) | ((repeat ((apply Rd.skip); (with_unfolding_all omega))); first | exact Rd.self | assumption | exact Rd.own (by assumption))))) (partOf_one (by assumption))) ?_ | refine Then.of (Act.lod rfl (by (with_reducible (first | exact Rd.self | assumption | exact Rd.own (by assumption) | ((repeat ((apply Rd.skip); (with_unfolding_all omega))); first | exact Rd.self | assumption | exact Rd.own (by assumption))))) (partOf_agg (by assumption))) ?_ | refine Then.of (Act.ixs rfl rfl (by omega)) ?_ | refine Then.of (Act.ixa rfl rfl (by omega)) ?_ | refine Then.of (Act.stoN rfl rfl rfl (by omega) rfl (by (with_reducible (first | exact get_self | assumption | ((repeat ((apply get_skip); (with_unfolding_all omega))); first | exact get_self | assumption)))) (by (first | omega | decide | (simp only [List.length_map, List.length_append, List.length_set, List.length_cons, List.length_nil, List.length_replicate, List.length_range]; omega)))) ?_ | ((refine Then.both (Act.eqlI rfl rfl) (fun h => ?_) (fun h => ?_)) <;> (try simp only [Int.ofNat_eq_natCast] at h)) | refine Then.of (Act.nilck rfl) ?_)) | with_reducible refine WO.nil ?_ | with_reducible refine WC.reg ?_ | with_reducible refine WC.drawn ?_ | with_reducible refine WC.seq ?_ | with_reducible refine WC.block ?_ | with_reducible refine stN ?_ | with_reducible refine drN ?_)
    all_goals
      refine WC.sub (.cons rfl (.cons rfl (.cons rfl (.cons rfl (.cons rfl (.cons rfl (.cons rfl (.cons rfl (.nil _))))))))) (linesI (w := w) h29 hh (st1.stays (nx' := nx2 + 1) (Nat.le_succ _) (fun c hc => by rw [get_set1, if_neg (by omega), get_set1, if_neg (by omega)])) vw hk' (fun σ hσ => ?_))
      refine bkE (stN (WC.sub hσ ?_))
      repeat' (with_reducible refine WC.reg ?_)
      refine WO.cn rfl ?_
      refine (find_spec h13 hh13 (st1.stays (nx' := nx2 + 1) (Nat.le_succ _) (fun c hc => by rw [get_set1, if_neg (by omega), get_set1, if_neg (by omega)])) (by omega)).of ?_
      rintro _ H3 nx3 ⟨hn3, fb3, st3, _, _⟩
      repeat' (first | ((first | refine WO.n rfl ?_ | refine WO.k rfl ?_); (first | refine Then.of (Act.mov rfl) ?_ | refine Then.of (Act.addN rfl rfl (by omega)) ?_)) | with_reducible refine WO.nil ?_ | with_reducible refine WC.reg ?_ | with_reducible refine stN ?_ | with_reducible refine bkN ?_)
      refine ⟨(k + 1, fb3), by show w.m - (k + 1) < w.m - k; omega, .cons rfl (.cons rfl (.cons rfl (.cons rfl (.nil _)))), by show k + 1 ≤ _; omega, by omega, ?_⟩
      show LkS _ _ _ _ _ _ _ _ _ _ (row1 _ (k + 1)) fb3
      rw [row1_succ]
      (first
        | (rw [show w.b3 k = (true || w.nw k (w.a k) || w.nw k (w.b k)) from by rw [Bool.true_or, Bool.true_or]; exact decide_eq_true (by omega)]; exact st3)
        | (rw [show w.b3 k = (false || w.nw k (w.a k) || w.nw k (w.b k)) from by unfold Vw.b3 Vw.nw; rw [Bool.false_or, ← Bool.decide_or, decide_eq_decide]; omega]; exact st3))
  · have hkn : k = w.m := by omega
    subst hkn
    exact hexit _ _ _ _ (.cons rfl (.nil _)) hnx st1

theorem lines_spec {g : FuncId} (hf : A.funcs g = some xLines) (h13 : A.funcs 13 = some xFind) (h29 : A.funcs 29 = some xWithin) (hh : ∀ g, g ≠ 4 → ∀ vs H nx, A.hook g vs H nx = none) (hg : g ≠ 4) {lb fb : Nat} {H0 : Heap} {n0 ev yv lv rv xv : Value} (st : LkS lb H0 n0 ev yv lv rv xv H nx [] fb) {w : Vw} (vw : VwS w H0 lb n0 ev yv lv rv xv) :
    WF A g [.pointer (some ⟨lb, 0, none⟩)] H nx fun _ H' nx' => nx ≤ nx' ∧ ∃ fb, LkS lb H0 n0 ev yv lv rv xv H' nx' (w.f3 w.m) fb := by
  refine WF.enter (hh g hg _ _ _) hf ?_
  have st0 := st
  obtain ⟨⟨fv, hl, hfv⟩, hs, hlt⟩ := st
  obtain rfl := vw.n
  obtain ⟨base, ec, rfl, _⟩ := vw.e
  repeat' (first | ((first | refine WO.n rfl ?_ | refine WO.k rfl ?_); (first | refine Then.of (Act.mov rfl) ?_ | refine Then.of (Act.fad rfl) ?_ | refine Then.of (Act.len rfl) ?_ | refine Then.of (Act.lod rfl (by (with_reducible (first | exact Rd.self | assumption | exact Rd.own (by assumption) | ((repeat ((apply Rd.skip); (with_unfolding_all omega))); first | exact Rd.self | assumption | exact Rd.own (by assumption))))) rfl) ?_ | refine Then.of (Act.nilck rfl) ?_)) | with_reducible refine WO.nil ?_ | with_reducible refine WC.reg ?_ | with_reducible refine WC.seq ?_ | with_reducible refine WC.block ?_ | with_reducible refine stN ?_)
  refine WC.sub (.cons rfl (.cons rfl (.cons rfl (.cons rfl (.nil _))))) (linesO h13 h29 hh st0 vw fun σ H' nx' fb hσ hn hst => ?_)
  exact bkE (fin_normal (vs := []) rfl ⟨hn, fb, hst⟩)
end Go.Eng
