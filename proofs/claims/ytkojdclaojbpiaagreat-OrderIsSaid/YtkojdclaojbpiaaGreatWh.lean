import Derived.Test.YtkojdclaojbpiaaGreatWg
/- The reference's 'IsSt'. -/
namespace Go.Eng
variable {A : AProg} {H : Heap} {nx : Nat} {σ : Slots} {Q : Post}
set_option maxRecDepth 100000

def xRIs : AFunc := ⟨[((.var [false, true]), none)], (.seq (.reg false [(⟨(some [false]), none, (.box (.var []))⟩, []), (⟨(some [false, true]), none, (.mov (.cst (.bool false)))⟩, [])]) (.seq (.reg false [(⟨none, none, (.fad (.var [false]) 0)⟩, []), (⟨none, none, (.lod (.loc 0) none)⟩, []), (⟨none, none, (.call (.fn 23) [(.loc 0), (.var [true])])⟩, []), (⟨none, none, (.ext (.loc 0) 0)⟩, []), (⟨none, none, (.ext (.loc 1) 1)⟩, []), (⟨(some [true, false]), none, (.mov (.loc 1))⟩, []), (⟨(some [false, false]), none, (.mov (.loc 1))⟩, [])]) (.seq (.seq (.reg false [(⟨none, none, (.un .not (.var [false, false]))⟩, []), (⟨none, none, (.mov (.loc 0))⟩, []), (⟨none, (some (0, false)), (.fad (.var [false]) 0)⟩, []), (⟨none, (some (1, false)), (.lod (.loc 0) none)⟩, []), (⟨none, (some (2, false)), (.bin .lss 3 (.loc 0) (.cst (.int .i64 (.ofNat 2))))⟩, []), (⟨(some [false, false, true, false]), none, (.pick (.loc 3) (.cst (.bool true)) (.loc 0))⟩, [])]) (.cond (.var [false, false, true, false]) (.seq (.reg false [(⟨(some [false, true]), none, (.mov (.cst (.bool false)))⟩, [])]) .ret) .skip)) (.seq (.reg true [(⟨none, none, (.fad (.var [false]) 0)⟩, []), (⟨none, none, (.lod (.loc 0) none)⟩, []), (⟨none, none, (.mks 1 1 [(.bool false)] (.loc 0) (.loc 0))⟩, []), (⟨none, none, (.fad (.var [false]) 0)⟩, []), (⟨none, none, (.lod (.loc 0) none)⟩, []), (⟨none, none, (.mks 1 1 [(.bool false)] (.loc 0) (.loc 0))⟩, []), (⟨(some [true, true, true]), none, (.mov (.loc 3))⟩, []), (⟨(some [false, true, true]), none, (.mov (.loc 1))⟩, [])]) (.seq (.seq (.reg false [(⟨(some [true, false, true]), none, (.mov (.cst (.int .i64 (.ofNat 0))))⟩, [])]) (.block 0 (.loop (.seq (.seq (.reg false [(⟨none, none, (.fad (.var [false]) 1)⟩, []), (⟨none, none, (.lod (.loc 0) none)⟩, []), (⟨none, none, (.len (.loc 0))⟩, []), (⟨none, none, (.bin .mul 3 (.cst (.int .i64 (.ofNat 2))) (.loc 0))⟩, []), (⟨(some [false, false, false, true, true]), none, (.bin .lss 3 (.var [true, false, true]) (.loc 0))⟩, [])]) (.cond (.var [false, false, false, true, true]) .skip (.exit 0))) (.seq (.block 1 (.seq (.reg true [(⟨none, none, (.lod (.var [false]) (some 2))⟩, []), (⟨none, none, (.lod (.var [false]) (some 2))⟩, []), (⟨none, none, (.call (.fn 24) [(.loc 1), (.var [true, false, true])])⟩, [⟨none, (.lod (.var [false]) (some 2)), 1⟩]), (⟨none, none, (.call (.fn 25) [(.loc 1), (.var [true, false, true])])⟩, []), (⟨(some [false, false, true]), none, (.mov (.loc 1))⟩, []), (⟨(some [true, true, false]), none, (.mov (.loc 1))⟩, [])]) (.seq (.reg true [(⟨none, none, (.ixs (.var [true, true, true]) (.var [false, false, true]) 1)⟩, []), (⟨none, none, (.lod (.loc 0) none)⟩, []), (⟨none, none, (.mov (.loc 0))⟩, []), (⟨none, (some (0, false)), (.mov (.var [true, false]))⟩, []), (⟨none, (some (1, false)), (.mov (.var [true, true, false]))⟩, []), (⟨none, (some (2, false)), (.ixs (.loc 1) (.loc 0) 1)⟩, []), (⟨none, (some (3, false)), (.lod (.loc 0) none)⟩, []), (⟨none, (some (4, false)), (.mov (.var [true, false]))⟩, []), (⟨none, (some (5, false)), (.mov (.var [false, false, true]))⟩, []), (⟨none, (some (6, false)), (.ixs (.loc 1) (.loc 0) 1)⟩, []), (⟨none, (some (7, false)), (.lod (.loc 0) none)⟩, []), (⟨none, (some (8, false)), (.bin .lss 3 (.loc 4) (.loc 0))⟩, []), (⟨none, none, (.pick (.loc 9) (.cst (.bool true)) (.loc 0))⟩, []), (⟨none, none, (.ixs (.var [true, true, true]) (.var [false, false, true]) 1)⟩, []), (⟨none, none, (.sto (.loc 0) (.loc 1) 1)⟩, [])]) (.reg true [(⟨none, none, (.ixs (.var [false, true, true]) (.var [false, false, true]) 1)⟩, []), (⟨none, none, (.lod (.loc 0) none)⟩, []), (⟨none, none, (.mov (.loc 0))⟩, []), (⟨none, (some (0, false)), (.mov (.var [true, false]))⟩, []), (⟨none, (some (1, false)), (.mov (.var [true, true, false]))⟩, []), (⟨none, (some (2, false)), (.ixs (.loc 1) (.loc 0) 1)⟩, []), (⟨none, (some (3, false)), (.lod (.loc 0) none)⟩, []), (⟨none, (some (4, false)), (.mov (.var [true, false]))⟩, []), (⟨none, (some (5, false)), (.mov (.var [false, false, true]))⟩, []), (⟨none, (some (6, false)), (.ixs (.loc 1) (.loc 0) 1)⟩, []), (⟨none, (some (7, false)), (.lod (.loc 0) none)⟩, []), (⟨none, (some (8, false)), (.bin .gtr 3 (.loc 4) (.loc 0))⟩, []), (⟨none, none, (.pick (.loc 9) (.cst (.bool true)) (.loc 0))⟩, []), (⟨none, none, (.ixs (.var [false, true, true]) (.var [false, false, true]) 1)⟩, []), (⟨none, none, (.sto (.loc 0) (.loc 1) 1)⟩, [])])))) (.reg false [(⟨none, none, (.bin .add 3 (.var [true, false, true]) (.cst (.int .i64 (.ofNat 1))))⟩, []), (⟨(some [true, false, true]), none, (.mov (.loc 0))⟩, [])])))))) (.seq (.seq (.reg false [(⟨(some [false, true, false]), none, (.mov (.cst (.int .i64 (.ofNat 1))))⟩, [])]) (.block 2 (.loop (.seq (.seq (.reg false [(⟨none, none, (.bin .add 3 (.var [false, true, false]) (.cst (.int .i64 (.ofNat 1))))⟩, []), (⟨none, none, (.fad (.var [false]) 0)⟩, []), (⟨none, none, (.lod (.loc 0) none)⟩, []), (⟨(some [true, true, true, false, false, true]), none, (.bin .lss 3 (.loc 2) (.loc 0))⟩, [])]) (.cond (.var [true, true, true, false, false, true]) .skip (.exit 2))) (.seq (.block 3 (.seq (.reg false [(⟨none, none, (.ixs (.var [true]) (.var [false, true, false]) 1)⟩, []), (⟨none, none, (.lod (.loc 0) none)⟩, []), (⟨none, none, (.ixs (.var [true, true, true]) (.loc 0) 1)⟩, []), (⟨none, none, (.lod (.loc 0) none)⟩, []), (⟨none, none, (.un .not (.loc 0))⟩, []), (⟨none, none, (.mov (.loc 0))⟩, []), (⟨none, (some (0, false)), (.mov (.var [false, true, true]))⟩, []), (⟨none, (some (1, false)), (.mov (.var [true]))⟩, []), (⟨none, (some (2, false)), (.mov (.var [false, true, false]))⟩, []), (⟨none, (some (3, false)), (.ixs (.loc 1) (.loc 0) 1)⟩, []), (⟨none, (some (4, false)), (.lod (.loc 0) none)⟩, []), (⟨none, (some (5, false)), (.ixs (.loc 4) (.loc 0) 1)⟩, []), (⟨none, (some (6, false)), (.lod (.loc 0) none)⟩, []), (⟨none, (some (7, false)), (.un .not (.loc 0))⟩, []), (⟨(some [true, true, false, false, true, false]), none, (.pick (.loc 8) (.cst (.bool true)) (.loc 0))⟩, [])]) (.cond (.var [true, true, false, false, true, false]) (.seq (.reg false [(⟨(some [false, true]), none, (.mov (.cst (.bool false)))⟩, [])]) .ret) .skip))) (.reg false [(⟨none, none, (.bin .add 3 (.var [false, true, false]) (.cst (.int .i64 (.ofNat 1))))⟩, []), (⟨(some [false, true, false]), none, (.mov (.loc 0))⟩, [])])))))) (.seq (.reg false [(⟨(some [false, true]), none, (.mov (.cst (.bool true)))⟩, [])]) .ret)))))))⟩
def xRIsA : ACode := (.seq (.seq (.reg false [(⟨none, none, (.fad (.var [false]) 1)⟩, []), (⟨none, none, (.lod (.loc 0) none)⟩, []), (⟨none, none, (.len (.loc 0))⟩, []), (⟨none, none, (.bin .mul 3 (.cst (.int .i64 (.ofNat 2))) (.loc 0))⟩, []), (⟨(some [false, false, false, true, true]), none, (.bin .lss 3 (.var [true, false, true]) (.loc 0))⟩, [])]) (.cond (.var [false, false, false, true, true]) .skip (.exit 0))) (.seq (.block 1 (.seq (.reg true [(⟨none, none, (.lod (.var [false]) (some 2))⟩, []), (⟨none, none, (.lod (.var [false]) (some 2))⟩, []), (⟨none, none, (.call (.fn 24) [(.loc 1), (.var [true, false, true])])⟩, [⟨none, (.lod (.var [false]) (some 2)), 1⟩]), (⟨none, none, (.call (.fn 25) [(.loc 1), (.var [true, false, true])])⟩, []), (⟨(some [false, false, true]), none, (.mov (.loc 1))⟩, []), (⟨(some [true, true, false]), none, (.mov (.loc 1))⟩, [])]) (.seq (.reg true [(⟨none, none, (.ixs (.var [true, true, true]) (.var [false, false, true]) 1)⟩, []), (⟨none, none, (.lod (.loc 0) none)⟩, []), (⟨none, none, (.mov (.loc 0))⟩, []), (⟨none, (some (0, false)), (.mov (.var [true, false]))⟩, []), (⟨none, (some (1, false)), (.mov (.var [true, true, false]))⟩, []), (⟨none, (some (2, false)), (.ixs (.loc 1) (.loc 0) 1)⟩, []), (⟨none, (some (3, false)), (.lod (.loc 0) none)⟩, []), (⟨none, (some (4, false)), (.mov (.var [true, false]))⟩, []), (⟨none, (some (5, false)), (.mov (.var [false, false, true]))⟩, []), (⟨none, (some (6, false)), (.ixs (.loc 1) (.loc 0) 1)⟩, []), (⟨none, (some (7, false)), (.lod (.loc 0) none)⟩, []), (⟨none, (some (8, false)), (.bin .lss 3 (.loc 4) (.loc 0))⟩, []), (⟨none, none, (.pick (.loc 9) (.cst (.bool true)) (.loc 0))⟩, []), (⟨none, none, (.ixs (.var [true, true, true]) (.var [false, false, true]) 1)⟩, []), (⟨none, none, (.sto (.loc 0) (.loc 1) 1)⟩, [])]) (.reg true [(⟨none, none, (.ixs (.var [false, true, true]) (.var [false, false, true]) 1)⟩, []), (⟨none, none, (.lod (.loc 0) none)⟩, []), (⟨none, none, (.mov (.loc 0))⟩, []), (⟨none, (some (0, false)), (.mov (.var [true, false]))⟩, []), (⟨none, (some (1, false)), (.mov (.var [true, true, false]))⟩, []), (⟨none, (some (2, false)), (.ixs (.loc 1) (.loc 0) 1)⟩, []), (⟨none, (some (3, false)), (.lod (.loc 0) none)⟩, []), (⟨none, (some (4, false)), (.mov (.var [true, false]))⟩, []), (⟨none, (some (5, false)), (.mov (.var [false, false, true]))⟩, []), (⟨none, (some (6, false)), (.ixs (.loc 1) (.loc 0) 1)⟩, []), (⟨none, (some (7, false)), (.lod (.loc 0) none)⟩, []), (⟨none, (some (8, false)), (.bin .gtr 3 (.loc 4) (.loc 0))⟩, []), (⟨none, none, (.pick (.loc 9) (.cst (.bool true)) (.loc 0))⟩, []), (⟨none, none, (.ixs (.var [false, true, true]) (.var [false, false, true]) 1)⟩, []), (⟨none, none, (.sto (.loc 0) (.loc 1) 1)⟩, [])])))) (.reg false [(⟨none, none, (.bin .add 3 (.var [true, false, true]) (.cst (.int .i64 (.ofNat 1))))⟩, []), (⟨(some [true, false, true]), none, (.mov (.loc 0))⟩, [])])))
def xRIsB : ACode := (.seq (.seq (.reg false [(⟨none, none, (.bin .add 3 (.var [false, true, false]) (.cst (.int .i64 (.ofNat 1))))⟩, []), (⟨none, none, (.fad (.var [false]) 0)⟩, []), (⟨none, none, (.lod (.loc 0) none)⟩, []), (⟨(some [true, true, true, false, false, true]), none, (.bin .lss 3 (.loc 2) (.loc 0))⟩, [])]) (.cond (.var [true, true, true, false, false, true]) .skip (.exit 2))) (.seq (.block 3 (.seq (.reg false [(⟨none, none, (.ixs (.var [true]) (.var [false, true, false]) 1)⟩, []), (⟨none, none, (.lod (.loc 0) none)⟩, []), (⟨none, none, (.ixs (.var [true, true, true]) (.loc 0) 1)⟩, []), (⟨none, none, (.lod (.loc 0) none)⟩, []), (⟨none, none, (.un .not (.loc 0))⟩, []), (⟨none, none, (.mov (.loc 0))⟩, []), (⟨none, (some (0, false)), (.mov (.var [false, true, true]))⟩, []), (⟨none, (some (1, false)), (.mov (.var [true]))⟩, []), (⟨none, (some (2, false)), (.mov (.var [false, true, false]))⟩, []), (⟨none, (some (3, false)), (.ixs (.loc 1) (.loc 0) 1)⟩, []), (⟨none, (some (4, false)), (.lod (.loc 0) none)⟩, []), (⟨none, (some (5, false)), (.ixs (.loc 4) (.loc 0) 1)⟩, []), (⟨none, (some (6, false)), (.lod (.loc 0) none)⟩, []), (⟨none, (some (7, false)), (.un .not (.loc 0))⟩, []), (⟨(some [true, true, false, false, true, false]), none, (.pick (.loc 8) (.cst (.bool true)) (.loc 0))⟩, [])]) (.cond (.var [true, true, false, false, true, false]) (.seq (.reg false [(⟨(some [false, true]), none, (.mov (.cst (.bool false)))⟩, [])]) .ret) .skip))) (.reg false [(⟨none, none, (.bin .add 3 (.var [false, true, false]) (.cst (.int .i64 (.ofNat 1))))⟩, []), (⟨(some [false, true, false]), none, (.mov (.loc 0))⟩, [])])))
def xRgL : ACode := .reg true [(⟨none, none, (.ixs (.var [true, true, true]) (.var [false, false, true]) 1)⟩, []), (⟨none, none, (.lod (.loc 0) none)⟩, []), (⟨none, none, (.mov (.loc 0))⟩, []), (⟨none, (some (0, false)), (.mov (.var [true, false]))⟩, []), (⟨none, (some (1, false)), (.mov (.var [true, true, false]))⟩, []), (⟨none, (some (2, false)), (.ixs (.loc 1) (.loc 0) 1)⟩, []), (⟨none, (some (3, false)), (.lod (.loc 0) none)⟩, []), (⟨none, (some (4, false)), (.mov (.var [true, false]))⟩, []), (⟨none, (some (5, false)), (.mov (.var [false, false, true]))⟩, []), (⟨none, (some (6, false)), (.ixs (.loc 1) (.loc 0) 1)⟩, []), (⟨none, (some (7, false)), (.lod (.loc 0) none)⟩, []), (⟨none, (some (8, false)), (.bin .lss 3 (.loc 4) (.loc 0))⟩, []), (⟨none, none, (.pick (.loc 9) (.cst (.bool true)) (.loc 0))⟩, []), (⟨none, none, (.ixs (.var [true, true, true]) (.var [false, false, true]) 1)⟩, []), (⟨none, none, (.sto (.loc 0) (.loc 1) 1)⟩, [])]
def xRgH : ACode := .reg true [(⟨none, none, (.ixs (.var [false, true, true]) (.var [false, false, true]) 1)⟩, []), (⟨none, none, (.lod (.loc 0) none)⟩, []), (⟨none, none, (.mov (.loc 0))⟩, []), (⟨none, (some (0, false)), (.mov (.var [true, false]))⟩, []), (⟨none, (some (1, false)), (.mov (.var [true, true, false]))⟩, []), (⟨none, (some (2, false)), (.ixs (.loc 1) (.loc 0) 1)⟩, []), (⟨none, (some (3, false)), (.lod (.loc 0) none)⟩, []), (⟨none, (some (4, false)), (.mov (.var [true, false]))⟩, []), (⟨none, (some (5, false)), (.mov (.var [false, false, true]))⟩, []), (⟨none, (some (6, false)), (.ixs (.loc 1) (.loc 0) 1)⟩, []), (⟨none, (some (7, false)), (.lod (.loc 0) none)⟩, []), (⟨none, (some (8, false)), (.bin .gtr 3 (.loc 4) (.loc 0))⟩, []), (⟨none, none, (.pick (.loc 9) (.cst (.bool true)) (.loc 0))⟩, []), (⟨none, none, (.ixs (.var [false, true, true]) (.var [false, false, true]) 1)⟩, []), (⟨none, none, (.sto (.loc 0) (.loc 1) 1)⟩, [])]

theorem ArrF.same {H' : Heap} {b m : Nat} {f : Nat → Int} (h : ArrF H b m f) (hs : Same H H' nx) (hb : b < nx) : ArrF H' b m f := let ⟨cs, h1, h2⟩ := h; ⟨cs, (hs b hb).trans h1, h2⟩
theorem BArr.same {H' : Heap} {b m : Nat} {f : Nat → Bool} (h : BArr H b m f) (hs : Same H H' nx) (hb : b < nx) : BArr H' b m f := let ⟨cs, h1, h2⟩ := h; ⟨cs, (hs b hb).trans h1, h2⟩
theorem veq1_sl {base : Option Addr} {n c : Nat} (h : base = none → n = 0 ∧ c = 0) : veq1 (.slice base n c) (.slice base n c) = true := by
  cases base with
  | none => obtain ⟨rfl, rfl⟩ := h rfl; rfl
  | some a => simp [veq1]
theorem Agrees.lod {L : List Value} {x : Od} {g : Option Nat} {d b o : Nat} {cs : List Value} {v : Value} (hx : ev σ L x = some (.pointer (some ⟨b, o, none⟩))) (hr : Rd H b cs) (hv : partOf cs o g = some v) (hd : L[d]? = some v) (hq : veq v v = true) : Agrees A σ L H [⟨none, .lod x g, d⟩] := by
  refine ⟨fun T hT X => ?_⟩
  have h1 := (Act.lod (A := A) (nx := 0) hx hr hv).comes T hT
  have h2 : ∀ k : KV, lookT (.lod x g) A.P T L H k = k v := fun k => by
    show evK T L x (fun v => onPtr v fun b o => Eng.cellsR H b fun cs => bd (partOf cs o g) k) = _
    rw [hT.evK hx]
    show Eng.cellsR H b _ = _
    rw [hr.cellsR, hv]; rfl
  show cond true (lookT (.lod x g) A.P T L H fun v => nthK L d fun u => cond (veq u v) X none) X = X
  show lookT (.lod x g) A.P T L H _ = X
  rw [h2, nthK_eq, hd]
  show cond (veq v v) X none = X
  rw [hq]; rfl

/-- one more node that is joined to one that stands lower -/
def orB (B : Nat → Bool) (v : Nat) (t : Bool) : Nat → Bool := fun i => if i = v then B i || t else B i

theorem orB_false {B : Nat → Bool} {v : Nat} {t : Bool} (h : B v = false) : orB B v t = fun i => if i = v then t else B i := by
  funext i
  unfold orB
  by_cases e : i = v
  · rw [if_pos e, if_pos e, e, h]; rfl
  · rw [if_neg e, if_neg e]
theorem orB_true {B : Nat → Bool} {v : Nat} {t : Bool} (h : B v = true) : orB B v t = fun i => if i = v then true else B i := by
  funext i
  unfold orB
  by_cases e : i = v
  · rw [if_pos e, if_pos e, e, h]; rfl
  · rw [if_neg e, if_neg e]

theorem rgL {m na nb nx1 v w k c1 c2 c3 nc : Nat} {f : Nat → Int} {B : Nat → Bool} {x1 x2 : Value} (ha : ArrF H na m f) (hB : BArr H nb m B) (hv : v < m) (hw : w < m)
    (hnext : ∀ cs, BArr (set1 H nb cs) nb m (orB B v (decide (f w < f v))) → Q .normal [([true], x1), ([false], x2), ([true, false], .slice (some ⟨na, 0, some 1⟩) m c1), ([true, true, true], .slice (some ⟨nb, 0, some 1⟩) m c2), ([false, true, true], .slice (some ⟨nc, 0, some 1⟩) m c3), ([true, false, true], .int .i64 k), ([false, false, true], .int .i64 v), ([true, true, false], .int .i64 w)] (set1 H nb cs) nx1) :
    WC A xRgL [([true], x1), ([false], x2), ([true, false], .slice (some ⟨na, 0, some 1⟩) m c1), ([true, true, true], .slice (some ⟨nb, 0, some 1⟩) m c2), ([false, true, true], .slice (some ⟨nc, 0, some 1⟩) m c3), ([true, false, true], .int .i64 k), ([false, false, true], .int .i64 v), ([true, true, false], .int .i64 w)] H nx1 Q := by
  obtain ⟨as, a1, a2, a3⟩ := ha
  obtain ⟨bs, b1, b2, b3⟩ := hB
  have hav : as[0 + v * 1]? = some (.int .i64 (f v)) := by simpa using a3 v hv
  have haw : as[0 + w * 1]? = some (.int .i64 (f w)) := by simpa using a3 w hw
  have hbv : bs[0 + v * 1]? = some (.bool (B v)) := by simpa using b3 v hv
  unfold xRgL
  cases e : B v with
  | true =>
    rw [e] at hbv
    repeat' (first | (refine WO.n rfl ?_; (first | refine Then.of (Act.mov rfl) ?_ | refine Then.of (Act.pick rfl rfl rfl) ?_ | refine Then.of (Act.lod rfl (by (with_reducible (first | exact Rd.self | assumption | exact Rd.own (by assumption) | ((repeat ((apply Rd.skip); (with_unfolding_all omega))); first | exact Rd.self | assumption | exact Rd.own (by assumption))))) (partOf_one (by assumption))) ?_ | refine Then.of (Act.ixs rfl rfl (by omega)) ?_ | refine Then.of (Act.sto1 rfl rfl rfl rfl (by (with_reducible (first | exact get_self | assumption | ((repeat ((apply get_skip); (with_unfolding_all omega))); first | exact get_self | assumption)))) (by (first | omega | decide | (simp only [List.length_map, List.length_append, List.length_set, List.length_cons, List.length_nil, List.length_replicate, List.length_range]; omega)))) ?_)) | refine WO.gNo rfl ?_ | with_reducible refine WO.nil ?_ | with_reducible refine WC.drawn ?_ | with_reducible refine drN ?_)
    refine hnext _ ?_
    rw [orB_true e]
    exact .set b2 b3 hv
  | false =>
    rw [e] at hbv
    repeat' (first | (refine WO.n rfl ?_; (first | refine Then.of (Act.mov rfl) ?_ | refine Then.of (Act.pick rfl rfl rfl) ?_ | refine Then.of (Act.lod rfl (by (with_reducible (first | exact Rd.self | assumption | exact Rd.own (by assumption) | ((repeat ((apply Rd.skip); (with_unfolding_all omega))); first | exact Rd.self | assumption | exact Rd.own (by assumption))))) (partOf_one (by assumption))) ?_ | refine Then.of (Act.ixs rfl rfl (by omega)) ?_ | refine Then.of (Act.sto1 rfl rfl rfl rfl (by (with_reducible (first | exact get_self | assumption | ((repeat ((apply get_skip); (with_unfolding_all omega))); first | exact get_self | assumption)))) (by (first | omega | decide | (simp only [List.length_map, List.length_append, List.length_set, List.length_cons, List.length_nil, List.length_replicate, List.length_range]; omega)))) ?_ | ((refine Then.both (Act.lss rfl rfl) (fun h => ?_) (fun h => ?_)) <;> (try simp only [Int.ofNat_eq_natCast] at h)))) | refine WO.gYes rfl ?_ | with_reducible refine WO.nil ?_ | with_reducible refine WC.drawn ?_ | with_reducible refine drN ?_)
    · refine hnext _ ?_
      rw [orB_false e, decide_eq_true h]
      exact .set b2 b3 hv
    · refine hnext _ ?_
      rw [orB_false e, decide_eq_false h]
      exact .set b2 b3 hv

theorem rgH {m na nb nx1 v w k c1 c2 c3 nc : Nat} {f : Nat → Int} {B : Nat → Bool} {x1 x2 : Value} (ha : ArrF H na m f) (hB : BArr H nb m B) (hv : v < m) (hw : w < m)
    (hnext : ∀ cs, BArr (set1 H nb cs) nb m (orB B v (decide (f v < f w))) → Q .normal [([true], x1), ([false], x2), ([true, false], .slice (some ⟨na, 0, some 1⟩) m c1), ([true, true, true], .slice (some ⟨nc, 0, some 1⟩) m c3), ([false, true, true], .slice (some ⟨nb, 0, some 1⟩) m c2), ([true, false, true], .int .i64 k), ([false, false, true], .int .i64 v), ([true, true, false], .int .i64 w)] (set1 H nb cs) nx1) :
    WC A xRgH [([true], x1), ([false], x2), ([true, false], .slice (some ⟨na, 0, some 1⟩) m c1), ([true, true, true], .slice (some ⟨nc, 0, some 1⟩) m c3), ([false, true, true], .slice (some ⟨nb, 0, some 1⟩) m c2), ([true, false, true], .int .i64 k), ([false, false, true], .int .i64 v), ([true, true, false], .int .i64 w)] H nx1 Q := by
  obtain ⟨as, a1, a2, a3⟩ := ha
  obtain ⟨bs, b1, b2, b3⟩ := hB
  have hav : as[0 + v * 1]? = some (.int .i64 (f v)) := by simpa using a3 v hv
  have haw : as[0 + w * 1]? = some (.int .i64 (f w)) := by simpa using a3 w hw
  have hbv : bs[0 + v * 1]? = some (.bool (B v)) := by simpa using b3 v hv
  unfold xRgH
  cases e : B v with
  | true =>
    rw [e] at hbv
    repeat' (first | (refine WO.n rfl ?_; (first | refine Then.of (Act.mov rfl) ?_ | refine Then.of (Act.pick rfl rfl rfl) ?_ | refine Then.of (Act.lod rfl (by (with_reducible (first | exact Rd.self | assumption | exact Rd.own (by assumption) | ((repeat ((apply Rd.skip); (with_unfolding_all omega))); first | exact Rd.self | assumption | exact Rd.own (by assumption))))) (partOf_one (by assumption))) ?_ | refine Then.of (Act.ixs rfl rfl (by omega)) ?_ | refine Then.of (Act.sto1 rfl rfl rfl rfl (by (with_reducible (first | exact get_self | assumption | ((repeat ((apply get_skip); (with_unfolding_all omega))); first | exact get_self | assumption)))) (by (first | omega | decide | (simp only [List.length_map, List.length_append, List.length_set, List.length_cons, List.length_nil, List.length_replicate, List.length_range]; omega)))) ?_)) | refine WO.gNo rfl ?_ | with_reducible refine WO.nil ?_ | with_reducible refine WC.drawn ?_ | with_reducible refine drN ?_)
    refine hnext _ ?_
    rw [orB_true e]
    exact .set b2 b3 hv
  | false =>
    rw [e] at hbv
    repeat' (first | (refine WO.n rfl ?_; (first | refine Then.of (Act.mov rfl) ?_ | refine Then.of (Act.pick rfl rfl rfl) ?_ | refine Then.of (Act.lod rfl (by (with_reducible (first | exact Rd.self | assumption | exact Rd.own (by assumption) | ((repeat ((apply Rd.skip); (with_unfolding_all omega))); first | exact Rd.self | assumption | exact Rd.own (by assumption))))) (partOf_one (by assumption))) ?_ | refine Then.of (Act.ixs rfl rfl (by omega)) ?_ | refine Then.of (Act.sto1 rfl rfl rfl rfl (by (with_reducible (first | exact get_self | assumption | ((repeat ((apply get_skip); (with_unfolding_all omega))); first | exact get_self | assumption)))) (by (first | omega | decide | (simp only [List.length_map, List.length_append, List.length_set, List.length_cons, List.length_nil, List.length_replicate, List.length_range]; omega)))) ?_ | ((refine Then.both (Act.gtr rfl rfl) (fun h => ?_) (fun h => ?_)) <;> (try simp only [Int.ofNat_eq_natCast] at h)))) | refine WO.gYes rfl ?_ | with_reducible refine WO.nil ?_ | with_reducible refine WC.drawn ?_ | with_reducible refine drN ?_)
    · refine hnext _ ?_
      rw [orB_false e, decide_eq_true h]
      exact .set b2 b3 hv
    · refine hnext _ ?_
      rw [orB_false e, decide_eq_false h]
      exact .set b2 b3 hv

/-- the half-edge's ends -/
def hf (es : List (Int × Int)) (h : Nat) : Int := match es[h / 2]? with
  | some e => if h % 2 = 0 then e.1 else e.2
  | none => 0
def ht (es : List (Int × Int)) (h : Nat) : Int := match es[h / 2]? with
  | some e => if h % 2 = 0 then e.2 else e.1
  | none => 0

/-- behind 'k' half-edges -/
def SeenH (es : List (Int × Int)) (k : Nat) (p : Int → Int → Prop) (m : Nat) (B : Nat → Bool) : Prop := ∀ v : Nat, v < m → (B v = true ↔ ∃ i : Nat, i < k ∧ hf es i = v ∧ p (hf es i) (ht es i))
theorem SeenH.zero {es : List (Int × Int)} {p : Int → Int → Prop} {m : Nat} : SeenH es 0 p m (fun _ => false) := fun v _ => ⟨fun h => absurd h (by simp), fun ⟨i, hi, _⟩ => absurd hi (by omega)⟩
theorem SeenH.step {es : List (Int × Int)} {k m v : Nat} {p : Int → Int → Prop} {B : Nat → Bool} {t : Bool} (h : SeenH es k p m B) (hv : hf es k = v) (ht' : t = true ↔ p (hf es k) (ht es k)) : SeenH es (k + 1) p m (orB B v t) := by
  intro u hu
  unfold orB
  by_cases e : u = v
  · rw [if_pos e, Bool.or_eq_true, h u hu, ht']
    constructor
    · rintro (⟨i, h1, h2⟩ | h1)
      · exact ⟨i, by omega, h2⟩
      · exact ⟨k, by omega, by rw [hv, e], h1⟩
    · rintro ⟨i, h1, h2, h3⟩
      rcases (show i < k ∨ i = k by omega) with h5 | rfl
      · exact .inl ⟨i, h5, h2, h3⟩
      · exact .inr h3
  · rw [if_neg e, h u hu]
    constructor
    · rintro ⟨i, h1, h2⟩; exact ⟨i, by omega, h2⟩
    · rintro ⟨i, h1, h2, h3⟩
      rcases (show i < k ∨ i = k by omega) with h5 | rfl
      · exact ⟨i, h5, h2, h3⟩
      · rw [hv] at h2; omega
theorem SeenH.up {es : List (Int × Int)} {m : Nat} {f : Nat → Int} {B : Nat → Bool} (h : SeenH es (2 * es.length) (fun a b => f b.toNat < f a.toNat) m B) {v : Nat} (hv : v < m) : B v = true ↔ ∃ e ∈ es, UpAt f e v := by
  rw [h v hv]
  constructor
  · rintro ⟨i, h1, h2, h3⟩
    have hi : i / 2 < es.length := by omega
    have he := List.getElem?_eq_getElem hi
    unfold hf at h2 h3
    unfold ht at h3
    simp only [he] at h2 h3
    refine ⟨es[i / 2], List.getElem_mem hi, ?_⟩
    by_cases e : i % 2 = 0
    · simp only [e, if_true] at h2 h3; exact .inl ⟨h2, h3⟩
    · simp only [e, if_false] at h2 h3; exact .inr ⟨h2, h3⟩
  · rintro ⟨e, he, hc⟩
    obtain ⟨i, hi⟩ := List.getElem?_of_mem he
    have hlt := (List.getElem?_eq_some_iff.1 hi).1
    rcases hc with ⟨p, q⟩ | ⟨p, q⟩
    · refine ⟨2 * i, by omega, ?_⟩
      unfold hf ht
      rw [show 2 * i / 2 = i by omega, show 2 * i % 2 = 0 by omega, hi]
      exact ⟨p, q⟩
    · refine ⟨2 * i + 1, by omega, ?_⟩
      unfold hf ht
      rw [show (2 * i + 1) / 2 = i by omega, show (2 * i + 1) % 2 = 1 by omega, hi]
      exact ⟨p, q⟩
theorem SeenH.dn {es : List (Int × Int)} {m : Nat} {f : Nat → Int} {B : Nat → Bool} (h : SeenH es (2 * es.length) (fun a b => f a.toNat < f b.toNat) m B) {v : Nat} (hv : v < m) : B v = true ↔ ∃ e ∈ es, DnAt f e v := by
  rw [h v hv]
  constructor
  · rintro ⟨i, h1, h2, h3⟩
    have hi : i / 2 < es.length := by omega
    have he := List.getElem?_eq_getElem hi
    unfold hf at h2 h3
    unfold ht at h3
    simp only [he] at h2 h3
    refine ⟨es[i / 2], List.getElem_mem hi, ?_⟩
    by_cases e : i % 2 = 0
    · simp only [e, if_true] at h2 h3; exact .inl ⟨h2, h3⟩
    · simp only [e, if_false] at h2 h3; exact .inr ⟨h2, h3⟩
  · rintro ⟨e, he, hc⟩
    obtain ⟨i, hi⟩ := List.getElem?_of_mem he
    have hlt := (List.getElem?_eq_some_iff.1 hi).1
    rcases hc with ⟨p, q⟩ | ⟨p, q⟩
    · refine ⟨2 * i, by omega, ?_⟩
      unfold hf ht
      rw [show 2 * i / 2 = i by omega, show 2 * i % 2 = 0 by omega, hi]
      exact ⟨p, q⟩
    · refine ⟨2 * i + 1, by omega, ?_⟩
      unfold hf ht
      rw [show (2 * i + 1) / 2 = i by omega, show (2 * i + 1) % 2 = 1 by omega, hi]
      exact ⟨p, q⟩

theorem risA {n : Int} {es : List (Int × Int)} {f : Nat → Int} {base : Option Addr} {lv : Value} {c c1 c2 c3 m na nb nc nx1 : Nat} {H0 : Heap} (h24 : A.funcs 24 = some xFrom) (h25 : A.funcs 25 = some xTo) (hh : ∀ g, g ≠ 5 → ∀ vs H nx, A.hook g vs H nx = none) (he : SlE H0 nx 2 encP (.slice base es.length c) es) (hlen : es.length ≤ 4000) (hin : ∀ e ∈ es, inB n e) (hm : (m : Int) = n)
    (h0 : nx < na) (h2 : na < nb) (h3 : nb < nc) (h4 : nc < nx1) (hbox : Rd H nx [.int .i64 n, .slice base es.length c]) (hs : Same H0 H nx) (ha : ArrF H na m f) (hA : BArr H nb m (fun _ => false)) (hB : BArr H nc m (fun _ => false))
    (hexit : ∀ A B σ H' nx', SubS [([true], lv), ([false], .pointer (some ⟨nx, 0, none⟩)), ([true, true, true], .slice (some ⟨nb, 0, some 1⟩) m c2), ([false, true, true], .slice (some ⟨nc, 0, some 1⟩) m c3)] σ → Rd H' nx [.int .i64 n, .slice base es.length c] → Same H0 H' nx → nx1 ≤ nx' → BArr H' nb m A → BArr H' nc m B →
      (∀ v, v < m → (A v = true ↔ ∃ e ∈ es, UpAt f e v)) → (∀ v, v < m → (B v = true ↔ ∃ e ∈ es, DnAt f e v)) → Q (.exit 0) σ H' nx') :
    WC A (.loop xRIsA) [([true], lv), ([false], .pointer (some ⟨nx, 0, none⟩)), ([true, false], .slice (some ⟨na, 0, some 1⟩) m c1), ([true, true, true], .slice (some ⟨nb, 0, some 1⟩) m c2), ([false, true, true], .slice (some ⟨nc, 0, some 1⟩) m c3), ([true, false, true], .int .i64 (Int.ofNat 0))] H nx1 Q := by
  refine WC.loop (α := Nat × (Nat → Bool) × (Nat → Bool)) (fun k => [([true], lv), ([false], .pointer (some ⟨nx, 0, none⟩)), ([true, false], .slice (some ⟨na, 0, some 1⟩) m c1), ([true, true, true], .slice (some ⟨nb, 0, some 1⟩) m c2), ([false, true, true], .slice (some ⟨nc, 0, some 1⟩) m c3), ([true, false, true], .int .i64 k.1)])
    (fun k H' nx' => k.1 ≤ 2 * es.length ∧ nx1 ≤ nx' ∧ Rd H' nx [.int .i64 n, .slice base es.length c] ∧ Same H0 H' nx ∧ ArrF H' na m f ∧ BArr H' nb m k.2.1 ∧ BArr H' nc m k.2.2 ∧ SeenH es k.1 (fun a b => f b.toNat < f a.toNat) m k.2.1 ∧ SeenH es k.1 (fun a b => f a.toNat < f b.toNat) m k.2.2) (fun k => 2 * es.length - k.1)
    ?_ (0, fun _ => false, fun _ => false) (.cons rfl (.cons rfl (.cons rfl (.cons rfl (.cons rfl (.cons rfl (.nil _))))))) ⟨Nat.zero_le _, Nat.le_refl _, hbox, hs, ha, hA, hB, .zero, .zero⟩
  clear ha hA hB hs hbox
  rintro ⟨k, A', B'⟩ H nx2 ⟨hk, hnx, hbox, hs, ha, hA, hB, sA, sB⟩
  simp only at hk hA hB sA sB ⊢
  unfold xRIsA
  repeat' (first | ((first | refine WO.n rfl ?_ | refine WO.k rfl ?_); (first | refine Then.of (Act.fad rfl) ?_ | refine Then.of (Act.len rfl) ?_ | refine Then.of (Act.lod rfl (by (with_reducible (first | exact Rd.self | assumption | exact Rd.own (by assumption) | ((repeat ((apply Rd.skip); (with_unfolding_all omega))); first | exact Rd.self | assumption | exact Rd.own (by assumption))))) rfl) ?_ | ((refine Then.both (Act.lss rfl rfl) (fun h => ?_) (fun h => ?_)) <;> (try simp only [Int.ofNat_eq_natCast] at h)) | refine Then.of (Act.mulN rfl rfl (by omega)) ?_)) | with_reducible refine WO.nil ?_ | with_reducible refine WC.reg ?_ | with_reducible refine WC.drawn ?_ | with_reducible refine WC.seq ?_ | with_reducible refine WC.skip ?_ | with_reducible refine WC.exit ?_ | with_reducible refine WC.block ?_ | refine WC.condT rfl ?_ | refine WC.condF rfl ?_ | with_reducible refine stN ?_ | with_reducible refine stE ?_)
  · have hlt : k / 2 < es.length := by omega
    have hvq : veq (.agg #[.int .i64 n, .slice base es.length c]) (.agg #[.int .i64 n, .slice base es.length c]) = true := by
      obtain ⟨base', c', q1, q2, _⟩ := he
      cases q1
      have := veq1_sl (base := base) (n := es.length) (c := c) (fun e => by obtain ⟨p1, p2⟩ := q2 e; exact ⟨by rw [p1]; rfl, p2⟩)
      show (veq1 (.int .i64 n) (.int .i64 n) && (veq1 (.slice base es.length c) (.slice base es.length c) && true)) = true
      rw [this]; simp [veq1]
    refine WO.ca rfl ?_
    refine (from_spec h24 (hh 24 (by decide)) ((he.same hs).up (by omega)) hlt hlen).of ?_
    rintro _ H3 nx3 ⟨rfl, hs3, hn3⟩
    have hbox3 := hs3.rd (by omega) hbox
    refine ⟨Agrees.lod rfl hbox3 rfl rfl hvq, ?_⟩
    have hs03 : Same H0 H3 nx := hs.trans hs3 (by omega)
    refine WO.cn rfl ?_
    refine (to_spec h25 (hh 25 (by decide)) ((he.same hs03).up (by omega)) hlt hlen).of ?_
    rintro _ H4 nx4 ⟨rfl, hs4, hn4⟩
    have hs34 : Same H H4 nx2 := hs3.trans hs4 hn3
    have hbox4 := hs34.rd (by omega) hbox
    obtain ⟨q1, q2, q3, q4⟩ := hin es[k / 2] (List.getElem_mem hlt)
    obtain ⟨v, hv⟩ : ∃ v : Nat, (if k % 2 = 0 then es[k / 2].1 else es[k / 2].2) = v := ⟨(if k % 2 = 0 then es[k / 2].1 else es[k / 2].2).toNat, by split <;> omega⟩
    obtain ⟨w, hw⟩ : ∃ w : Nat, (if k % 2 = 0 then es[k / 2].2 else es[k / 2].1) = w := ⟨(if k % 2 = 0 then es[k / 2].2 else es[k / 2].1).toNat, by split <;> omega⟩
    have hvf : hf es k = v := by unfold hf; rw [List.getElem?_eq_getElem hlt]; exact hv
    have hwt : ht es k = w := by unfold ht; rw [List.getElem?_eq_getElem hlt]; exact hw
    have hvm : v < m := by have : (v : Int) < n := by (rw [← hv]; split <;> omega)
                           omega
    have hwm : w < m := by have : (w : Int) < n := by (rw [← hw]; split <;> omega)
                           omega
    rw [hv, hw]
    iterate 6 ((first | (refine WO.k rfl ?_; refine Then.of (Act.mov rfl) ?_) | with_reducible refine WO.nil ?_ | with_reducible refine WC.seq ?_ | with_reducible refine stN ?_ | with_reducible refine drN ?_))
    refine WC.sub (.cons rfl (.cons rfl (.cons rfl (.cons rfl (.cons rfl (.cons rfl (.cons rfl (.cons rfl (.nil _))))))))) (rgL (ha.same hs34 (by omega)) (hA.same hs34 (by omega)) hvm hwm (fun ds hA5 => ?_))
    refine stN (WC.sub (.refl _) ?_)
    refine rgH ((ha.same hs34 (by omega)).skip (by omega)) ((hB.same hs34 (by omega)).skip (by omega)) hvm hwm (fun fs hB5 => ?_)
    repeat' (first | ((first | refine WO.n rfl ?_ | refine WO.k rfl ?_); (first | refine Then.of (Act.mov rfl) ?_ | refine Then.of (Act.addN rfl rfl (by omega)) ?_)) | with_reducible refine WO.nil ?_ | with_reducible refine WC.reg ?_ | with_reducible refine stN ?_ | with_reducible refine bkN ?_)
    refine ⟨(k + 1, orB A' v (decide (f w < f v)), orB B' v (decide (f v < f w))), by show 2 * es.length - (k + 1) < 2 * es.length - k; omega, .cons rfl (.cons rfl (.cons rfl (.cons rfl (.cons rfl (.cons rfl (.nil _)))))), by show k + 1 ≤ _; omega, by omega,
      Rd.skip (by omega) (Rd.skip (by omega) hbox4), ((hs.trans hs34 (by omega)).set (by omega)).set (by omega), ((ha.same hs34 (by omega)).skip (by omega)).skip (by omega), hA5.skip (by omega), hB5, sA.step hvf ?_, sB.step hvf ?_⟩
    · rw [hvf, hwt, decide_eq_true_iff]; rfl
    · rw [hvf, hwt, decide_eq_true_iff]; rfl
  · have hkl : k = 2 * es.length := by omega
    subst hkl
    exact hexit A' B' _ _ _ (.cons rfl (.cons rfl (.cons rfl (.cons rfl (.nil _))))) hbox hs hnx hA hB (fun v hv => sA.up hv) (fun v hv => sB.dn hv)

theorem risB {n : Int} {l : List Int} {m nb nc nx1 : Nat} {b o c c2 c3 : Nat} {A' B' : Nat → Bool} {cs : List Value} {y : Value} (hr : Rd H b cs) (hcs : ∀ i x, l[i]? = some x → take? 1 (cs.drop (o + i * 1)) = some (encI x)) (hin : ∀ x ∈ l, 0 ≤ x ∧ x < m) (hm : l.length = m) (hmn : n = m) (hm4 : m ≤ 4000) (h2 : 2 ≤ m) (hbox : Rd H nx [.int .i64 n, y]) (hA : BArr H nb m A') (hB : BArr H nc m B')
    (hret : ¬ (∀ (i v : Nat), 1 ≤ i → i + 1 < m → l[i]? = some (v : Int) → A' v = true ∧ B' v = true) → ∀ σ, SubS [([false, true], .bool false)] σ → Q .ret σ H nx1)
    (hexit : (∀ (i v : Nat), 1 ≤ i → i + 1 < m → l[i]? = some (v : Int) → A' v = true ∧ B' v = true) → ∀ σ, Q (.exit 2) σ H nx1) :
    WC A (.loop xRIsB) [([true], .slice (some ⟨b, o, some 1⟩) m c), ([false], .pointer (some ⟨nx, 0, none⟩)), ([true, true, true], .slice (some ⟨nb, 0, some 1⟩) m c2), ([false, true, true], .slice (some ⟨nc, 0, some 1⟩) m c3), ([false, true, false], .int .i64 (Int.ofNat 1))] H nx1 Q := by
  refine WC.loop (α := Nat) (fun k => [([true], .slice (some ⟨b, o, some 1⟩) m c), ([false], .pointer (some ⟨nx, 0, none⟩)), ([true, true, true], .slice (some ⟨nb, 0, some 1⟩) m c2), ([false, true, true], .slice (some ⟨nc, 0, some 1⟩) m c3), ([false, true, false], .int .i64 k)])
    (fun k H' nx' => H' = H ∧ nx' = nx1 ∧ 1 ≤ k ∧ k + 1 ≤ m ∧ ∀ i v : Nat, 1 ≤ i → i < k → l[i]? = some (v : Int) → A' v = true ∧ B' v = true) (fun k => m - k)
    ?_ 1 (.cons rfl (.cons rfl (.cons rfl (.cons rfl (.cons rfl (.nil _)))))) ⟨rfl, rfl, Nat.le_refl _, h2, fun i v h h' => by omega⟩
  obtain ⟨cA, p1, p2, p3⟩ := hA
  obtain ⟨cB, r1, r2, r3⟩ := hB
  subst hmn
  rintro k _ _ ⟨rfl, rfl, hk1, hk, hks⟩
  unfold xRIsB
  repeat' (first | ((first | refine WO.n rfl ?_ | refine WO.k rfl ?_); (first | refine Then.of (Act.fad rfl) ?_ | refine Then.of (Act.lod rfl (by (with_reducible (first | exact Rd.self | assumption | exact Rd.own (by assumption) | ((repeat ((apply Rd.skip); (with_unfolding_all omega))); first | exact Rd.self | assumption | exact Rd.own (by assumption))))) rfl) ?_ | refine Then.of (Act.ixs rfl rfl (by omega)) ?_ | ((refine Then.both (Act.lss rfl rfl) (fun h => ?_) (fun h => ?_)) <;> (try simp only [Int.ofNat_eq_natCast] at h)) | refine Then.of (Act.addN rfl rfl (by omega)) ?_)) | with_reducible refine WO.nil ?_ | with_reducible refine WC.reg ?_ | with_reducible refine WC.seq ?_ | with_reducible refine WC.skip ?_ | with_reducible refine WC.exit ?_ | with_reducible refine WC.block ?_ | refine WC.condT rfl ?_ | refine WC.condF rfl ?_ | with_reducible refine stN ?_ | with_reducible refine stE ?_)
  · have hlt : k < l.length := by omega
    obtain ⟨v, hv⟩ : ∃ v : Nat, l[k] = v := ⟨l[k].toNat, by have := hin _ (List.getElem_mem hlt); omega⟩
    have hlv : l[k]? = some (v : Int) := by rw [List.getElem?_eq_getElem hlt, hv]
    have hvm : v < m := by have := hin _ (List.getElem_mem hlt); omega
    have hx : cs[o + k * 1]? = some (.int .i64 (v : Int)) := take1 (v := .int .i64 (v : Int)) (hcs k v hlv)
    have hA' : cA[0 + v * 1]? = some (.bool (A' v)) := by simpa using p3 v hvm
    have hB' : cB[0 + v * 1]? = some (.bool (B' v)) := by simpa using r3 v hvm
    cases eA : A' v with
    | false =>
      rw [eA] at hA'
      repeat' (first | ((first | refine WO.n rfl ?_ | refine WO.k rfl ?_); (first | refine Then.of (Act.mov rfl) ?_ | refine Then.of (Act.not rfl) ?_ | refine Then.of (Act.pick rfl rfl rfl) ?_ | refine Then.of (Act.lod rfl (by (with_reducible (first | exact Rd.self | assumption | exact Rd.own (by assumption) | ((repeat ((apply Rd.skip); (with_unfolding_all omega))); first | exact Rd.self | assumption | exact Rd.own (by assumption))))) (partOf_one (by assumption))) ?_ | refine Then.of (Act.ixs rfl rfl (by omega)) ?_)) | refine WO.gNo rfl ?_ | with_reducible refine WO.nil ?_ | with_reducible refine WC.reg ?_ | with_reducible refine WC.seq ?_ | with_reducible refine WC.ret ?_ | refine WC.condT rfl ?_ | with_reducible refine stN ?_ | with_reducible refine stR ?_ | with_reducible refine bkR ?_)
      exact hret (fun hh => by have := (hh k v (by omega) (by omega) hlv).1; rw [eA] at this; cases this) _ (.cons rfl (.nil _))
    | true =>
      rw [eA] at hA'
      cases eB : B' v with
      | false =>
        rw [eB] at hB'
        repeat' (first | ((first | refine WO.n rfl ?_ | refine WO.k rfl ?_); (first | refine Then.of (Act.mov rfl) ?_ | refine Then.of (Act.not rfl) ?_ | refine Then.of (Act.pick rfl rfl rfl) ?_ | refine Then.of (Act.lod rfl (by (with_reducible (first | exact Rd.self | assumption | exact Rd.own (by assumption) | ((repeat ((apply Rd.skip); (with_unfolding_all omega))); first | exact Rd.self | assumption | exact Rd.own (by assumption))))) (partOf_one (by assumption))) ?_ | refine Then.of (Act.ixs rfl rfl (by omega)) ?_)) | refine WO.gYes rfl ?_ | with_reducible refine WO.nil ?_ | with_reducible refine WC.reg ?_ | with_reducible refine WC.seq ?_ | with_reducible refine WC.ret ?_ | refine WC.condT rfl ?_ | with_reducible refine stN ?_ | with_reducible refine stR ?_ | with_reducible refine bkR ?_)
        exact hret (fun hh => by have := (hh k v (by omega) (by omega) hlv).2; rw [eB] at this; cases this) _ (.cons rfl (.nil _))
      | true =>
        rw [eB] at hB'
        repeat' (first | ((first | refine WO.n rfl ?_ | refine WO.k rfl ?_); (first | refine Then.of (Act.mov rfl) ?_ | refine Then.of (Act.not rfl) ?_ | refine Then.of (Act.pick rfl rfl rfl) ?_ | refine Then.of (Act.lod rfl (by (with_reducible (first | exact Rd.self | assumption | exact Rd.own (by assumption) | ((repeat ((apply Rd.skip); (with_unfolding_all omega))); first | exact Rd.self | assumption | exact Rd.own (by assumption))))) (partOf_one (by assumption))) ?_ | refine Then.of (Act.ixs rfl rfl (by omega)) ?_ | refine Then.of (Act.addN rfl rfl (by omega)) ?_)) | refine WO.gYes rfl ?_ | with_reducible refine WO.nil ?_ | with_reducible refine WC.reg ?_ | with_reducible refine WC.skip ?_ | refine WC.condF rfl ?_ | with_reducible refine stN ?_ | with_reducible refine bkN ?_)
        refine ⟨k + 1, by omega, .cons rfl (.cons rfl (.cons rfl (.cons rfl (.cons rfl (.nil _))))), rfl, rfl, by omega, by omega, fun i w hi1 hi2 hw => ?_⟩
        rcases (show i < k ∨ i = k by omega) with h5 | rfl
        · exact hks i w hi1 h5 hw
        · rw [hlv] at hw
          have : v = w := by have := Option.some.inj hw; omega
          subst this
          exact ⟨eA, eB⟩
  · exact hexit (fun i v h1 h3 h5 => hks i v h1 (by omega) h5) _
end Go.Eng
