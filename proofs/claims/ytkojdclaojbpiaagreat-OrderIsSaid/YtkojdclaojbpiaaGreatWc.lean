import Derived.Test.YtkojdclaojbpiaaGreatWb
/- Where each node stands in a list. -/
namespace Go.Eng
variable {A : AProg} {H : Heap} {nx : Nat} {σ : Slots} {Q : Post}
set_option maxRecDepth 100000

/-- each of the numbers below 'n' once -/
def PermI (n : Int) (l : List Int) : Prop := (l.length : Int) = n ∧ (∀ x ∈ l, 0 ≤ x ∧ x < n) ∧ l.Nodup
/-- where each of them stands -/
def Places (l at_ : List Int) : Prop := at_.length = l.length ∧ ∀ (i : Nat) x, l[i]? = some x → at_[x.toNat]? = some (i : Int)

theorem repeatN_one (v : Value) (m : Nat) : repeatN [v] m = List.replicate m v := by
  induction m with
  | zero => rfl
  | succ m ih => rw [repeatN_succ, ih]; rfl

/-- an own array of integers, as a function -/
def ArrF (H : Heap) (b m : Nat) (f : Nat → Int) : Prop := ∃ cs, getP H (at_ b) = some (.cells cs) ∧ cs.length = m ∧ ∀ i, i < m → cs[i]? = some (.int .i64 (f i))
theorem ArrF.sle {b m : Nat} {f : Nat → Int} {c : Nat} (h : ArrF H b m f) (hb : b < nx) (hc : m ≤ sureCap c) : SlE H nx 1 encI (.slice (some ⟨b, 0, some 1⟩) m c) ((List.range m).map f) := by
  obtain ⟨cs, h1, h2, h3⟩ := h
  refine ⟨some ⟨b, 0, some 1⟩, c, by simp, (fun e => by cases e), fun a ha => ?_⟩
  cases ha
  refine ⟨by simpa using hc, b, 0, rfl, hb, fun _ => ⟨cs, .inl h1, fun i x hx => ?_⟩⟩
  have hi : i < m := by have := (List.getElem?_eq_some_iff.1 hx).1; simpa using this
  have hx' : f i = x := by rw [List.getElem?_map, List.getElem?_range hi] at hx; simpa using hx
  rw [take?_of _ _ (by simp; omega)]
  congr 1
  apply List.ext_getElem?
  intro j
  rw [List.getElem?_take]
  by_cases hj : j < 1
  · obtain rfl : j = 0 := by omega
    rw [if_pos (by omega), List.getElem?_drop]
    simp only [Nat.zero_add, Nat.mul_one, Nat.add_zero]
    rw [h3 i hi, hx']; rfl
  · rw [if_neg hj]
    unfold encI
    rw [List.getElem?_eq_none (by simp; omega)]

def xPl : AFunc := ⟨[((.var [false, true]), none), ((.var [true, false]), none)], (.seq (.reg false [(⟨(some [false, true]), none, (.mov (.cst (.slice none 0 0)))⟩, []), (⟨(some [true, false]), none, (.mov (.cst (.bool false)))⟩, [])]) (.seq (.seq (.reg false [(⟨none, none, (.len (.var [true]))⟩, []), (⟨(some [true, false, false]), none, (.bin .neq 3 (.loc 0) (.var []))⟩, [])]) (.cond (.var [true, false, false]) (.seq (.reg false [(⟨(some [false, true]), none, (.mov (.cst (.slice none 0 0)))⟩, []), (⟨(some [true, false]), none, (.mov (.cst (.bool false)))⟩, [])]) .ret) .skip)) (.seq (.reg false [(⟨none, none, (.mks 1 8 [(.int .i64 (.ofNat 0))] (.var []) (.var []))⟩, []), (⟨(some [false, false]), none, (.mov (.loc 0))⟩, [])]) (.seq (.seq (.reg false [(⟨(some [true, false, true, true]), none, (.len (.var [false, false]))⟩, []), (⟨(some [false, false, true, true]), none, (.mov (.cst (.int .i64 (.ofNat 0))))⟩, [])]) (.block 0 (.loop (.seq (.reg false [(⟨(some [true, true, false, true]), none, (.bin .lss 3 (.var [false, false, true, true]) (.var [true, false, true, true]))⟩, [])]) (.seq (.cond (.var [true, true, false, true]) .skip (.exit 0)) (.seq (.block 1 (.seq (.reg false [(⟨(some [true, true, true]), none, (.mov (.var [false, false, true, true]))⟩, [])]) (.reg false [(⟨none, none, (.ixs (.var [false, false]) (.var [true, true, true]) 1)⟩, []), (⟨none, none, (.sto (.loc 0) (.cst (.int .i64 (.negSucc 0))) 1)⟩, [])]))) (.reg false [(⟨none, none, (.bin .add 3 (.var [false, false, true, true]) (.cst (.int .i64 (.ofNat 1))))⟩, []), (⟨(some [false, false, true, true]), none, (.mov (.loc 0))⟩, [])]))))))) (.seq (.seq (.reg false [(⟨(some [true, false, true, false]), none, (.mov (.var [true]))⟩, []), (⟨(some [false, false, true, false]), none, (.len (.loc 0))⟩, []), (⟨(some [true, true, false, false]), none, (.mov (.cst (.int .i64 (.ofNat 0))))⟩, [])]) (.block 2 (.loop (.seq (.reg false [(⟨(some [false, true, false, false]), none, (.bin .lss 3 (.var [true, true, false, false]) (.var [false, false, true, false]))⟩, [])]) (.seq (.cond (.var [false, true, false, false]) .skip (.exit 2)) (.seq (.block 3 (.seq (.reg false [(⟨none, none, (.ixs (.var [true, false, true, false]) (.var [true, true, false, false]) 1)⟩, []), (⟨none, none, (.lod (.loc 0) none)⟩, []), (⟨(some [false, true, true]), none, (.mov (.var [true, true, false, false]))⟩, []), (⟨(some [true, false, true]), none, (.mov (.loc 1))⟩, [])]) (.seq (.seq (.reg false [(⟨none, none, (.bin .lss 3 (.var [true, false, true]) (.cst (.int .i64 (.ofNat 0))))⟩, []), (⟨none, none, (.mov (.loc 0))⟩, []), (⟨none, (some (0, false)), (.mov (.var [true, false, true]))⟩, []), (⟨none, (some (1, false)), (.mov (.var []))⟩, []), (⟨none, (some (2, false)), (.bin .geq 3 (.loc 1) (.loc 0))⟩, []), (⟨none, none, (.pick (.loc 3) (.cst (.bool true)) (.loc 0))⟩, []), (⟨none, none, (.mov (.loc 0))⟩, []), (⟨none, (some (0, false)), (.mov (.var [false, false]))⟩, []), (⟨none, (some (1, false)), (.mov (.var [true, false, true]))⟩, []), (⟨none, (some (2, false)), (.ixs (.loc 1) (.loc 0) 1)⟩, []), (⟨none, (some (3, false)), (.lod (.loc 0) none)⟩, []), (⟨none, (some (4, false)), (.bin .geq 3 (.loc 0) (.cst (.int .i64 (.ofNat 0))))⟩, []), (⟨(some [true, false, false, false, true]), none, (.pick (.loc 5) (.cst (.bool true)) (.loc 0))⟩, [])]) (.cond (.var [true, false, false, false, true]) (.seq (.reg false [(⟨(some [false, true]), none, (.mov (.cst (.slice none 0 0)))⟩, []), (⟨(some [true, false]), none, (.mov (.cst (.bool false)))⟩, [])]) .ret) .skip)) (.reg false [(⟨none, none, (.ixs (.var [false, false]) (.var [true, false, true]) 1)⟩, []), (⟨none, none, (.sto (.loc 0) (.var [false, true, true]) 1)⟩, [])])))) (.reg false [(⟨none, none, (.bin .add 3 (.var [true, true, false, false]) (.cst (.int .i64 (.ofNat 1))))⟩, []), (⟨(some [true, true, false, false]), none, (.mov (.loc 0))⟩, [])]))))))) (.seq (.reg false [(⟨(some [false, true]), none, (.mov (.var [false, false]))⟩, []), (⟨(some [true, false]), none, (.mov (.cst (.bool true)))⟩, [])]) .ret))))))⟩
def xPlA : ACode := (.seq (.reg false [(⟨(some [true, true, false, true]), none, (.bin .lss 3 (.var [false, false, true, true]) (.var [true, false, true, true]))⟩, [])]) (.seq (.cond (.var [true, true, false, true]) .skip (.exit 0)) (.seq (.block 1 (.seq (.reg false [(⟨(some [true, true, true]), none, (.mov (.var [false, false, true, true]))⟩, [])]) (.reg false [(⟨none, none, (.ixs (.var [false, false]) (.var [true, true, true]) 1)⟩, []), (⟨none, none, (.sto (.loc 0) (.cst (.int .i64 (.negSucc 0))) 1)⟩, [])]))) (.reg false [(⟨none, none, (.bin .add 3 (.var [false, false, true, true]) (.cst (.int .i64 (.ofNat 1))))⟩, []), (⟨(some [false, false, true, true]), none, (.mov (.loc 0))⟩, [])]))))
def xPlB : ACode := (.seq (.reg false [(⟨(some [false, true, false, false]), none, (.bin .lss 3 (.var [true, true, false, false]) (.var [false, false, true, false]))⟩, [])]) (.seq (.cond (.var [false, true, false, false]) .skip (.exit 2)) (.seq (.block 3 (.seq (.reg false [(⟨none, none, (.ixs (.var [true, false, true, false]) (.var [true, true, false, false]) 1)⟩, []), (⟨none, none, (.lod (.loc 0) none)⟩, []), (⟨(some [false, true, true]), none, (.mov (.var [true, true, false, false]))⟩, []), (⟨(some [true, false, true]), none, (.mov (.loc 1))⟩, [])]) (.seq (.seq (.reg false [(⟨none, none, (.bin .lss 3 (.var [true, false, true]) (.cst (.int .i64 (.ofNat 0))))⟩, []), (⟨none, none, (.mov (.loc 0))⟩, []), (⟨none, (some (0, false)), (.mov (.var [true, false, true]))⟩, []), (⟨none, (some (1, false)), (.mov (.var []))⟩, []), (⟨none, (some (2, false)), (.bin .geq 3 (.loc 1) (.loc 0))⟩, []), (⟨none, none, (.pick (.loc 3) (.cst (.bool true)) (.loc 0))⟩, []), (⟨none, none, (.mov (.loc 0))⟩, []), (⟨none, (some (0, false)), (.mov (.var [false, false]))⟩, []), (⟨none, (some (1, false)), (.mov (.var [true, false, true]))⟩, []), (⟨none, (some (2, false)), (.ixs (.loc 1) (.loc 0) 1)⟩, []), (⟨none, (some (3, false)), (.lod (.loc 0) none)⟩, []), (⟨none, (some (4, false)), (.bin .geq 3 (.loc 0) (.cst (.int .i64 (.ofNat 0))))⟩, []), (⟨(some [true, false, false, false, true]), none, (.pick (.loc 5) (.cst (.bool true)) (.loc 0))⟩, [])]) (.cond (.var [true, false, false, false, true]) (.seq (.reg false [(⟨(some [false, true]), none, (.mov (.cst (.slice none 0 0)))⟩, []), (⟨(some [true, false]), none, (.mov (.cst (.bool false)))⟩, [])]) .ret) .skip)) (.reg false [(⟨none, none, (.ixs (.var [false, false]) (.var [true, false, true]) 1)⟩, []), (⟨none, none, (.sto (.loc 0) (.var [false, true, true]) 1)⟩, [])])))) (.reg false [(⟨none, none, (.bin .add 3 (.var [true, true, false, false]) (.cst (.int .i64 (.ofNat 1))))⟩, []), (⟨(some [true, true, false, false]), none, (.mov (.loc 0))⟩, [])]))))

theorem plA {m : Nat} {l s0 : Value} {c : Nat} (ha : ArrF H nx m (fun _ => 0)) {H0 : Heap} (hs : Same H0 H nx) (hm : m ≤ 4000)
    (hexit : ∀ σ H', SubS [([], s0), ([true], l), ([false, false], .slice (some ⟨nx, 0, some 1⟩) m c)] σ → ArrF H' nx m (fun _ => -1) → Same H0 H' nx → Q (.exit 0) σ H' (nx + 1)) :
    WC A (.loop xPlA) [([], s0), ([true], l), ([false, false], .slice (some ⟨nx, 0, some 1⟩) m c), ([true, false, true, true], .int .i64 m), ([false, false, true, true], .int .i64 (Int.ofNat 0))] H (nx + 1) Q := by
  refine WC.loop (α := Nat) (fun k => [([], s0), ([true], l), ([false, false], .slice (some ⟨nx, 0, some 1⟩) m c), ([true, false, true, true], .int .i64 m), ([false, false, true, true], .int .i64 k)]) (fun k H' nx' => nx' = nx + 1 ∧ k ≤ m ∧ ArrF H' nx m (fun i => if i < k then -1 else 0) ∧ Same H0 H' nx) (fun k => m - k)
    ?_ 0 (.cons rfl (.cons rfl (.cons rfl (.cons rfl (.cons rfl (.nil _)))))) ⟨rfl, Nat.zero_le _, by simpa using ha, hs⟩
  clear ha hs
  rintro k H _ ⟨rfl, hk, ⟨cs, h1, h2, h3⟩, hs⟩
  unfold xPlA
  repeat' (first | ((first | refine WO.n rfl ?_ | refine WO.k rfl ?_); (first | refine Then.of (Act.mov rfl) ?_ | refine Then.of (Act.ixs rfl rfl (by omega)) ?_ | refine Then.of (Act.sto1 rfl rfl rfl rfl (by (with_reducible (first | exact get_self | assumption | ((repeat ((apply get_skip); (with_unfolding_all omega))); first | exact get_self | assumption)))) (by (first | omega | decide | (simp only [List.length_map, List.length_append, List.length_set, List.length_cons, List.length_nil, List.length_replicate, List.length_range]; omega)))) ?_ | ((refine Then.both (Act.lss rfl rfl) (fun h => ?_) (fun h => ?_)) <;> (try simp only [Int.ofNat_eq_natCast] at h)) | refine Then.of (Act.addN rfl rfl (by omega)) ?_)) | with_reducible refine WO.nil ?_ | with_reducible refine WC.reg ?_ | with_reducible refine WC.seq ?_ | with_reducible refine WC.skip ?_ | with_reducible refine WC.exit ?_ | with_reducible refine WC.block ?_ | refine WC.condT rfl ?_ | refine WC.condF rfl ?_ | with_reducible refine stN ?_ | with_reducible refine stE ?_ | with_reducible refine bkN ?_)
  · refine ⟨k + 1, by omega, .cons rfl (.cons rfl (.cons rfl (.cons rfl (.cons rfl (.nil _))))), rfl, by omega, ⟨_, get_self, by simpa using h2, fun i hi => ?_⟩, hs.set (Nat.le_refl _)⟩
    rw [List.getElem?_set]
    by_cases e : 0 + k * 1 = i
    · rw [if_pos e, if_pos (by omega)]
      show some (Value.int .i64 (-1)) = some (.int .i64 (if i < k + 1 then -1 else 0))
      rw [if_pos (by omega)]
    · rw [if_neg e, h3 i hi]
      show some (Value.int .i64 (if i < k then -1 else 0)) = some (.int .i64 (if i < k + 1 then -1 else 0))
      by_cases e2 : i < k
      · rw [if_pos e2, if_pos (by omega)]
      · rw [if_neg e2, if_neg (by omega)]
  · exact hexit _ _ (.cons rfl (.cons rfl (.cons rfl (.nil _)))) ⟨cs, h1, h2, fun i hi => (h3 i hi).trans (by show some (Value.int .i64 (if i < k then -1 else 0)) = _; rw [if_pos (by omega)])⟩ hs

/-- what is known behind 'k' rounds -/
def Known (l : List Int) (k : Nat) (f : Nat → Int) : Prop :=
  (∀ (i : Nat) x, i < k → l[i]? = some x → 0 ≤ x ∧ x < l.length ∧ f x.toNat = i) ∧ ∀ v : Nat, v < l.length → f v = -1 ∨ ∃ i : Nat, i < k ∧ l[i]? = some (v : Int) ∧ f v = i

theorem plB {l : List Int} {base : Option Addr} {c c1 : Nat} {H0 : Heap} (hl : SlE H0 nx 1 encI (.slice base l.length c) l) (ha : ArrF H nx l.length (fun _ => -1)) (hs : Same H0 H nx) (hm : l.length ≤ 4000)
    (hret : ¬ PermI l.length l → ∀ σ H' nx', SubS [([false, true], .slice none 0 0), ([true, false], .bool false)] σ → Same H0 H' nx → nx ≤ nx' → Q .ret σ H' nx')
    (hexit : PermI l.length l → ∀ at_ σ H', SubS [([false, false], .slice (some ⟨nx, 0, some 1⟩) l.length c1)] σ → Places l at_ → ArrF H' nx l.length (fun i => at_.getD i 0) → Same H0 H' nx → Q (.exit 2) σ H' (nx + 1)) :
    WC A (.loop xPlB) [([], .int .i64 l.length), ([false, false], .slice (some ⟨nx, 0, some 1⟩) l.length c1), ([true, false, true, false], .slice base l.length c), ([false, false, true, false], .int .i64 l.length), ([true, true, false, false], .int .i64 (Int.ofNat 0))] H (nx + 1) Q := by
  refine WC.loop (α := Nat × (Nat → Int)) (fun k => [([], .int .i64 l.length), ([false, false], .slice (some ⟨nx, 0, some 1⟩) l.length c1), ([true, false, true, false], .slice base l.length c), ([false, false, true, false], .int .i64 l.length), ([true, true, false, false], .int .i64 k.1)])
    (fun k H' nx' => nx' = nx + 1 ∧ k.1 ≤ l.length ∧ ArrF H' nx l.length k.2 ∧ Known l k.1 k.2 ∧ Same H0 H' nx) (fun k => l.length - k.1)
    ?_ (0, fun _ => -1) (.cons rfl (.cons rfl (.cons rfl (.cons rfl (.cons rfl (.nil _)))))) ⟨rfl, Nat.zero_le _, ha, ⟨fun i x h => by omega, fun v _ => .inl rfl⟩, hs⟩
  clear ha hs
  rintro ⟨k, f⟩ H _ ⟨rfl, hk, ⟨cs, h1, h2, h3⟩, ⟨q1, q2⟩, hs⟩
  simp only at hk h3 q1 q2 ⊢
  unfold xPlB
  repeat' (first | ((first | refine WO.n rfl ?_ | refine WO.k rfl ?_); ((refine Then.both (Act.lss rfl rfl) (fun h => ?_) (fun h => ?_)) <;> (try simp only [Int.ofNat_eq_natCast] at h))) | with_reducible refine WO.nil ?_ | with_reducible refine WC.reg ?_ | with_reducible refine WC.seq ?_ | with_reducible refine WC.skip ?_ | with_reducible refine WC.exit ?_ | with_reducible refine WC.block ?_ | refine WC.condT rfl ?_ | refine WC.condF rfl ?_ | with_reducible refine stN ?_ | with_reducible refine stE ?_)
  · obtain ⟨b, o, ds, rfl, hb, _, _, hr, hds⟩ := hl.at (by intro e; rw [e] at h; simp at h; omega)
    have hlt : k < l.length := by omega
    have hx := take1 (v := .int .i64 l[k]) (hds k l[k] (by simp [hlt]))
    have hr' := hs.rd hb hr
    repeat' (first | ((first | refine WO.n rfl ?_ | refine WO.k rfl ?_); (first | refine Then.of (Act.mov rfl) ?_ | refine Then.of (Act.pick rfl rfl rfl) ?_ | refine Then.of (Act.lod rfl (by (with_reducible (first | exact Rd.self | assumption | exact Rd.own (by assumption) | ((repeat ((apply Rd.skip); (with_unfolding_all omega))); first | exact Rd.self | assumption | exact Rd.own (by assumption))))) (partOf_one (by assumption))) ?_ | refine Then.of (Act.ixs rfl rfl (by omega)) ?_ | ((refine Then.both (Act.lss rfl rfl) (fun h => ?_) (fun h => ?_)) <;> (try simp only [Int.ofNat_eq_natCast] at h)) | ((refine Then.both (Act.geq rfl rfl) (fun h => ?_) (fun h => ?_)) <;> (try simp only [Int.ofNat_eq_natCast] at h)))) | refine WO.gYes rfl ?_ | refine WO.gNo rfl ?_ | with_reducible refine WO.nil ?_ | with_reducible refine WC.reg ?_ | with_reducible refine WC.seq ?_ | with_reducible refine WC.ret ?_ | refine WC.condT rfl ?_ | with_reducible refine stN ?_ | with_reducible refine stR ?_ | with_reducible refine bkR ?_)
    · exact hret (fun hp => by have := hp.2.1 l[k] (List.getElem_mem hlt); omega) _ _ _ (.cons rfl (.cons rfl (.nil _))) hs (by omega)
    · exact hret (fun hp => by have := hp.2.1 l[k] (List.getElem_mem hlt); omega) _ _ _ (.cons rfl (.cons rfl (.nil _))) hs (by omega)
    · obtain ⟨w, hw⟩ : ∃ w : Nat, l[k] = w := ⟨l[k].toNat, by omega⟩
      have hlw : l[k]? = some (w : Int) := by rw [List.getElem?_eq_getElem hlt, hw]
      have hwl : w < l.length := by omega
      rw [hw]
      have h4 : cs[0 + w * 1]? = some (.int .i64 (f w)) := by simpa using h3 w (by omega)
      repeat' (first | ((first | refine WO.n rfl ?_ | refine WO.k rfl ?_); (first | refine Then.of (Act.mov rfl) ?_ | refine Then.of (Act.pick rfl rfl rfl) ?_ | refine Then.of (Act.lod rfl (by (with_reducible (first | exact Rd.self | assumption | exact Rd.own (by assumption) | ((repeat ((apply Rd.skip); (with_unfolding_all omega))); first | exact Rd.self | assumption | exact Rd.own (by assumption))))) (partOf_one (by assumption))) ?_ | refine Then.of (Act.ixs rfl rfl (by omega)) ?_ | refine Then.of (Act.sto1 rfl rfl rfl rfl (by (with_reducible (first | exact get_self | assumption | ((repeat ((apply get_skip); (with_unfolding_all omega))); first | exact get_self | assumption)))) (by (first | omega | decide | (simp only [List.length_map, List.length_append, List.length_set, List.length_cons, List.length_nil, List.length_replicate, List.length_range]; omega)))) ?_ | ((refine Then.both (Act.geq rfl rfl) (fun h => ?_) (fun h => ?_)) <;> (try simp only [Int.ofNat_eq_natCast] at h)) | refine Then.of (Act.addN rfl rfl (by omega)) ?_)) | refine WO.gYes rfl ?_ | with_reducible refine WO.nil ?_ | with_reducible refine WC.reg ?_ | with_reducible refine WC.seq ?_ | with_reducible refine WC.skip ?_ | with_reducible refine WC.ret ?_ | refine WC.condT rfl ?_ | refine WC.condF rfl ?_ | with_reducible refine stN ?_ | with_reducible refine stR ?_ | with_reducible refine bkN ?_ | with_reducible refine bkR ?_)
      · refine hret (fun hp => ?_) _ _ _ (.cons rfl (.cons rfl (.nil _))) hs (by omega)
        rcases q2 w (by omega) with e | ⟨i, hi, hli, _⟩
        · omega
        · have := (List.getElem?_inj (by omega) hp.2.2).1 (hli.trans hlw.symm)
          omega
      · refine ⟨(k + 1, fun v => if v = w then (k : Int) else f v), by show l.length - (k + 1) < l.length - k; omega, .cons rfl (.cons rfl (.cons rfl (.cons rfl (.cons rfl (.nil _))))), rfl, by show k + 1 ≤ _; omega, ⟨_, get_self, by simpa using h2, fun i hi => ?_⟩, ⟨fun i x hi hxx => ?_, fun v hv => ?_⟩, hs.set (Nat.le_refl _)⟩
        · rw [List.getElem?_set]
          show _ = some (Value.int .i64 (if i = w then (k : Int) else f i))
          by_cases e : 0 + w * 1 = i
          · rw [if_pos e, if_pos (by omega), if_pos (by omega)]
          · rw [if_neg e, h3 i hi, if_neg (by omega)]
        · show 0 ≤ x ∧ x < l.length ∧ (if x.toNat = w then (k : Int) else f x.toNat) = i
          rcases (show i < k ∨ i = k by have : i < k + 1 := hi; omega) with h5 | rfl
          · obtain ⟨p1, p2, p3⟩ := q1 i x h5 hxx
            refine ⟨p1, p2, ?_⟩
            rw [if_neg (fun e => ?_)]
            · exact p3
            · rw [e] at p3; omega
          · rw [hlw] at hxx
            cases hxx
            exact ⟨by omega, by omega, by rw [if_pos (by omega)]⟩
        · show (if v = w then (k : Int) else f v) = -1 ∨ ∃ i : Nat, i < k + 1 ∧ l[i]? = some (v : Int) ∧ (if v = w then (k : Int) else f v) = i
          by_cases e : v = w
          · exact .inr ⟨k, by omega, by rw [hlw, e], by rw [if_pos e]⟩
          · rw [if_neg e]
            rcases q2 v hv with h5 | ⟨i, h5, h6, h7⟩
            · exact .inl h5
            · exact .inr ⟨i, by omega, h6, h7⟩
  · have hkl : k = l.length := by omega
    subst hkl
    have hp : PermI l.length l := by
      refine ⟨rfl, fun x hx => ?_, ?_⟩
      · obtain ⟨i, hi, rfl⟩ := List.getElem_of_mem hx
        have := q1 i _ hi (List.getElem?_eq_getElem hi)
        exact ⟨this.1, this.2.1⟩
      · refine List.pairwise_iff_getElem.2 fun i j hi hj hij e => ?_
        have p1 := (q1 i _ hi (List.getElem?_eq_getElem hi)).2.2
        have p2 := (q1 j _ hj (List.getElem?_eq_getElem hj)).2.2
        rw [e] at p1
        omega
    refine hexit hp ((List.range l.length).map f) _ _ (.cons rfl (.nil _)) ⟨by simp, fun i x hx => ?_⟩ ⟨cs, h1, h2, fun i hi => (h3 i hi).trans ?_⟩ hs
    · have hi := (List.getElem?_eq_some_iff.1 hx).1
      obtain ⟨p1, p2, p3⟩ := q1 i x hi hx
      rw [List.getElem?_map, List.getElem?_range (by omega)]
      simpa using p3
    · simp [List.getD_eq_getElem?_getD, List.getElem?_map, List.getElem?_range hi]

/-- where each node stands, as a function of the node -/
theorem places_spec {g : FuncId} (hf : A.funcs g = some xPl) (hh : ∀ vs H nx, A.hook g vs H nx = none) {n : Int} {lv : Value} {l : List Int} (hl : SlE H nx 1 encI lv l) (hm : l.length ≤ 4000) :
    WF A g [.int .i64 n, lv] H nx fun v H' nx' => Same H H' nx ∧ nx ≤ nx' ∧ ((¬ PermI n l ∧ v = .tuple #[.slice none 0 0, .bool false]) ∨
      (PermI n l ∧ ∃ at_ c, v = .tuple #[.slice (some ⟨nx, 0, some 1⟩) l.length c, .bool true] ∧ Places l at_ ∧ nx < nx' ∧ ArrF H' nx l.length (fun i => at_.getD i 0))) := by
  obtain ⟨base, c, rfl⟩ := hl.form
  refine WF.enter (hh _ _ _) hf ?_
  repeat' (first | ((first | refine WO.n rfl ?_ | refine WO.k rfl ?_); (first | refine Then.of (Act.mov rfl) ?_ | refine Then.of (Act.len rfl) ?_ | ((refine Then.both (Act.neqI rfl rfl) (fun h => ?_) (fun h => ?_)) <;> (try simp only [Int.ofNat_eq_natCast] at h)))) | with_reducible refine WO.nil ?_ | with_reducible refine WC.reg ?_ | with_reducible refine WC.seq ?_ | with_reducible refine WC.skip ?_ | with_reducible refine WC.ret ?_ | refine WC.condT rfl ?_ | refine WC.condF rfl ?_ | with_reducible refine stN ?_ | with_reducible refine stR ?_)
  · refine fin_ret (vs := [_, _]) rfl ⟨Same.refl, Nat.le_refl _, .inl ⟨fun hp => ?_, rfl⟩⟩
    have := hp.1
    omega
  · obtain rfl : n = l.length := by omega
    repeat' (first | ((first | refine WO.n rfl ?_ | refine WO.k rfl ?_); (first | refine Then.of (Act.mov rfl) ?_ | refine Then.of (Act.len rfl) ?_ | refine Then.of (Act.mks rfl rfl (by omega) (by unfold small; omega) (by unfold small; omega) (by omega)) ?_)) | with_reducible refine WO.nil ?_ | with_reducible refine WC.reg ?_ | with_reducible refine WC.seq ?_ | with_reducible refine WC.block ?_ | with_reducible refine stN ?_)
    refine WC.sub (.cons rfl (.cons rfl (.cons rfl (.cons rfl (.cons rfl (.nil _)))))) (plA (l := .slice base l.length c) (s0 := .int .i64 l.length) (H0 := H) ⟨_, get_self, by rw [repeatN_one]; simp, fun i hi => by rw [repeatN_one, List.getElem?_replicate, if_pos hi]; rfl⟩ (Same.refl.set (Nat.le_refl _)) hm (fun σ H' hσ ha hs => ?_))
    refine bkE (stN (WC.sub hσ ?_))
    repeat' (first | (refine WO.k rfl ?_; (first | refine Then.of (Act.mov rfl) ?_ | refine Then.of (Act.len rfl) ?_)) | with_reducible refine WO.nil ?_ | with_reducible refine WC.reg ?_ | with_reducible refine WC.seq ?_ | with_reducible refine WC.block ?_ | with_reducible refine stN ?_)
    refine WC.sub (.cons rfl (.cons rfl (.cons rfl (.cons rfl (.cons rfl (.nil _)))))) (plB hl ha hs hm (fun hn σ H2 nx2 h1 h2 h3 => ?_) (fun hp at_ σ H2 h1 h2 h3 h4 => ?_))
    · repeat' (first | with_reducible refine stR ?_ | with_reducible refine bkR ?_)
      exact fin_ret' (vs := [_, _]) h1 rfl ⟨h2, h3, .inl ⟨hn, rfl⟩⟩
    · refine bkE (stN (WC.sub h1 ?_))
      repeat' (first | (refine WO.k rfl ?_; refine Then.of (Act.mov rfl) ?_) | with_reducible refine WO.nil ?_ | with_reducible refine WC.reg ?_ | with_reducible refine WC.seq ?_ | with_reducible refine WC.ret ?_ | with_reducible refine stN ?_)
      exact fin_ret (vs := [_, _]) rfl ⟨h4, by omega, .inr ⟨hp, at_, _, rfl, h2, by omega, h3⟩⟩
end Go.Eng
