import Derived.Test.YtomcmognemechaaGreatEd
/- Lists of ints: the same? -/
namespace Go.Eng
variable {A : AProg} {H : Heap} {nx : Nat} {σ : Slots} {Q : Post}
set_option maxRecDepth 100000

def xInts : AFunc := ⟨[((.var [false, true]), none)], (.seq (.reg false [(⟨(some [false, true]), none, (.mov (.cst (.bool false)))⟩, [])]) (.seq (.seq (.reg false [(⟨none, none, (.len (.var []))⟩, []), (⟨none, none, (.len (.var [true]))⟩, []), (⟨(some [false, false, true]), none, (.bin .neq 3 (.loc 1) (.loc 0))⟩, [])]) (.cond (.var [false, false, true]) (.seq (.reg false [(⟨(some [false, true]), none, (.mov (.cst (.bool false)))⟩, [])]) .ret) .skip)) (.seq (.seq (.reg false [(⟨(some [true, false]), none, (.mov (.cst (.int .i64 (.ofNat 0))))⟩, [])]) (.block 0 (.loop (.seq (.seq (.reg false [(⟨none, none, (.len (.var []))⟩, []), (⟨(some [false, false, false]), none, (.bin .lss 3 (.var [true, false]) (.loc 0))⟩, [])]) (.cond (.var [false, false, false]) .skip (.exit 0))) (.seq (.block 1 (.seq (.reg true [(⟨none, none, (.ixs (.var []) (.var [true, false]) 1)⟩, []), (⟨none, none, (.lod (.loc 0) none)⟩, []), (⟨none, none, (.ixs (.var [true]) (.var [true, false]) 1)⟩, []), (⟨none, none, (.lod (.loc 0) none)⟩, []), (⟨(some [true, false, true, false]), none, (.bin .neq 3 (.loc 2) (.loc 0))⟩, [])]) (.cond (.var [true, false, true, false]) (.seq (.reg false [(⟨(some [false, true]), none, (.mov (.cst (.bool false)))⟩, [])]) .ret) .skip))) (.reg false [(⟨none, none, (.bin .add 3 (.var [true, false]) (.cst (.int .i64 (.ofNat 1))))⟩, []), (⟨(some [true, false]), none, (.mov (.loc 0))⟩, [])])))))) (.seq (.reg false [(⟨(some [false, true]), none, (.mov (.cst (.bool true)))⟩, [])]) .ret))))⟩

theorem ints_spec {g : FuncId} (hf : A.funcs g = some xInts) (hh : ∀ vs H nx, A.hook g vs H nx = none) {av bv : Value} {a b : List Int} (ha : SlE H nx 1 encI av a) (hb : SlE H nx 1 encI bv b) (hm4 : a.length ≤ 4000) :
    WF A g [av, bv] H nx fun v H' nx' => H' = H ∧ nx' = nx ∧ v = .bool (decide (a = b)) := by
  obtain ⟨base, c, rfl⟩ := ha.form
  obtain ⟨bbase, bc, rfl⟩ := hb.form
  refine WF.enter (hh _ _ _) hf ?_
  repeat' (first | ((first | refine WO.n rfl ?_ | refine WO.k rfl ?_); (first | refine Then.of (Act.mov rfl) ?_ | refine Then.of (Act.len rfl) ?_ | ((refine Then.both (Act.neqI rfl rfl) (fun h => ?_) (fun h => ?_)) <;> (try simp only [Int.ofNat_eq_natCast] at h)))) | with_reducible refine WO.nil ?_ | with_reducible refine WC.reg ?_ | with_reducible refine WC.seq ?_ | with_reducible refine WC.skip ?_ | with_reducible refine WC.ret ?_ | with_reducible refine WC.block ?_ | refine WC.condT rfl ?_ | refine WC.condF rfl ?_ | with_reducible refine stN ?_ | with_reducible refine stR ?_)
  · exact fin_ret (vs := [_]) rfl ⟨rfl, rfl, by rw [decide_eq_false (fun e => by rw [e] at h; exact h rfl)]; rfl⟩
  · have hab : a.length = b.length := by omega
    refine WC.loop (α := Nat) (fun k => [([], .slice base a.length c), ([true], .slice bbase b.length bc), ([true, false], .int .i64 k)]) (fun k H' nx' => H' = H ∧ nx' = nx ∧ k ≤ a.length ∧ ∀ i : Nat, i < k → a[i]? = b[i]?) (fun k => a.length - k)
      ?_ 0 (.cons rfl (.cons rfl (.cons rfl (.nil _)))) ⟨rfl, rfl, Nat.zero_le _, fun i h => by omega⟩
    rintro k _ _ ⟨rfl, rfl, hk, hin⟩
    repeat' (first | ((first | refine WO.n rfl ?_ | refine WO.k rfl ?_); (first | refine Then.of (Act.mov rfl) ?_ | refine Then.of (Act.len rfl) ?_ | ((refine Then.both (Act.lss rfl rfl) (fun h => ?_) (fun h => ?_)) <;> (try simp only [Int.ofNat_eq_natCast] at h)))) | with_reducible refine WO.nil ?_ | with_reducible refine WC.reg ?_ | with_reducible refine WC.drawn ?_ | with_reducible refine WC.seq ?_ | with_reducible refine WC.skip ?_ | with_reducible refine WC.ret ?_ | with_reducible refine WC.exit ?_ | with_reducible refine WC.block ?_ | refine WC.condT rfl ?_ | refine WC.condF rfl ?_ | with_reducible refine stN ?_ | with_reducible refine stE ?_ | with_reducible refine bkE ?_)
    · have hka : k < a.length := by omega
      have hkb : k < b.length := by omega
      obtain ⟨b1, o1, cs1, rfl, _, _, _, hr1, hcs1⟩ := ha.at (by intro e; rw [e] at hka; simp at hka)
      obtain ⟨b2, o2, cs2, rfl, _, _, _, hr2, hcs2⟩ := hb.at (by intro e; rw [e] at hkb; simp at hkb)
      have hx := take1 (v := .int .i64 a[k]) (hcs1 k a[k] (by simp [hka]))
      have hy := take1 (v := .int .i64 b[k]) (hcs2 k b[k] (by simp [hkb]))
      repeat' (first | ((first | refine WO.n rfl ?_ | refine WO.k rfl ?_); (first | refine Then.of (Act.mov rfl) ?_ | refine Then.of (Act.lod rfl (by (with_reducible (first | exact Rd.self | assumption | exact Rd.own (by assumption) | ((repeat ((apply Rd.skip); (with_unfolding_all omega))); first | exact Rd.self | assumption | exact Rd.own (by assumption))))) (partOf_one (by assumption))) ?_ | refine Then.of (Act.ixs rfl rfl (by omega)) ?_ | ((refine Then.both (Act.neqI rfl rfl) (fun h => ?_) (fun h => ?_)) <;> (try simp only [Int.ofNat_eq_natCast] at h)) | refine Then.of (Act.addN rfl rfl (by omega)) ?_)) | with_reducible refine WO.nil ?_ | with_reducible refine WC.reg ?_ | with_reducible refine WC.seq ?_ | with_reducible refine WC.skip ?_ | with_reducible refine WC.ret ?_ | refine WC.condT rfl ?_ | refine WC.condF rfl ?_ | with_reducible refine stN ?_ | with_reducible refine stR ?_ | with_reducible refine bkN ?_ | with_reducible refine bkR ?_ | with_reducible refine drN ?_)
      · exact fin_ret (vs := [_]) rfl ⟨rfl, rfl, by rw [decide_eq_false (fun e => h (by simp only [e]))]; rfl⟩
      · refine ⟨k + 1, by omega, .cons rfl (.cons rfl (.cons rfl (.nil _))), rfl, rfl, by omega, fun i hi => ?_⟩
        rcases (show i < k ∨ i = k by omega) with h5 | rfl
        · exact hin i h5
        · rw [List.getElem?_eq_getElem hka, List.getElem?_eq_getElem hkb, Classical.not_not.1 h]
    · refine fin_ret (vs := [_]) rfl ⟨rfl, rfl, ?_⟩
      rw [decide_eq_true (List.ext_getElem? fun i => ?_)]
      · rfl
      · rcases Nat.lt_or_ge i k with h5 | h5
        · exact hin i h5
        · rw [List.getElem?_eq_none (by omega), List.getElem?_eq_none (by omega)]
end Go.Eng
