import Derived.Test.YtkojdclaojbpiaaGreatWc
/- The reference's 'Chosen' and 'places'. -/
namespace Go.Eng
variable {A : AProg} {H : Heap} {nx : Nat} {σ : Slots} {Q : Post}
set_option maxRecDepth 100000

def xCh : AFunc := ⟨[((.var [false, true]), none)], (.seq (.reg false [(⟨(some [false, true]), none, (.mov (.cst (.int .i64 (.ofNat 0))))⟩, [])]) (.seq (.seq (.reg false [(⟨(some [true, false]), none, (.mov (.cst (.int .i64 (.ofNat 0))))⟩, [])]) (.block 0 (.loop (.seq (.seq (.reg false [(⟨none, none, (.len (.var []))⟩, []), (⟨(some [false, false, true]), none, (.bin .lss 3 (.var [true, false]) (.loc 0))⟩, [])]) (.cond (.var [false, false, true]) .skip (.exit 0))) (.seq (.block 1 (.seq (.seq (.reg false [(⟨none, none, (.ixs (.var []) (.var [true, false]) 1)⟩, []), (⟨none, none, (.lod (.loc 0) none)⟩, []), (⟨none, none, (.bin .lss 3 (.loc 0) (.cst (.int .i64 (.ofNat 0))))⟩, []), (⟨none, none, (.mov (.loc 0))⟩, []), (⟨none, (some (0, false)), (.mov (.var []))⟩, []), (⟨none, (some (1, false)), (.mov (.var [true, false]))⟩, []), (⟨none, (some (2, false)), (.ixs (.loc 1) (.loc 0) 1)⟩, []), (⟨none, (some (3, false)), (.lod (.loc 0) none)⟩, []), (⟨none, (some (4, false)), (.mov (.var [true]))⟩, []), (⟨none, (some (5, false)), (.bin .geq 3 (.loc 1) (.loc 0))⟩, []), (⟨(some [true, false, true, false]), none, (.pick (.loc 6) (.cst (.bool true)) (.loc 0))⟩, [])]) (.cond (.var [true, false, true, false]) (.seq (.reg false [(⟨(some [false, true]), none, (.mov (.cst (.int .i64 (.ofNat 2))))⟩, [])]) .ret) .skip)) (.seq (.reg false [(⟨(some [false, false]), none, (.mov (.cst (.int .i64 (.ofNat 0))))⟩, [])]) (.block 2 (.loop (.seq (.seq (.reg false [(⟨(some [false, true, false, false]), none, (.bin .lss 3 (.var [false, false]) (.var [true, false]))⟩, [])]) (.cond (.var [false, true, false, false]) .skip (.exit 2))) (.seq (.block 3 (.seq (.reg true [(⟨none, none, (.ixs (.var []) (.var [false, false]) 1)⟩, []), (⟨none, none, (.lod (.loc 0) none)⟩, []), (⟨none, none, (.ixs (.var []) (.var [true, false]) 1)⟩, []), (⟨none, none, (.lod (.loc 0) none)⟩, []), (⟨(some [true, true, true, false, true]), none, (.bin .eql 3 (.loc 2) (.loc 0))⟩, [])]) (.cond (.var [true, true, true, false, true]) (.seq (.reg false [(⟨(some [false, true]), none, (.mov (.cst (.int .i64 (.ofNat 18))))⟩, [])]) .ret) .skip))) (.reg false [(⟨none, none, (.bin .add 3 (.var [false, false]) (.cst (.int .i64 (.ofNat 1))))⟩, []), (⟨(some [false, false]), none, (.mov (.loc 0))⟩, [])])))))))) (.reg false [(⟨none, none, (.bin .add 3 (.var [true, false]) (.cst (.int .i64 (.ofNat 1))))⟩, []), (⟨(some [true, false]), none, (.mov (.loc 0))⟩, [])])))))) (.seq (.reg false [(⟨(some [false, true]), none, (.mov (.cst (.int .i64 (.ofNat 0))))⟩, [])]) .ret)))⟩
def xChO : ACode := (.seq (.seq (.reg false [(⟨none, none, (.len (.var []))⟩, []), (⟨(some [false, false, true]), none, (.bin .lss 3 (.var [true, false]) (.loc 0))⟩, [])]) (.cond (.var [false, false, true]) .skip (.exit 0))) (.seq (.block 1 (.seq (.seq (.reg false [(⟨none, none, (.ixs (.var []) (.var [true, false]) 1)⟩, []), (⟨none, none, (.lod (.loc 0) none)⟩, []), (⟨none, none, (.bin .lss 3 (.loc 0) (.cst (.int .i64 (.ofNat 0))))⟩, []), (⟨none, none, (.mov (.loc 0))⟩, []), (⟨none, (some (0, false)), (.mov (.var []))⟩, []), (⟨none, (some (1, false)), (.mov (.var [true, false]))⟩, []), (⟨none, (some (2, false)), (.ixs (.loc 1) (.loc 0) 1)⟩, []), (⟨none, (some (3, false)), (.lod (.loc 0) none)⟩, []), (⟨none, (some (4, false)), (.mov (.var [true]))⟩, []), (⟨none, (some (5, false)), (.bin .geq 3 (.loc 1) (.loc 0))⟩, []), (⟨(some [true, false, true, false]), none, (.pick (.loc 6) (.cst (.bool true)) (.loc 0))⟩, [])]) (.cond (.var [true, false, true, false]) (.seq (.reg false [(⟨(some [false, true]), none, (.mov (.cst (.int .i64 (.ofNat 2))))⟩, [])]) .ret) .skip)) (.seq (.reg false [(⟨(some [false, false]), none, (.mov (.cst (.int .i64 (.ofNat 0))))⟩, [])]) (.block 2 (.loop (.seq (.seq (.reg false [(⟨(some [false, true, false, false]), none, (.bin .lss 3 (.var [false, false]) (.var [true, false]))⟩, [])]) (.cond (.var [false, true, false, false]) .skip (.exit 2))) (.seq (.block 3 (.seq (.reg true [(⟨none, none, (.ixs (.var []) (.var [false, false]) 1)⟩, []), (⟨none, none, (.lod (.loc 0) none)⟩, []), (⟨none, none, (.ixs (.var []) (.var [true, false]) 1)⟩, []), (⟨none, none, (.lod (.loc 0) none)⟩, []), (⟨(some [true, true, true, false, true]), none, (.bin .eql 3 (.loc 2) (.loc 0))⟩, [])]) (.cond (.var [true, true, true, false, true]) (.seq (.reg false [(⟨(some [false, true]), none, (.mov (.cst (.int .i64 (.ofNat 18))))⟩, [])]) .ret) .skip))) (.reg false [(⟨none, none, (.bin .add 3 (.var [false, false]) (.cst (.int .i64 (.ofNat 1))))⟩, []), (⟨(some [false, false]), none, (.mov (.loc 0))⟩, [])])))))))) (.reg false [(⟨none, none, (.bin .add 3 (.var [true, false]) (.cst (.int .i64 (.ofNat 1))))⟩, []), (⟨(some [true, false]), none, (.mov (.loc 0))⟩, [])])))
def xChI : ACode := (.seq (.seq (.reg false [(⟨(some [false, true, false, false]), none, (.bin .lss 3 (.var [false, false]) (.var [true, false]))⟩, [])]) (.cond (.var [false, true, false, false]) .skip (.exit 2))) (.seq (.block 3 (.seq (.reg true [(⟨none, none, (.ixs (.var []) (.var [false, false]) 1)⟩, []), (⟨none, none, (.lod (.loc 0) none)⟩, []), (⟨none, none, (.ixs (.var []) (.var [true, false]) 1)⟩, []), (⟨none, none, (.lod (.loc 0) none)⟩, []), (⟨(some [true, true, true, false, true]), none, (.bin .eql 3 (.loc 2) (.loc 0))⟩, [])]) (.cond (.var [true, true, true, false, true]) (.seq (.reg false [(⟨(some [false, true]), none, (.mov (.cst (.int .i64 (.ofNat 18))))⟩, [])]) .ret) .skip))) (.reg false [(⟨none, none, (.bin .add 3 (.var [false, false]) (.cst (.int .i64 (.ofNat 1))))⟩, []), (⟨(some [false, false]), none, (.mov (.loc 0))⟩, [])])))
def xRPl : AFunc := ⟨[((.var [false, true]), none), ((.var [true, false]), none)], (.seq (.reg false [(⟨(some [false, true]), none, (.mov (.cst (.slice none 0 0)))⟩, []), (⟨(some [true, false]), none, (.mov (.cst (.bool false)))⟩, [])]) (.seq (.seq (.reg false [(⟨none, none, (.len (.var [true]))⟩, []), (⟨none, none, (.bin .neq 3 (.loc 0) (.var []))⟩, []), (⟨none, none, (.mov (.loc 0))⟩, []), (⟨none, (some (0, false)), (.mov (.var [true]))⟩, []), (⟨none, (some (1, false)), (.mov (.var []))⟩, []), (⟨none, (some (2, false)), (.call (.fn 53) [(.loc 1), (.loc 0)])⟩, []), (⟨none, (some (3, false)), (.bin .neq 28 (.loc 0) (.cst (.int .i64 (.ofNat 0))))⟩, []), (⟨(some [true, false, true, true]), none, (.pick (.loc 4) (.cst (.bool true)) (.loc 0))⟩, [])]) (.cond (.var [true, false, true, true]) (.seq (.reg false [(⟨(some [false, true]), none, (.mov (.cst (.slice none 0 0)))⟩, []), (⟨(some [true, false]), none, (.mov (.cst (.bool false)))⟩, [])]) .ret) .skip)) (.seq (.reg false [(⟨none, none, (.mks 1 8 [(.int .i64 (.ofNat 0))] (.var []) (.var []))⟩, []), (⟨(some [false, false]), none, (.mov (.loc 0))⟩, [])]) (.seq (.seq (.reg false [(⟨(some [true, true, true]), none, (.mov (.cst (.int .i64 (.ofNat 0))))⟩, [])]) (.block 0 (.loop (.seq (.seq (.reg false [(⟨(some [false, false, false, true]), none, (.bin .lss 3 (.var [true, true, true]) (.var []))⟩, [])]) (.cond (.var [false, false, false, true]) .skip (.exit 0))) (.seq (.block 1 (.reg false [(⟨none, none, (.ixs (.var [true]) (.var [true, true, true]) 1)⟩, []), (⟨none, none, (.lod (.loc 0) none)⟩, []), (⟨none, none, (.ixs (.var [false, false]) (.loc 0) 1)⟩, []), (⟨none, none, (.sto (.loc 0) (.var [true, true, true]) 1)⟩, [])])) (.reg false [(⟨none, none, (.bin .add 3 (.var [true, true, true]) (.cst (.int .i64 (.ofNat 1))))⟩, []), (⟨(some [true, true, true]), none, (.mov (.loc 0))⟩, [])])))))) (.seq (.reg false [(⟨(some [false, true]), none, (.mov (.var [false, false]))⟩, []), (⟨(some [true, false]), none, (.mov (.cst (.bool true)))⟩, [])]) .ret)))))⟩
def xRPlL : ACode := (.seq (.seq (.reg false [(⟨(some [false, false, false, true]), none, (.bin .lss 3 (.var [true, true, true]) (.var []))⟩, [])]) (.cond (.var [false, false, false, true]) .skip (.exit 0))) (.seq (.block 1 (.reg false [(⟨none, none, (.ixs (.var [true]) (.var [true, true, true]) 1)⟩, []), (⟨none, none, (.lod (.loc 0) none)⟩, []), (⟨none, none, (.ixs (.var [false, false]) (.loc 0) 1)⟩, []), (⟨none, none, (.sto (.loc 0) (.var [true, true, true]) 1)⟩, [])])) (.reg false [(⟨none, none, (.bin .add 3 (.var [true, true, true]) (.cst (.int .i64 (.ofNat 1))))⟩, []), (⟨(some [true, true, true]), none, (.mov (.loc 0))⟩, [])])))

/-- in bounds, each once -/
def Cho (n : Int) (l : List Int) : Prop := (∀ x ∈ l, 0 ≤ x ∧ x < n) ∧ l.Nodup

theorem chI {n : Int} {l : List Int} {base : Option Addr} {c k : Nat} (hl : SlE H nx 1 encI (.slice base l.length c) l) (hm : l.length ≤ 4000) (hk : k < l.length)
    (hret : ∀ i : Nat, i < k → l[i]? = l[k]? → ∀ σ, SubS [([false, true], .int .i64 18)] σ → Q .ret σ H nx)
    (hexit : (∀ i : Nat, i < k → l[i]? ≠ l[k]?) → ∀ σ, SubS [([], .slice base l.length c), ([true], .int .i64 n), ([true, false], .int .i64 k)] σ → Q (.exit 2) σ H nx) :
    WC A (.loop xChI) [([], .slice base l.length c), ([true], .int .i64 n), ([true, false], .int .i64 k), ([false, false], .int .i64 (Int.ofNat 0))] H nx Q := by
  obtain ⟨b, o, ds, rfl, hb, _, _, hr, hds⟩ := hl.at (by intro e; rw [e] at hk; simp at hk)
  refine WC.loop (α := Nat) (fun i => [([], .slice (some ⟨b, o, some 1⟩) l.length c), ([true], .int .i64 n), ([true, false], .int .i64 k), ([false, false], .int .i64 i)]) (fun i H' nx' => H' = H ∧ nx' = nx ∧ i ≤ k ∧ ∀ j : Nat, j < i → l[j]? ≠ l[k]?) (fun i => k - i)
    ?_ 0 (.cons rfl (.cons rfl (.cons rfl (.cons rfl (.nil _))))) ⟨rfl, rfl, Nat.zero_le _, fun j h => by omega⟩
  rintro i _ _ ⟨rfl, rfl, hi, hin⟩
  unfold xChI
  repeat' (first | ((first | refine WO.n rfl ?_ | refine WO.k rfl ?_); (first | refine Then.of (Act.ixs rfl rfl (by omega)) ?_ | ((refine Then.both (Act.lss rfl rfl) (fun h => ?_) (fun h => ?_)) <;> (try simp only [Int.ofNat_eq_natCast] at h)))) | with_reducible refine WO.nil ?_ | with_reducible refine WC.reg ?_ | with_reducible refine WC.drawn ?_ | with_reducible refine WC.seq ?_ | with_reducible refine WC.skip ?_ | with_reducible refine WC.exit ?_ | with_reducible refine WC.block ?_ | refine WC.condT rfl ?_ | refine WC.condF rfl ?_ | with_reducible refine stN ?_ | with_reducible refine stE ?_)
  · have hil : i < l.length := by omega
    have hx := take1 (v := .int .i64 l[i]) (hds i l[i] (by simp [hil]))
    have hy := take1 (v := .int .i64 l[k]) (hds k l[k] (by simp [hk]))
    repeat' (first | ((first | refine WO.n rfl ?_ | refine WO.k rfl ?_); (first | refine Then.of (Act.mov rfl) ?_ | refine Then.of (Act.lod rfl (by (with_reducible (first | exact Rd.self | assumption | exact Rd.own (by assumption) | ((repeat ((apply Rd.skip); (with_unfolding_all omega))); first | exact Rd.self | assumption | exact Rd.own (by assumption))))) (partOf_one (by assumption))) ?_ | refine Then.of (Act.ixs rfl rfl (by omega)) ?_ | ((refine Then.both (Act.eqlI rfl rfl) (fun h => ?_) (fun h => ?_)) <;> (try simp only [Int.ofNat_eq_natCast] at h)) | refine Then.of (Act.addN rfl rfl (by omega)) ?_)) | with_reducible refine WO.nil ?_ | with_reducible refine WC.reg ?_ | with_reducible refine WC.seq ?_ | with_reducible refine WC.skip ?_ | with_reducible refine WC.ret ?_ | refine WC.condT rfl ?_ | refine WC.condF rfl ?_ | with_reducible refine stN ?_ | with_reducible refine stR ?_ | with_reducible refine bkN ?_ | with_reducible refine bkR ?_ | with_reducible refine drN ?_)
    · exact hret i (by omega) (by rw [List.getElem?_eq_getElem hil, List.getElem?_eq_getElem hk]; congr 1) _ (.cons rfl (.nil _))
    · refine ⟨i + 1, by omega, .cons rfl (.cons rfl (.cons rfl (.cons rfl (.nil _)))), rfl, rfl, by omega, fun j hj e => ?_⟩
      rcases (show j < i ∨ j = i by omega) with h5 | rfl
      · exact hin j h5 e
      · rw [List.getElem?_eq_getElem hil, List.getElem?_eq_getElem hk] at e
        have := Option.some.inj e
        contradiction
  · exact hexit (fun j hj => hin j (by omega)) _ (.cons rfl (.cons rfl (.cons rfl (.nil _))))

theorem chosen_spec {g : FuncId} (hf : A.funcs g = some xCh) (hh : ∀ vs H nx, A.hook g vs H nx = none) {n : Int} {lv : Value} {l : List Int} (hl : SlE H nx 1 encI lv l) (hm : l.length ≤ 4000) :
    WF A g [lv, .int .i64 n] H nx fun v H' nx' => H' = H ∧ nx' = nx ∧ ∃ e : Int, v = .int .i64 e ∧ (e = 0 ↔ Cho n l) := by
  obtain ⟨base, c, rfl⟩ := hl.form
  refine WF.enter (hh _ _ _) hf ?_
  repeat' (first | (refine WO.k rfl ?_; refine Then.of (Act.mov rfl) ?_) | with_reducible refine WO.nil ?_ | with_reducible refine WC.reg ?_ | with_reducible refine WC.seq ?_ | with_reducible refine WC.block ?_ | with_reducible refine stN ?_)
  refine WC.loop (α := Nat) (fun k => [([], .slice base l.length c), ([true], .int .i64 n), ([true, false], .int .i64 k)]) (fun k H' nx' => H' = H ∧ nx' = nx ∧ k ≤ l.length ∧ (∀ (i : Nat) x, i < k → l[i]? = some x → 0 ≤ x ∧ x < n) ∧ ∀ i j : Nat, i < j → j < k → l[i]? ≠ l[j]?) (fun k => l.length - k)
    ?_ 0 (.cons rfl (.cons rfl (.cons rfl (.nil _)))) ⟨rfl, rfl, Nat.zero_le _, fun i x h => by omega, fun i j h h' => by omega⟩
  rintro k _ _ ⟨rfl, rfl, hk, hin, hdi⟩
  repeat' (first | ((first | refine WO.n rfl ?_ | refine WO.k rfl ?_); (first | refine Then.of (Act.mov rfl) ?_ | refine Then.of (Act.len rfl) ?_ | ((refine Then.both (Act.lss rfl rfl) (fun h => ?_) (fun h => ?_)) <;> (try simp only [Int.ofNat_eq_natCast] at h)))) | with_reducible refine WO.nil ?_ | with_reducible refine WC.reg ?_ | with_reducible refine WC.seq ?_ | with_reducible refine WC.skip ?_ | with_reducible refine WC.ret ?_ | with_reducible refine WC.exit ?_ | with_reducible refine WC.block ?_ | refine WC.condT rfl ?_ | refine WC.condF rfl ?_ | with_reducible refine stN ?_ | with_reducible refine stE ?_ | with_reducible refine bkE ?_)
  · have hlt : k < l.length := by omega
    obtain ⟨b, o, ds, rfl, hb, _, _, hr, hds⟩ := hl.at (by intro e; rw [e] at hlt; simp at hlt)
    have hx := take1 (v := .int .i64 l[k]) (hds k l[k] (by simp [hlt]))
    repeat' (first | ((first | refine WO.n rfl ?_ | refine WO.k rfl ?_); (first | refine Then.of (Act.mov rfl) ?_ | refine Then.of (Act.pick rfl rfl rfl) ?_ | refine Then.of (Act.lod rfl (by (with_reducible (first | exact Rd.self | assumption | exact Rd.own (by assumption) | ((repeat ((apply Rd.skip); (with_unfolding_all omega))); first | exact Rd.self | assumption | exact Rd.own (by assumption))))) (partOf_one (by assumption))) ?_ | refine Then.of (Act.ixs rfl rfl (by omega)) ?_ | ((refine Then.both (Act.lss rfl rfl) (fun h => ?_) (fun h => ?_)) <;> (try simp only [Int.ofNat_eq_natCast] at h)) | ((refine Then.both (Act.geq rfl rfl) (fun h => ?_) (fun h => ?_)) <;> (try simp only [Int.ofNat_eq_natCast] at h)))) | refine WO.gYes rfl ?_ | refine WO.gNo rfl ?_ | with_reducible refine WO.nil ?_ | with_reducible refine WC.reg ?_ | with_reducible refine WC.seq ?_ | with_reducible refine WC.skip ?_ | with_reducible refine WC.ret ?_ | with_reducible refine WC.block ?_ | refine WC.condT rfl ?_ | refine WC.condF rfl ?_ | with_reducible refine stN ?_ | with_reducible refine stR ?_ | with_reducible refine bkR ?_)
    · exact fin_ret (vs := [_]) rfl ⟨rfl, rfl, 2, rfl, by omega, fun hc => by have := hc.1 l[k] (List.getElem_mem hlt); omega⟩
    · exact fin_ret (vs := [_]) rfl ⟨rfl, rfl, 2, rfl, by omega, fun hc => by have := hc.1 l[k] (List.getElem_mem hlt); omega⟩
    · refine WC.sub (.cons rfl (.cons rfl (.cons rfl (.cons rfl (.nil _))))) (chI hl hm hlt (fun i hi e σ hσ => ?_) (fun hne σ hσ => ?_))
      · repeat' (first | with_reducible refine stR ?_ | with_reducible refine bkR ?_)
        refine fin_ret' (vs := [_]) hσ rfl ⟨rfl, rfl, 18, rfl, by omega, fun hc => ?_⟩
        have := (List.getElem?_inj (by omega) hc.2).1 e
        omega
      · refine bkE (bkN (stN (WC.sub hσ ?_)))
        repeat' (first | ((first | refine WO.n rfl ?_ | refine WO.k rfl ?_); (first | refine Then.of (Act.mov rfl) ?_ | refine Then.of (Act.addN rfl rfl (by omega)) ?_)) | with_reducible refine WO.nil ?_ | with_reducible refine WC.reg ?_)
        refine ⟨k + 1, by omega, .cons rfl (.cons rfl (.cons rfl (.nil _))), rfl, rfl, by omega, fun i x hi hxx => ?_, fun i j hij hj => ?_⟩
        · rcases (show i < k ∨ i = k by omega) with h5 | rfl
          · exact hin i x h5 hxx
          · rw [List.getElem?_eq_getElem hlt] at hxx
            cases hxx
            omega
        · rcases (show j < k ∨ j = k by omega) with h5 | rfl
          · exact hdi i j hij h5
          · exact hne i hij
  · refine fin_ret (vs := [_]) rfl ⟨rfl, rfl, 0, rfl, fun _ => ⟨fun x hx => ?_, ?_⟩, fun _ => rfl⟩
    · obtain ⟨i, hi, rfl⟩ := List.getElem_of_mem hx
      exact hin i _ (by omega) (List.getElem?_eq_getElem hi)
    · refine List.pairwise_iff_getElem.2 fun i j hi hj hij e => ?_
      refine hdi i j hij (by omega) ?_
      rw [List.getElem?_eq_getElem hi, List.getElem?_eq_getElem hj, e]

theorem rplL {l : List Int} {base : Option Addr} {c c1 : Nat} {H0 : Heap} (hl : SlE H0 nx 1 encI (.slice base l.length c) l) (hp : PermI l.length l) (ha : ArrF H nx l.length (fun _ => 0)) (hs : Same H0 H nx) (hm : l.length ≤ 4000)
    (hexit : ∀ at_ σ H', SubS [([false, false], .slice (some ⟨nx, 0, some 1⟩) l.length c1)] σ → Places l at_ → ArrF H' nx l.length (fun i => at_.getD i 0) → Same H0 H' nx → Q (.exit 0) σ H' (nx + 1)) :
    WC A (.loop xRPlL) [([], .int .i64 l.length), ([true], .slice base l.length c), ([false, false], .slice (some ⟨nx, 0, some 1⟩) l.length c1), ([true, true, true], .int .i64 (Int.ofNat 0))] H (nx + 1) Q := by
  refine WC.loop (α := Nat × (Nat → Int)) (fun k => [([], .int .i64 l.length), ([true], .slice base l.length c), ([false, false], .slice (some ⟨nx, 0, some 1⟩) l.length c1), ([true, true, true], .int .i64 k.1)])
    (fun k H' nx' => nx' = nx + 1 ∧ k.1 ≤ l.length ∧ ArrF H' nx l.length k.2 ∧ (∀ (i : Nat) x, i < k.1 → l[i]? = some x → k.2 x.toNat = i) ∧ Same H0 H' nx) (fun k => l.length - k.1)
    ?_ (0, fun _ => 0) (.cons rfl (.cons rfl (.cons rfl (.cons rfl (.nil _))))) ⟨rfl, Nat.zero_le _, ha, fun i x h => by omega, hs⟩
  clear ha hs
  rintro ⟨k, f⟩ H _ ⟨rfl, hk, ⟨cs, h1, h2, h3⟩, q1, hs⟩
  simp only at hk h3 q1 ⊢
  unfold xRPlL
  repeat' (first | ((first | refine WO.n rfl ?_ | refine WO.k rfl ?_); ((refine Then.both (Act.lss rfl rfl) (fun h => ?_) (fun h => ?_)) <;> (try simp only [Int.ofNat_eq_natCast] at h))) | with_reducible refine WO.nil ?_ | with_reducible refine WC.reg ?_ | with_reducible refine WC.seq ?_ | with_reducible refine WC.skip ?_ | with_reducible refine WC.exit ?_ | with_reducible refine WC.block ?_ | refine WC.condT rfl ?_ | refine WC.condF rfl ?_ | with_reducible refine stN ?_ | with_reducible refine stE ?_)
  · have hlt : k < l.length := by omega
    obtain ⟨b, o, ds, rfl, hb, _, _, hr, hds⟩ := hl.at (by intro e; rw [e] at hlt; simp at hlt)
    have hx := take1 (v := .int .i64 l[k]) (hds k l[k] (by simp [hlt]))
    have hr' := hs.rd hb hr
    have hbd := hp.2.1 l[k] (List.getElem_mem hlt)
    obtain ⟨w, hw⟩ : ∃ w : Nat, l[k] = w := ⟨l[k].toNat, by omega⟩
    have hlw : l[k]? = some (w : Int) := by rw [List.getElem?_eq_getElem hlt, hw]
    have hwl : w < l.length := by omega
    rw [hw] at hx
    repeat' (first | ((first | refine WO.n rfl ?_ | refine WO.k rfl ?_); (first | refine Then.of (Act.mov rfl) ?_ | refine Then.of (Act.lod rfl (by (with_reducible (first | exact Rd.self | assumption | exact Rd.own (by assumption) | ((repeat ((apply Rd.skip); (with_unfolding_all omega))); first | exact Rd.self | assumption | exact Rd.own (by assumption))))) (partOf_one (by assumption))) ?_ | refine Then.of (Act.ixs rfl rfl (by omega)) ?_ | refine Then.of (Act.sto1 rfl rfl rfl rfl (by (with_reducible (first | exact get_self | assumption | ((repeat ((apply get_skip); (with_unfolding_all omega))); first | exact get_self | assumption)))) (by (first | omega | decide | (simp only [List.length_map, List.length_append, List.length_set, List.length_cons, List.length_nil, List.length_replicate, List.length_range]; omega)))) ?_ | refine Then.of (Act.addN rfl rfl (by omega)) ?_)) | with_reducible refine WO.nil ?_ | with_reducible refine WC.reg ?_ | with_reducible refine stN ?_ | with_reducible refine bkN ?_)
    refine ⟨(k + 1, fun v => if v = w then (k : Int) else f v), by show l.length - (k + 1) < l.length - k; omega, .cons rfl (.cons rfl (.cons rfl (.cons rfl (.nil _)))), rfl, by show k + 1 ≤ _; omega, ⟨_, get_self, by simpa using h2, fun i hi => ?_⟩, fun i x hi hxx => ?_, hs.set (Nat.le_refl _)⟩
    · rw [List.getElem?_set]
      show _ = some (Value.int .i64 (if i = w then (k : Int) else f i))
      by_cases e : 0 + w * 1 = i
      · rw [if_pos e, if_pos (by omega), if_pos (by omega)]
      · rw [if_neg e, h3 i hi, if_neg (by omega)]
    · show (if x.toNat = w then (k : Int) else f x.toNat) = i
      rcases (show i < k ∨ i = k by have : i < k + 1 := hi; omega) with h5 | rfl
      · rw [if_neg (fun e => ?_)]
        · exact q1 i x h5 hxx
        · have hx2 := hp.2.1 x (List.mem_of_getElem? hxx)
          have : l[i]? = l[k]? := by rw [hxx, hlw]; congr 1; omega
          have := (List.getElem?_inj (by omega) hp.2.2).1 this
          omega
      · rw [hlw] at hxx
        cases hxx
        rw [if_pos (by omega)]
  · have hkl : k = l.length := by omega
    subst hkl
    refine hexit ((List.range l.length).map f) _ _ (.cons rfl (.nil _)) ⟨by simp, fun i x hx => ?_⟩ ⟨cs, h1, h2, fun i hi => (h3 i hi).trans ?_⟩ hs
    · have hi := (List.getElem?_eq_some_iff.1 hx).1
      have hb := hp.2.1 x (List.mem_of_getElem? hx)
      rw [List.getElem?_map, List.getElem?_range (by omega)]
      simpa using q1 i x hi hx
    · simp [List.getD_eq_getElem?_getD, List.getElem?_map, List.getElem?_range hi]

theorem rplaces_spec {g : FuncId} (hf : A.funcs g = some xRPl) (hh : ∀ vs H nx, A.hook g vs H nx = none) (hfc : A.funcs 53 = some xCh) (hhc : ∀ vs H nx, A.hook 53 vs H nx = none) {n : Int} {lv : Value} {l : List Int} (hl : SlE H nx 1 encI lv l) (hm : l.length ≤ 4000) :
    WF A g [.int .i64 n, lv] H nx fun v H' nx' => Same H H' nx ∧ nx ≤ nx' ∧ ((¬ PermI n l ∧ v = .tuple #[.slice none 0 0, .bool false]) ∨
      (PermI n l ∧ ∃ at_ c, v = .tuple #[.slice (some ⟨nx, 0, some 1⟩) l.length c, .bool true] ∧ Places l at_ ∧ nx < nx' ∧ ArrF H' nx l.length (fun i => at_.getD i 0))) := by
  obtain ⟨base, c, rfl⟩ := hl.form
  refine WF.enter (hh _ _ _) hf ?_
  repeat' (first | ((first | refine WO.n rfl ?_ | refine WO.k rfl ?_); (first | refine Then.of (Act.mov rfl) ?_ | refine Then.of (Act.len rfl) ?_ | refine Then.of (Act.pick rfl rfl rfl) ?_ | ((refine Then.both (Act.neqI rfl rfl) (fun h => ?_) (fun h => ?_)) <;> (try simp only [Int.ofNat_eq_natCast] at h)))) | refine WO.gYes rfl ?_ | refine WO.gNo rfl ?_ | with_reducible refine WO.nil ?_ | with_reducible refine WC.reg ?_ | with_reducible refine WC.seq ?_ | with_reducible refine WC.ret ?_ | refine WC.condT rfl ?_ | with_reducible refine stN ?_ | with_reducible refine stR ?_)
  · refine fin_ret (vs := [_, _]) rfl ⟨Same.refl, Nat.le_refl _, .inl ⟨fun hp => ?_, rfl⟩⟩
    have := hp.1
    omega
  · obtain rfl : n = l.length := by omega
    refine WO.cn rfl ?_
    refine (chosen_spec hfc hhc hl hm).of ?_
    rintro _ _ _ ⟨rfl, rfl, e, rfl, he⟩
    repeat' (first | ((first | refine WO.n rfl ?_ | refine WO.k rfl ?_); (first | refine Then.of (Act.mov rfl) ?_ | refine Then.of (Act.pick rfl rfl rfl) ?_ | refine Then.of (Act.mks rfl rfl (by omega) (by unfold small; omega) (by unfold small; omega) (by omega)) ?_ | ((refine Then.both (Act.neqI rfl rfl) (fun h => ?_) (fun h => ?_)) <;> (try simp only [Int.ofNat_eq_natCast] at h)))) | refine WO.gYes rfl ?_ | with_reducible refine WO.nil ?_ | with_reducible refine WC.reg ?_ | with_reducible refine WC.seq ?_ | with_reducible refine WC.skip ?_ | with_reducible refine WC.ret ?_ | with_reducible refine WC.block ?_ | refine WC.condT rfl ?_ | refine WC.condF rfl ?_ | with_reducible refine stN ?_ | with_reducible refine stR ?_)
    · exact fin_ret (vs := [_, _]) rfl ⟨Same.refl, Nat.le_refl _, .inl ⟨fun hp => by have := he.2 hp.2; contradiction, rfl⟩⟩
    · have hp : PermI l.length l := ⟨rfl, he.1 (by omega)⟩
      refine WC.sub (.cons rfl (.cons rfl (.cons rfl (.cons rfl (.nil _))))) (rplL hl hp ⟨_, get_self, by rw [repeatN_one]; simp, fun i hi => by rw [repeatN_one, List.getElem?_replicate, if_pos hi]; rfl⟩ (Same.refl.set (Nat.le_refl _)) hm (fun at_ σ H' h1 h2 h3 h4 => ?_))
      refine bkE (stN (WC.sub h1 ?_))
      repeat' (first | (refine WO.k rfl ?_; refine Then.of (Act.mov rfl) ?_) | with_reducible refine WO.nil ?_ | with_reducible refine WC.reg ?_ | with_reducible refine WC.seq ?_ | with_reducible refine WC.ret ?_ | with_reducible refine stN ?_)
      exact fin_ret (vs := [_, _]) rfl ⟨h4, by omega, .inr ⟨hp, at_, _, rfl, h2, by omega, h3⟩⟩
end Go.Eng
