import Derived.Test.YtkojdclaojbpiaaGreatWe
import Derived.Test.YtkojdclaojbpiaaGreatWd
/- The program's 'IsSt'. -/
namespace Go.Eng
variable {A : AProg} {H : Heap} {nx : Nat} {σ : Slots} {Q : Post}
set_option maxRecDepth 100000

def xIs : AFunc := ⟨[((.var [false, true]), none), ((.var [true, false]), none)], (.seq (.reg false [(⟨(some [false]), none, (.box (.var []))⟩, []), (⟨(some [false, true]), none, (.mov (.cst (.bool false)))⟩, []), (⟨(some [true, false]), none, (.mov (.cst (.int .i64 (.ofNat 0))))⟩, [])]) (.seq (.seq (.reg false [(⟨none, none, (.lod (.var [false]) (some 2))⟩, []), (⟨none, none, (.call (.fn 21) [(.loc 0)])⟩, []), (⟨(some [false, false, true, true]), none, (.un .not (.loc 0))⟩, [])]) (.cond (.var [false, false, true, true]) (.seq (.reg false [(⟨(some [false, true]), none, (.mov (.cst (.bool false)))⟩, []), (⟨(some [true, false]), none, (.mov (.cst (.int .i64 (.ofNat 1))))⟩, [])]) .ret) .skip)) (.seq (.reg false [(⟨none, none, (.fad (.var [false]) 0)⟩, []), (⟨none, none, (.lod (.loc 0) none)⟩, []), (⟨none, none, (.call (.fn 22) [(.loc 0), (.var [true])])⟩, []), (⟨none, none, (.ext (.loc 0) 0)⟩, []), (⟨none, none, (.ext (.loc 1) 1)⟩, []), (⟨(some [false, false]), none, (.mov (.loc 1))⟩, []), (⟨(some [true, true, true]), none, (.mov (.loc 1))⟩, [])]) (.seq (.seq (.reg false [(⟨none, none, (.un .not (.var [true, true, true]))⟩, []), (⟨none, none, (.mov (.loc 0))⟩, []), (⟨none, (some (0, false)), (.mov (.var [true]))⟩, []), (⟨none, (some (1, false)), (.len (.loc 0))⟩, []), (⟨none, (some (2, false)), (.bin .lss 3 (.loc 0) (.cst (.int .i64 (.ofNat 2))))⟩, []), (⟨(some [false, true, true, true, true]), none, (.pick (.loc 3) (.cst (.bool true)) (.loc 0))⟩, [])]) (.cond (.var [false, true, true, true, true]) (.seq (.reg false [(⟨(some [false, true]), none, (.mov (.cst (.bool false)))⟩, []), (⟨(some [true, false]), none, (.mov (.cst (.int .i64 (.ofNat 0))))⟩, [])]) .ret) .skip)) (.seq (.reg true [(⟨none, none, (.fad (.var [false]) 0)⟩, []), (⟨none, none, (.lod (.loc 0) none)⟩, []), (⟨none, none, (.mks 1 1 [(.bool false)] (.loc 0) (.loc 0))⟩, []), (⟨none, none, (.fad (.var [false]) 0)⟩, []), (⟨none, none, (.lod (.loc 0) none)⟩, []), (⟨none, none, (.mks 1 1 [(.bool false)] (.loc 0) (.loc 0))⟩, []), (⟨(some [false, true, true]), none, (.mov (.loc 3))⟩, []), (⟨(some [true, false, true]), none, (.mov (.loc 1))⟩, [])]) (.seq (.seq (.reg false [(⟨none, none, (.fad (.var [false]) 1)⟩, []), (⟨(some [false, true, true, false, true]), none, (.lod (.loc 0) none)⟩, []), (⟨(some [true, false, true, false, true]), none, (.len (.loc 0))⟩, []), (⟨(some [false, false, true, false, true]), none, (.mov (.cst (.int .i64 (.ofNat 0))))⟩, [])]) (.block 0 (.loop (.seq (.reg false [(⟨(some [true, true, false, false, true]), none, (.bin .lss 3 (.var [false, false, true, false, true]) (.var [true, false, true, false, true]))⟩, [])]) (.seq (.cond (.var [true, true, false, false, true]) .skip (.exit 0)) (.seq (.block 1 (.seq (.reg false [(⟨none, none, (.ixs (.var [false, true, true, false, true]) (.var [false, false, true, false, true]) 2)⟩, []), (⟨none, none, (.lod (.loc 0) (some 2))⟩, []), (⟨(some [true, true, false]), none, (.alc [(.int .i64 (.ofNat 0)), (.int .i64 (.ofNat 0))])⟩, []), (⟨none, none, (.sto (.loc 0) (.loc 1) 2)⟩, [])]) (.seq (.reg true [(⟨none, none, (.ixa (.var [true, true, false]) (.cst (.int .i64 (.ofNat 0))) 2 1)⟩, []), (⟨none, none, (.lod (.loc 0) none)⟩, []), (⟨none, none, (.ixa (.var [true, true, false]) (.cst (.int .i64 (.ofNat 1))) 2 1)⟩, []), (⟨none, none, (.lod (.loc 0) none)⟩, []), (⟨(some [false, true, false]), none, (.mov (.loc 2))⟩, []), (⟨(some [true, false, false]), none, (.mov (.loc 1))⟩, [])]) (.seq (.seq (.reg true [(⟨none, none, (.ixs (.var [false, false]) (.var [false, true, false]) 1)⟩, []), (⟨none, none, (.lod (.loc 0) none)⟩, []), (⟨none, none, (.ixs (.var [false, false]) (.var [true, false, false]) 1)⟩, []), (⟨none, none, (.lod (.loc 0) none)⟩, []), (⟨(some [false, false, true, false, false]), none, (.bin .gtr 3 (.loc 2) (.loc 0))⟩, [])]) (.cond (.var [false, false, true, false, false]) (.reg false [(⟨none, none, (.mov (.var [false, true, false]))⟩, []), (⟨(some [false, true, false]), none, (.mov (.var [true, false, false]))⟩, []), (⟨(some [true, false, false]), none, (.mov (.loc 1))⟩, [])]) .skip)) (.seq (.reg false [(⟨(some [true, true, true, true, true, true]), none, (.bin .neq 3 (.var [false, true, false]) (.var [true, false, false]))⟩, [])]) (.cond (.var [true, true, true, true, true, true]) (.reg false [(⟨none, none, (.ixs (.var [true, false, true]) (.var [false, true, false]) 1)⟩, []), (⟨none, none, (.sto (.loc 0) (.cst (.bool true)) 1)⟩, []), (⟨none, none, (.ixs (.var [false, true, true]) (.var [true, false, false]) 1)⟩, []), (⟨none, none, (.sto (.loc 0) (.cst (.bool true)) 1)⟩, [])]) .skip)))))) (.reg false [(⟨none, none, (.bin .add 3 (.var [false, false, true, false, true]) (.cst (.int .i64 (.ofNat 1))))⟩, []), (⟨(some [false, false, true, false, true]), none, (.mov (.loc 0))⟩, [])]))))))) (.seq (.seq (.reg false [(⟨none, none, (.len (.var [true]))⟩, []), (⟨none, none, (.bin .sub 3 (.loc 0) (.cst (.int .i64 (.ofNat 1))))⟩, []), (⟨(some [true, true, false, false, true, true]), none, (.slc (.var [true]) (some (.cst (.int .i64 (.ofNat 1)))) (some (.loc 0)) none 1)⟩, []), (⟨(some [false, true, false, false, true, true]), none, (.len (.loc 0))⟩, []), (⟨(some [true, false, false, false, true, true]), none, (.mov (.cst (.int .i64 (.ofNat 0))))⟩, [])]) (.block 2 (.loop (.seq (.reg false [(⟨(some [false, false, false, false, true, true]), none, (.bin .lss 3 (.var [true, false, false, false, true, true]) (.var [false, true, false, false, true, true]))⟩, [])]) (.seq (.cond (.var [false, false, false, false, true, true]) .skip (.exit 2)) (.seq (.block 3 (.seq (.reg false [(⟨none, none, (.ixs (.var [true, true, false, false, true, true]) (.var [true, false, false, false, true, true]) 1)⟩, []), (⟨none, none, (.lod (.loc 0) none)⟩, []), (⟨(some [true, true, true, true]), none, (.mov (.loc 0))⟩, [])]) (.seq (.reg false [(⟨none, none, (.ixs (.var [false, true, true]) (.var [true, true, true, true]) 1)⟩, []), (⟨none, none, (.lod (.loc 0) none)⟩, []), (⟨none, none, (.un .not (.loc 0))⟩, []), (⟨none, none, (.mov (.loc 0))⟩, []), (⟨none, (some (0, false)), (.mov (.var [true, false, true]))⟩, []), (⟨none, (some (1, false)), (.mov (.var [true, true, true, true]))⟩, []), (⟨none, (some (2, false)), (.ixs (.loc 1) (.loc 0) 1)⟩, []), (⟨none, (some (3, false)), (.lod (.loc 0) none)⟩, []), (⟨none, (some (4, false)), (.un .not (.loc 0))⟩, []), (⟨(some [false, true, false, false, false, true]), none, (.pick (.loc 5) (.cst (.bool true)) (.loc 0))⟩, [])]) (.cond (.var [false, true, false, false, false, true]) (.seq (.reg false [(⟨(some [false, true]), none, (.mov (.cst (.bool false)))⟩, []), (⟨(some [true, false]), none, (.mov (.cst (.int .i64 (.ofNat 0))))⟩, [])]) .ret) .skip)))) (.reg false [(⟨none, none, (.bin .add 3 (.var [true, false, false, false, true, true]) (.cst (.int .i64 (.ofNat 1))))⟩, []), (⟨(some [true, false, false, false, true, true]), none, (.mov (.loc 0))⟩, [])]))))))) (.seq (.reg false [(⟨(some [false, true]), none, (.mov (.cst (.bool true)))⟩, []), (⟨(some [true, false]), none, (.mov (.cst (.int .i64 (.ofNat 0))))⟩, [])]) .ret))))))))⟩
def xIsA : ACode := (.seq (.reg false [(⟨(some [true, true, false, false, true]), none, (.bin .lss 3 (.var [false, false, true, false, true]) (.var [true, false, true, false, true]))⟩, [])]) (.seq (.cond (.var [true, true, false, false, true]) .skip (.exit 0)) (.seq (.block 1 (.seq (.reg false [(⟨none, none, (.ixs (.var [false, true, true, false, true]) (.var [false, false, true, false, true]) 2)⟩, []), (⟨none, none, (.lod (.loc 0) (some 2))⟩, []), (⟨(some [true, true, false]), none, (.alc [(.int .i64 (.ofNat 0)), (.int .i64 (.ofNat 0))])⟩, []), (⟨none, none, (.sto (.loc 0) (.loc 1) 2)⟩, [])]) (.seq (.reg true [(⟨none, none, (.ixa (.var [true, true, false]) (.cst (.int .i64 (.ofNat 0))) 2 1)⟩, []), (⟨none, none, (.lod (.loc 0) none)⟩, []), (⟨none, none, (.ixa (.var [true, true, false]) (.cst (.int .i64 (.ofNat 1))) 2 1)⟩, []), (⟨none, none, (.lod (.loc 0) none)⟩, []), (⟨(some [false, true, false]), none, (.mov (.loc 2))⟩, []), (⟨(some [true, false, false]), none, (.mov (.loc 1))⟩, [])]) (.seq (.seq (.reg true [(⟨none, none, (.ixs (.var [false, false]) (.var [false, true, false]) 1)⟩, []), (⟨none, none, (.lod (.loc 0) none)⟩, []), (⟨none, none, (.ixs (.var [false, false]) (.var [true, false, false]) 1)⟩, []), (⟨none, none, (.lod (.loc 0) none)⟩, []), (⟨(some [false, false, true, false, false]), none, (.bin .gtr 3 (.loc 2) (.loc 0))⟩, [])]) (.cond (.var [false, false, true, false, false]) (.reg false [(⟨none, none, (.mov (.var [false, true, false]))⟩, []), (⟨(some [false, true, false]), none, (.mov (.var [true, false, false]))⟩, []), (⟨(some [true, false, false]), none, (.mov (.loc 1))⟩, [])]) .skip)) (.seq (.reg false [(⟨(some [true, true, true, true, true, true]), none, (.bin .neq 3 (.var [false, true, false]) (.var [true, false, false]))⟩, [])]) (.cond (.var [true, true, true, true, true, true]) (.reg false [(⟨none, none, (.ixs (.var [true, false, true]) (.var [false, true, false]) 1)⟩, []), (⟨none, none, (.sto (.loc 0) (.cst (.bool true)) 1)⟩, []), (⟨none, none, (.ixs (.var [false, true, true]) (.var [true, false, false]) 1)⟩, []), (⟨none, none, (.sto (.loc 0) (.cst (.bool true)) 1)⟩, [])]) .skip)))))) (.reg false [(⟨none, none, (.bin .add 3 (.var [false, false, true, false, true]) (.cst (.int .i64 (.ofNat 1))))⟩, []), (⟨(some [false, false, true, false, true]), none, (.mov (.loc 0))⟩, [])]))))
def xIsB : ACode := (.seq (.reg false [(⟨(some [false, false, false, false, true, true]), none, (.bin .lss 3 (.var [true, false, false, false, true, true]) (.var [false, true, false, false, true, true]))⟩, [])]) (.seq (.cond (.var [false, false, false, false, true, true]) .skip (.exit 2)) (.seq (.block 3 (.seq (.reg false [(⟨none, none, (.ixs (.var [true, true, false, false, true, true]) (.var [true, false, false, false, true, true]) 1)⟩, []), (⟨none, none, (.lod (.loc 0) none)⟩, []), (⟨(some [true, true, true, true]), none, (.mov (.loc 0))⟩, [])]) (.seq (.reg false [(⟨none, none, (.ixs (.var [false, true, true]) (.var [true, true, true, true]) 1)⟩, []), (⟨none, none, (.lod (.loc 0) none)⟩, []), (⟨none, none, (.un .not (.loc 0))⟩, []), (⟨none, none, (.mov (.loc 0))⟩, []), (⟨none, (some (0, false)), (.mov (.var [true, false, true]))⟩, []), (⟨none, (some (1, false)), (.mov (.var [true, true, true, true]))⟩, []), (⟨none, (some (2, false)), (.ixs (.loc 1) (.loc 0) 1)⟩, []), (⟨none, (some (3, false)), (.lod (.loc 0) none)⟩, []), (⟨none, (some (4, false)), (.un .not (.loc 0))⟩, []), (⟨(some [false, true, false, false, false, true]), none, (.pick (.loc 5) (.cst (.bool true)) (.loc 0))⟩, [])]) (.cond (.var [false, true, false, false, false, true]) (.seq (.reg false [(⟨(some [false, true]), none, (.mov (.cst (.bool false)))⟩, []), (⟨(some [true, false]), none, (.mov (.cst (.int .i64 (.ofNat 0))))⟩, [])]) .ret) .skip)))) (.reg false [(⟨none, none, (.bin .add 3 (.var [true, false, false, false, true, true]) (.cst (.int .i64 (.ofNat 1))))⟩, []), (⟨(some [true, false, false, false, true, true]), none, (.mov (.loc 0))⟩, [])]))))

/-- an own array of bools -/
def BArr (H : Heap) (b m : Nat) (f : Nat → Bool) : Prop := ∃ cs, getP H (at_ b) = some (.cells cs) ∧ cs.length = m ∧ ∀ i, i < m → cs[i]? = some (.bool (f i))
theorem BArr.skip {b c m : Nat} {f : Nat → Bool} {ds : List Value} (h : BArr H b m f) (hb : b ≠ c) : BArr (set1 H c ds) b m f := let ⟨cs, h1, h2⟩ := h; ⟨cs, get_skip hb h1, h2⟩
theorem ArrF.skip {b c m : Nat} {f : Nat → Int} {ds : List Value} (h : ArrF H b m f) (hb : b ≠ c) : ArrF (set1 H c ds) b m f := let ⟨cs, h1, h2⟩ := h; ⟨cs, get_skip hb h1, h2⟩
theorem BArr.set {b m : Nat} {f : Nat → Bool} {cs : List Value} {w : Nat} {t : Bool} (h2 : cs.length = m) (h3 : ∀ i, i < m → cs[i]? = some (.bool (f i))) (hw : w < m) : BArr (set1 H b (cs.set (0 + w * 1) (.bool t))) b m (fun i => if i = w then t else f i) := by
  refine ⟨_, get_self, by simpa using h2, fun i hi => ?_⟩
  rw [List.getElem?_set]
  show _ = some (Value.bool (if i = w then t else f i))
  by_cases e : 0 + w * 1 = i
  · rw [if_pos e, if_pos (by omega), if_pos (by omega)]
  · rw [if_neg e, h3 i hi, if_neg (by omega)]

/-- what is known of the nodes behind 'k' edges -/
def Seen (f : Nat → Int) (es : List (Int × Int)) (k : Nat) (p : (Nat → Int) → Int × Int → Nat → Prop) (m : Nat) (B : Nat → Bool) : Prop := ∀ v, v < m → (B v = true ↔ ∃ i : Nat, i < k ∧ ∃ e, es[i]? = some e ∧ p f e v)

theorem Seen.zero {f : Nat → Int} {es : List (Int × Int)} {p : (Nat → Int) → Int × Int → Nat → Prop} {m : Nat} : Seen f es 0 p m (fun _ => false) := fun v _ => ⟨fun h => absurd h (by simp), fun ⟨i, hi, _⟩ => absurd hi (by omega)⟩
theorem Seen.same {f : Nat → Int} {es : List (Int × Int)} {k : Nat} {p : (Nat → Int) → Int × Int → Nat → Prop} {m : Nat} {B : Nat → Bool} {e : Int × Int} (h : Seen f es k p m B) (he : es[k]? = some e) (hn : ∀ v, v < m → ¬ p f e v) : Seen f es (k + 1) p m B := by
  intro v hv
  rw [h v hv]
  constructor
  · rintro ⟨i, hi, q⟩; exact ⟨i, by omega, q⟩
  · rintro ⟨i, hi, e', h1, h2⟩
    rcases (show i < k ∨ i = k by omega) with h5 | rfl
    · exact ⟨i, h5, e', h1, h2⟩
    · rw [he] at h1; cases h1
      exact absurd h2 (hn v hv)
theorem Seen.put {f : Nat → Int} {es : List (Int × Int)} {k : Nat} {p : (Nat → Int) → Int × Int → Nat → Prop} {m : Nat} {B : Nat → Bool} {e : Int × Int} {w : Nat} (h : Seen f es k p m B) (he : es[k]? = some e) (hn : ∀ v, v < m → (p f e v ↔ v = w)) : Seen f es (k + 1) p m (fun i => if i = w then true else B i) := by
  intro v hv
  show (if v = w then true else B v) = true ↔ _
  by_cases e2 : v = w
  · rw [if_pos e2]
    exact ⟨fun _ => ⟨k, by omega, e, he, (hn v hv).2 e2⟩, fun _ => rfl⟩
  · rw [if_neg e2, h v hv]
    constructor
    · rintro ⟨i, hi, q⟩; exact ⟨i, by omega, q⟩
    · rintro ⟨i, hi, e', h1, h2⟩
      rcases (show i < k ∨ i = k by omega) with h5 | rfl
      · exact ⟨i, h5, e', h1, h2⟩
      · rw [he] at h1; cases h1
        exact absurd ((hn v hv).1 h2) e2
theorem Seen.all {f : Nat → Int} {es : List (Int × Int)} {p : (Nat → Int) → Int × Int → Nat → Prop} {m : Nat} {B : Nat → Bool} (h : Seen f es es.length p m B) {v : Nat} (hv : v < m) : B v = true ↔ ∃ e ∈ es, p f e v := by
  rw [h v hv]
  constructor
  · rintro ⟨i, _, e, h1, h2⟩; exact ⟨e, List.mem_of_getElem? h1, h2⟩
  · rintro ⟨e, h1, h2⟩
    obtain ⟨i, hi⟩ := List.getElem?_of_mem h1
    exact ⟨i, (List.getElem?_eq_some_iff.1 hi).1, e, hi, h2⟩

theorem isA {n : Int} {es : List (Int × Int)} {l at_ : List Int} {base : Option Addr} {lv : Value} {c c1 c2 c3 m na nb nc nx1 : Nat} {H0 : Heap} (he : SlE H0 nx 2 encP (.slice base es.length c) es) (hlen : es.length ≤ 4000) (hin : ∀ e ∈ es, inB n e) (hp : PermI n l) (hpl : Places l at_) (hm : l.length = m)
    (h1 : nx ≤ na) (h2 : na < nb) (h3 : nb < nc) (h4 : nc < nx1) (hs : Same H0 H nx) (ha : ArrF H na m (fun i => at_.getD i 0)) (hA : BArr H nb m (fun _ => false)) (hB : BArr H nc m (fun _ => false))
    (hexit : ∀ A B σ H' nx', SubS [([true], lv), ([false, true, true], .slice (some ⟨nb, 0, some 1⟩) m c2), ([true, false, true], .slice (some ⟨nc, 0, some 1⟩) m c3)] σ → Same H0 H' nx → nx1 ≤ nx' → BArr H' nb m A → BArr H' nc m B →
      Seen (fun i => at_.getD i 0) es es.length UpAt m A → Seen (fun i => at_.getD i 0) es es.length DnAt m B → Q (.exit 0) σ H' nx') :
    WC A (.loop xIsA) [([true], lv), ([false, false], .slice (some ⟨na, 0, some 1⟩) m c1), ([false, true, true], .slice (some ⟨nb, 0, some 1⟩) m c2), ([true, false, true], .slice (some ⟨nc, 0, some 1⟩) m c3), ([false, true, true, false, true], .slice base es.length c), ([true, false, true, false, true], .int .i64 es.length), ([false, false, true, false, true], .int .i64 (Int.ofNat 0))] H nx1 Q := by
  refine WC.loop (α := Nat × (Nat → Bool) × (Nat → Bool)) (fun k => [([true], lv), ([false, false], .slice (some ⟨na, 0, some 1⟩) m c1), ([false, true, true], .slice (some ⟨nb, 0, some 1⟩) m c2), ([true, false, true], .slice (some ⟨nc, 0, some 1⟩) m c3), ([false, true, true, false, true], .slice base es.length c), ([true, false, true, false, true], .int .i64 es.length), ([false, false, true, false, true], .int .i64 k.1)])
    (fun k H' nx' => k.1 ≤ es.length ∧ nx1 ≤ nx' ∧ Same H0 H' nx ∧ ArrF H' na m (fun i => at_.getD i 0) ∧ BArr H' nb m k.2.1 ∧ BArr H' nc m k.2.2 ∧ Seen (fun i => at_.getD i 0) es k.1 UpAt m k.2.1 ∧ Seen (fun i => at_.getD i 0) es k.1 DnAt m k.2.2) (fun k => es.length - k.1)
    ?_ (0, fun _ => false, fun _ => false) (.cons rfl (.cons rfl (.cons rfl (.cons rfl (.cons rfl (.cons rfl (.cons rfl (.nil _)))))))) ⟨Nat.zero_le _, Nat.le_refl _, hs, ha, hA, hB, .zero, .zero⟩
  clear ha hA hB hs
  rintro ⟨k, A', B'⟩ H nx2 ⟨hk, hnx, hs, ha, hA, hB, sA, sB⟩
  simp only at hk hA hB sA sB ⊢
  unfold xIsA
  repeat' (first | ((first | refine WO.n rfl ?_ | refine WO.k rfl ?_); ((refine Then.both (Act.lss rfl rfl) (fun h => ?_) (fun h => ?_)) <;> (try simp only [Int.ofNat_eq_natCast] at h))) | with_reducible refine WO.nil ?_ | with_reducible refine WC.reg ?_ | with_reducible refine WC.seq ?_ | with_reducible refine WC.skip ?_ | with_reducible refine WC.exit ?_ | with_reducible refine WC.block ?_ | refine WC.condT rfl ?_ | refine WC.condF rfl ?_ | with_reducible refine stN ?_ | with_reducible refine stE ?_)
  · have hlt : k < es.length := by omega
    obtain ⟨b, o, ds, rfl, hb, _, _, hr, hds⟩ := he.at (by intro e; rw [e] at hlt; simp at hlt)
    have hel := hds k es[k] (by simp [hlt])
    have hr' := hs.rd hb hr
    obtain ⟨b1, b2, b3, b4⟩ := hin es[k] (List.getElem_mem hlt)
    have hek : es[k]? = some es[k] := List.getElem?_eq_getElem hlt
    generalize hee : es[k] = e at *
    obtain ⟨e1, e2⟩ := e
    simp only at b1 b2 b3 b4
    obtain ⟨u, rfl⟩ : ∃ u : Nat, e1 = u := ⟨e1.toNat, by omega⟩
    obtain ⟨v, rfl⟩ : ∃ v : Nat, e2 = v := ⟨e2.toNat, by omega⟩
    have hpn := hp.1
    obtain ⟨as, a1, a2, a3⟩ := ha
    have hu' : as[0 + u * 1]? = some (.int .i64 (at_.getD u 0)) := by simpa using a3 u (by omega)
    have hv' : as[0 + v * 1]? = some (.int .i64 (at_.getD v 0)) := by simpa using a3 v (by omega)
    have ha : ArrF H na m (fun i => at_.getD i 0) := ⟨as, a1, a2, a3⟩
    obtain ⟨cA, p1, p2, p3⟩ := hA
    obtain ⟨cB, r1, r2, r3⟩ := hB
    have hA : BArr H nb m A' := ⟨cA, p1, p2, p3⟩
    have hB : BArr H nc m B' := ⟨cB, r1, r2, r3⟩
    have hinj := fun h => place_inj hp hpl (u := (u : Int)) (v := (v : Int)) ⟨b1, b2⟩ ⟨b3, b4⟩ h
    have tu : (u : Int).toNat = u := rfl
    have tv : (v : Int).toNat = v := rfl
    have upu : ∀ w, UpAt (fun i => at_.getD i 0) ((u : Int), (v : Int)) w ↔ (u = w ∧ at_.getD v 0 < at_.getD u 0) ∨ (v = w ∧ at_.getD u 0 < at_.getD v 0) := fun w => by
      unfold UpAt; simp only [tu, tv, Int.ofNat_inj]
    have dnu : ∀ w, DnAt (fun i => at_.getD i 0) ((u : Int), (v : Int)) w ↔ (u = w ∧ at_.getD u 0 < at_.getD v 0) ∨ (v = w ∧ at_.getD v 0 < at_.getD u 0) := fun w => by
      unfold DnAt; simp only [tu, tv, Int.ofNat_inj]
    repeat' (first | ((first | refine WO.n rfl ?_ | refine WO.k rfl ?_); (first | refine Then.of (Act.mov rfl) ?_ | refine Then.of Act.alc ?_ | refine Then.of (Act.lod rfl (by (with_reducible (first | exact Rd.self | assumption | exact Rd.own (by assumption) | ((repeat ((apply Rd.skip); (with_unfolding_all omega))); first | exact Rd.self | assumption | exact Rd.own (by assumption))))) rfl) ?_ | refine Then.of (Act.lod rfl (by (with_reducible (first | exact Rd.self | assumption | exact Rd.own (by assumption) | ((repeat ((apply Rd.skip); (with_unfolding_all omega))); first | exact Rd.self | assumption | exact Rd.own (by assumption))))) (partOf_one (by assumption))) ?_ | refine Then.of (Act.lod rfl (by (with_reducible (first | exact Rd.self | assumption | exact Rd.own (by assumption) | ((repeat ((apply Rd.skip); (with_unfolding_all omega))); first | exact Rd.self | assumption | exact Rd.own (by assumption))))) (partOf_agg (by assumption))) ?_ | refine Then.of (Act.ixs rfl rfl (by omega)) ?_ | refine Then.of (Act.ixa rfl rfl (by omega)) ?_ | refine Then.of (Act.sto1 rfl rfl rfl rfl (by (with_reducible (first | exact get_self | assumption | ((repeat ((apply get_skip); (with_unfolding_all omega))); first | exact get_self | assumption)))) (by (first | omega | decide | (simp only [List.length_map, List.length_append, List.length_set, List.length_cons, List.length_nil, List.length_replicate, List.length_range]; omega)))) ?_ | refine Then.of (Act.stoN rfl rfl rfl (by omega) rfl (by (with_reducible (first | exact get_self | assumption | ((repeat ((apply get_skip); (with_unfolding_all omega))); first | exact get_self | assumption)))) (by (first | omega | decide | (simp only [List.length_map, List.length_append, List.length_set, List.length_cons, List.length_nil, List.length_replicate, List.length_range]; omega)))) ?_ | ((refine Then.both (Act.gtr rfl rfl) (fun h => ?_) (fun h => ?_)) <;> (try simp only [Int.ofNat_eq_natCast] at h)) | ((refine Then.both (Act.neqI rfl rfl) (fun h => ?_) (fun h => ?_)) <;> (try simp only [Int.ofNat_eq_natCast] at h)) | refine Then.of (Act.addN rfl rfl (by omega)) ?_)) | with_reducible refine WO.nil ?_ | with_reducible refine WC.reg ?_ | with_reducible refine WC.drawn ?_ | with_reducible refine WC.seq ?_ | with_reducible refine WC.skip ?_ | refine WC.condT rfl ?_ | refine WC.condF rfl ?_ | with_reducible refine stN ?_ | with_reducible refine bkN ?_ | with_reducible refine drN ?_)
    · repeat' (fail)
      refine ⟨(k + 1, fun i => if i = u then true else A' i, fun i => if i = v then true else B' i), by show es.length - (k + 1) < es.length - k; omega, .cons rfl (.cons rfl (.cons rfl (.cons rfl (.cons rfl (.cons rfl (.cons rfl (.nil _))))))), by show k + 1 ≤ _; omega, by omega,
        (((hs.set (by omega)).set (by omega)).set (by omega)).set (by omega), (((ha.skip (by omega)).skip (by omega)).skip (by omega)).skip (by omega), .set p2 p3 (by omega), (BArr.set r2 r3 (by omega)).skip (by omega), sA.put hek (fun w _ => ?_), sB.put hek (fun w _ => ?_)⟩
      · rw [upu]; omega
      · rw [dnu]; omega
    · refine ⟨(k + 1, A', B'), by show es.length - (k + 1) < es.length - k; omega, .cons rfl (.cons rfl (.cons rfl (.cons rfl (.cons rfl (.cons rfl (.cons rfl (.nil _))))))), by show k + 1 ≤ _; omega, by omega,
        (hs.set (by omega)).set (by omega), (ha.skip (by omega)).skip (by omega), (hA.skip (by omega)).skip (by omega), (hB.skip (by omega)).skip (by omega), sA.same hek (fun w _ => ?_), sB.same hek (fun w _ => ?_)⟩
      · rw [upu]; have e : (v : Int) = u := Classical.not_not.1 h; obtain rfl : v = u := by omega
        omega
      · rw [dnu]; have e : (v : Int) = u := Classical.not_not.1 h; obtain rfl : v = u := by omega
        omega
    · repeat' (fail)
      have hne : at_.getD u 0 ≠ at_.getD v 0 := fun e => h (hinj e)
      refine ⟨(k + 1, fun i => if i = v then true else A' i, fun i => if i = u then true else B' i), by show es.length - (k + 1) < es.length - k; omega, .cons rfl (.cons rfl (.cons rfl (.cons rfl (.cons rfl (.cons rfl (.cons rfl (.nil _))))))), by show k + 1 ≤ _; omega, by omega,
        (((hs.set (by omega)).set (by omega)).set (by omega)).set (by omega), (((ha.skip (by omega)).skip (by omega)).skip (by omega)).skip (by omega), .set p2 p3 (by omega), (BArr.set r2 r3 (by omega)).skip (by omega), sA.put hek (fun w _ => ?_), sB.put hek (fun w _ => ?_)⟩
      · rw [upu]; omega
      · rw [dnu]; omega
    · have e : (u : Int) = v := Classical.not_not.1 h
      obtain rfl : u = v := by omega
      refine ⟨(k + 1, A', B'), by show es.length - (k + 1) < es.length - k; omega, .cons rfl (.cons rfl (.cons rfl (.cons rfl (.cons rfl (.cons rfl (.cons rfl (.nil _))))))), by show k + 1 ≤ _; omega, by omega,
        (hs.set (by omega)).set (by omega), (ha.skip (by omega)).skip (by omega), (hA.skip (by omega)).skip (by omega), (hB.skip (by omega)).skip (by omega), sA.same hek (fun w _ => ?_), sB.same hek (fun w _ => ?_)⟩
      · rw [upu]; omega
      · rw [dnu]; omega
  · have hkl : k = es.length := by omega
    subst hkl
    exact hexit A' B' _ _ _ (.cons rfl (.cons rfl (.cons rfl (.nil _)))) hs hnx hA hB sA sB

theorem isB {l : List Int} {m nb nc nx1 : Nat} {b o c c2 c3 : Nat} {A' B' : Nat → Bool} {cs : List Value} (hr : Rd H b cs) (hcs : ∀ i x, l[i]? = some x → take? 1 (cs.drop (o + i * 1)) = some (encI x)) (hin : ∀ x ∈ l, 0 ≤ x ∧ x < m) (hm : l.length = m) (hm4 : m ≤ 4000) (h2 : 2 ≤ m) (hA : BArr H nb m A') (hB : BArr H nc m B')
    (hret : ¬ (∀ (i v : Nat), 1 ≤ i → i + 1 < m → l[i]? = some (v : Int) → A' v = true ∧ B' v = true) → ∀ σ, SubS [([false, true], .bool false), ([true, false], .int .i64 0)] σ → Q .ret σ H nx1)
    (hexit : (∀ (i v : Nat), 1 ≤ i → i + 1 < m → l[i]? = some (v : Int) → A' v = true ∧ B' v = true) → ∀ σ, Q (.exit 2) σ H nx1) :
    WC A (.loop xIsB) [([false, true, true], .slice (some ⟨nb, 0, some 1⟩) m c2), ([true, false, true], .slice (some ⟨nc, 0, some 1⟩) m c3), ([true, true, false, false, true, true], .slice (some ⟨b, o + 1 * 1, some 1⟩) (m - 1 - 1) c), ([false, true, false, false, true, true], .int .i64 ((m - 1 - 1 : Nat) : Int)), ([true, false, false, false, true, true], .int .i64 (Int.ofNat 0))] H nx1 Q := by
  refine WC.loop (α := Nat) (fun k => [([false, true, true], .slice (some ⟨nb, 0, some 1⟩) m c2), ([true, false, true], .slice (some ⟨nc, 0, some 1⟩) m c3), ([true, true, false, false, true, true], .slice (some ⟨b, o + 1 * 1, some 1⟩) (m - 1 - 1) c), ([false, true, false, false, true, true], .int .i64 ((m - 1 - 1 : Nat) : Int)), ([true, false, false, false, true, true], .int .i64 k)])
    (fun k H' nx' => H' = H ∧ nx' = nx1 ∧ k ≤ m - 2 ∧ ∀ i v : Nat, 1 ≤ i → i ≤ k → l[i]? = some (v : Int) → A' v = true ∧ B' v = true) (fun k => m - k)
    ?_ 0 (.cons rfl (.cons rfl (.cons rfl (.cons rfl (.cons rfl (.nil _)))))) ⟨rfl, rfl, Nat.zero_le _, fun i v h h' => by omega⟩
  obtain ⟨cA, p1, p2, p3⟩ := hA
  obtain ⟨cB, r1, r2, r3⟩ := hB
  rintro k _ _ ⟨rfl, rfl, hk, hks⟩
  unfold xIsB
  repeat' (first | ((first | refine WO.n rfl ?_ | refine WO.k rfl ?_); (first | refine Then.of (Act.ixs rfl rfl (by omega)) ?_ | ((refine Then.both (Act.lss rfl rfl) (fun h => ?_) (fun h => ?_)) <;> (try simp only [Int.ofNat_eq_natCast] at h)))) | with_reducible refine WO.nil ?_ | with_reducible refine WC.reg ?_ | with_reducible refine WC.seq ?_ | with_reducible refine WC.skip ?_ | with_reducible refine WC.exit ?_ | with_reducible refine WC.block ?_ | refine WC.condT rfl ?_ | refine WC.condF rfl ?_ | with_reducible refine stN ?_ | with_reducible refine stE ?_)
  · have hlt : k + 1 < l.length := by omega
    obtain ⟨v, hv⟩ : ∃ v : Nat, l[k + 1] = v := ⟨l[k + 1].toNat, by have := hin _ (List.getElem_mem hlt); omega⟩
    have hlv : l[k + 1]? = some (v : Int) := by rw [List.getElem?_eq_getElem hlt, hv]
    have hvm : v < m := by have := hin _ (List.getElem_mem hlt); omega
    have hx : cs[o + 1 * 1 + k * 1]? = some (.int .i64 (v : Int)) := by
      have := take1 (v := .int .i64 (v : Int)) (hcs (k + 1) v hlv)
      rw [← this]; congr 1; omega
    have hA' : cA[0 + v * 1]? = some (.bool (A' v)) := by simpa using p3 v hvm
    have hB' : cB[0 + v * 1]? = some (.bool (B' v)) := by simpa using r3 v hvm
    cases eA : A' v with
    | false =>
      rw [eA] at hA'
      repeat' (first | ((first | refine WO.n rfl ?_ | refine WO.k rfl ?_); (first | refine Then.of (Act.mov rfl) ?_ | refine Then.of (Act.not rfl) ?_ | refine Then.of (Act.pick rfl rfl rfl) ?_ | refine Then.of (Act.lod rfl (by (with_reducible (first | exact Rd.self | assumption | exact Rd.own (by assumption) | ((repeat ((apply Rd.skip); (with_unfolding_all omega))); first | exact Rd.self | assumption | exact Rd.own (by assumption))))) (partOf_one (by assumption))) ?_ | refine Then.of (Act.ixs rfl rfl (by omega)) ?_)) | refine WO.gNo rfl ?_ | with_reducible refine WO.nil ?_ | with_reducible refine WC.reg ?_ | with_reducible refine WC.seq ?_ | with_reducible refine WC.ret ?_ | refine WC.condT rfl ?_ | with_reducible refine stN ?_ | with_reducible refine stR ?_ | with_reducible refine bkR ?_)
      exact hret (fun hh => by have := (hh (k + 1) v (by omega) (by omega) hlv).1; rw [eA] at this; cases this) _ (.cons rfl (.cons rfl (.nil _)))
    | true =>
      rw [eA] at hA'
      cases eB : B' v with
      | false =>
        rw [eB] at hB'
        repeat' (first | ((first | refine WO.n rfl ?_ | refine WO.k rfl ?_); (first | refine Then.of (Act.mov rfl) ?_ | refine Then.of (Act.not rfl) ?_ | refine Then.of (Act.pick rfl rfl rfl) ?_ | refine Then.of (Act.lod rfl (by (with_reducible (first | exact Rd.self | assumption | exact Rd.own (by assumption) | ((repeat ((apply Rd.skip); (with_unfolding_all omega))); first | exact Rd.self | assumption | exact Rd.own (by assumption))))) (partOf_one (by assumption))) ?_ | refine Then.of (Act.ixs rfl rfl (by omega)) ?_)) | refine WO.gYes rfl ?_ | with_reducible refine WO.nil ?_ | with_reducible refine WC.reg ?_ | with_reducible refine WC.seq ?_ | with_reducible refine WC.ret ?_ | refine WC.condT rfl ?_ | with_reducible refine stN ?_ | with_reducible refine stR ?_ | with_reducible refine bkR ?_)
        exact hret (fun hh => by have := (hh (k + 1) v (by omega) (by omega) hlv).2; rw [eB] at this; cases this) _ (.cons rfl (.cons rfl (.nil _)))
      | true =>
        rw [eB] at hB'
        repeat' (first | ((first | refine WO.n rfl ?_ | refine WO.k rfl ?_); (first | refine Then.of (Act.mov rfl) ?_ | refine Then.of (Act.not rfl) ?_ | refine Then.of (Act.pick rfl rfl rfl) ?_ | refine Then.of (Act.lod rfl (by (with_reducible (first | exact Rd.self | assumption | exact Rd.own (by assumption) | ((repeat ((apply Rd.skip); (with_unfolding_all omega))); first | exact Rd.self | assumption | exact Rd.own (by assumption))))) (partOf_one (by assumption))) ?_ | refine Then.of (Act.ixs rfl rfl (by omega)) ?_ | refine Then.of (Act.addN rfl rfl (by omega)) ?_)) | refine WO.gYes rfl ?_ | with_reducible refine WO.nil ?_ | with_reducible refine WC.reg ?_ | with_reducible refine WC.seq ?_ | with_reducible refine WC.skip ?_ | refine WC.condF rfl ?_ | with_reducible refine stN ?_ | with_reducible refine bkN ?_)
        refine ⟨k + 1, by omega, .cons rfl (.cons rfl (.cons rfl (.cons rfl (.cons rfl (.nil _))))), rfl, rfl, by omega, fun i w hi1 hi2 hw => ?_⟩
        rcases (show i ≤ k ∨ i = k + 1 by omega) with h5 | rfl
        · exact hks i w hi1 h5 hw
        · rw [hlv] at hw
          have : v = w := by have := Option.some.inj hw; omega
          subst this
          exact ⟨eA, eB⟩
  · exact hexit (fun i v h1 h3 h5 => hks i v h1 (by omega) h5) _
end Go.Eng
