import Derived.Test.YtomcmognemechaaGreatWf
/- The looker looks at nodes and edges two by two: the rest. -/
namespace Go.Eng
variable {A : AProg} {H H' : Heap} {nx nx' : Nat} {σ : Slots} {Q : Post}
set_option maxRecDepth 100000

theorem f5_succ (w : Vw) (u : Nat) : w.f5 (u + 1) = w.f5 u ++ w.r5 u w.n := row1_succ _ _
theorem f5_len (w : Vw) (k : Nat) : (w.f5 k).length ≤ k * w.n := row1_len (fun u => by have := r5_len w u w.n; omega) k
theorem len60' {k n m : Nat} (h : k ≤ m) (hn : n ≤ 60) (hm : m ≤ 60) {l : List Fl} (hl : l.length ≤ k * n) : l.length ≤ 3600 := Nat.le_trans hl (Nat.le_trans (Nat.mul_le_mul h (Nat.le_refl n)) (Nat.le_trans (Nat.mul_le_mul hm hn) (by decide)))

theorem p5O (h13 : A.funcs 13 = some xFind) (h29 : A.funcs 29 = some xWithin) (h30 : A.funcs 30 = some xLevels) (hh : ∀ g, g ≠ 4 → ∀ vs H nx, A.hook g vs H nx = none) {lb wb fb : Nat} {H0 : Heap} {n0 yv lv rv xv : Value} {base : Option Addr} {ec : Nat} {pre : List Fl} {w : Vw} (st : PkS [(wb, [yv, lv, rv, xv])] lb H0 n0 (.slice base w.m ec) yv lv rv xv H nx pre fb) (vw : VwS w H0 lb n0 (.slice base w.m ec) yv lv rv xv) (hpre : pre.length ≤ 40000)
    (hexit : ∀ σ H' nx' fb, SubS [([], .pointer (some ⟨lb, 0, none⟩)), ([false], .pointer (some ⟨wb, 0, none⟩))] σ → nx ≤ nx' → PkS [(wb, [yv, lv, rv, xv])] lb H0 n0 (.slice base w.m ec) yv lv rv xv H' nx' (pre ++ w.f5 w.m) fb → Q (.exit 4) σ H' nx') :
    WC A (.loop xP5O) [([], .pointer (some ⟨lb, 0, none⟩)), ([false], .pointer (some ⟨wb, 0, none⟩)), ([true, false, false, true, false, true], .slice base w.m ec), ([false, false, false, true, false, true], .int .i64 (w.m : Int)), ([true, true, true, false, false, true], .int .i64 0)] H nx Q := by
  refine WC.loop (α := Nat × Nat) (fun k => [([], .pointer (some ⟨lb, 0, none⟩)), ([false], .pointer (some ⟨wb, 0, none⟩)), ([true, false, false, true, false, true], .slice base w.m ec), ([false, false, false, true, false, true], .int .i64 (w.m : Int)), ([true, true, true, false, false, true], .int .i64 ((k.1 : Nat) : Int))])
    (fun k H' nx' => k.1 ≤ w.m ∧ nx ≤ nx' ∧ PkS [(wb, [yv, lv, rv, xv])] lb H0 n0 (.slice base w.m ec) yv lv rv xv H' nx' (pre ++ w.f5 k.1) k.2) (fun k => w.m - k.1)
    ?_ (0, fb) (.cons rfl (.cons rfl (.cons rfl (.cons rfl (.cons rfl (.nil _)))))) ⟨Nat.zero_le _, Nat.le_refl _, by simpa [Vw.f5, row1_zero] using st⟩
  rintro ⟨k, fb⟩ H1 nx2 ⟨hk, hnx, st1⟩
  simp only at hk st1 ⊢
  have hnn := vw.hn
  have hmm := vw.hm
  have hlen := len60' hk hnn hmm (f5_len w k)
  have hh30 := hh 30 (by decide)
  have hvw := vw.same st1.st.same (Nat.le_refl _)
  have hlt := st1.st.lt
  have hfb := st1.st.fb_lt
  have hn0 := vw.n
  subst hn0
  unfold xP5O
  repeat' (first | ((first | refine WO.n rfl ?_ | refine WO.k rfl ?_); ((refine Then.both (Act.lss rfl rfl) (fun h => ?_) (fun h => ?_)) <;> (try simp only [Int.ofNat_eq_natCast] at h))) | with_reducible refine WO.nil ?_ | with_reducible refine WC.reg ?_ | with_reducible refine WC.seq ?_ | with_reducible refine WC.skip ?_ | with_reducible refine WC.exit ?_ | with_reducible refine WC.block ?_ | refine WC.condT rfl ?_ | refine WC.condF rfl ?_ | with_reducible refine stN ?_ | with_reducible refine stE ?_)
  · have hk' : k < w.m := by omega
    obtain ⟨base, ec, e1, h1⟩ := hvw.e
    cases e1
    obtain ⟨eb, eo, eds, rfl, heb, her, hed⟩ := h1 (by omega)
    have q0 := take?_two (hed k hk').1 (hed k hk').2
    repeat' (first | ((first | refine WO.n rfl ?_ | refine WO.k rfl ?_); (first | refine Then.of (Act.mov rfl) ?_ | refine Then.of Act.alc ?_ | refine Then.of (Act.lod rfl (by (with_reducible (first | exact Rd.self | assumption | exact Rd.own (by assumption) | ((repeat ((apply Rd.skip); (with_unfolding_all omega))); first | exact Rd.self | assumption | exact Rd.own (by assumption))))) (partOf_agg (by assumption))) ?_ | refine Then.of (Act.ixs rfl rfl (by omega)) ?_ | refine Then.of (Act.stoN rfl rfl rfl (by omega) rfl (by (with_reducible (first | exact get_self | assumption | ((repeat ((apply get_skip); (with_unfolding_all omega))); first | exact get_self | assumption)))) (by (first | omega | decide | (simp only [List.length_map, List.length_append, List.length_set, List.length_cons, List.length_nil, List.length_replicate, List.length_range]; omega)))) ?_)) | with_reducible refine WO.nil ?_ | with_reducible refine WC.reg ?_ | with_reducible refine WC.seq ?_ | with_reducible refine stN ?_)
    refine WO.cn rfl ?_
    have st2 := (st1.stays (H' := set1 (set1 H1 nx2 [.int .i64 0, .int .i64 0]) nx2 [.int .i64 (w.a k : Int), .int .i64 (w.b k : Int)]) (Nat.le_succ nx2) (fun c hc => by rw [get_set1, if_neg (by omega), get_set1, if_neg (by omega)])).more (b := nx2) (by omega) (by omega) (by omega) get_self
    refine (levels_spec h30 hh30 st2.st vw hk').of ?_
    rintro _ _ _ ⟨rfl, rfl, rfl⟩
    obtain ⟨fv, hl, _⟩ := st2.st.own
    repeat' (first | ((first | refine WO.n rfl ?_ | refine WO.k rfl ?_); (first | refine Then.of (Act.mov rfl) ?_ | refine Then.of (Act.ext rfl rfl) ?_ | refine Then.of (Act.fad rfl) ?_ | refine Then.of (Act.lod rfl (by (with_reducible (first | exact Rd.self | assumption | exact Rd.own (by assumption) | ((repeat ((apply Rd.skip); (with_unfolding_all omega))); first | exact Rd.self | assumption | exact Rd.own (by assumption))))) rfl) ?_ | refine Then.of (Act.nilck rfl) ?_)) | with_reducible refine WO.nil ?_ | with_reducible refine WC.reg ?_ | with_reducible refine WC.seq ?_ | with_reducible refine WC.block ?_ | with_reducible refine stN ?_)
    refine WC.sub (.cons rfl (.cons rfl (.cons rfl (.cons rfl (.cons rfl (.cons rfl (.cons rfl (.cons rfl (.cons rfl (.cons rfl (.cons rfl (.nil _)))))))))))) (p5I h13 h29 hh st2 vw hk' (by rw [List.length_append]; omega) (fun σ H3 nx3 fb3 hσ hn3 st3 => ?_))
    refine bkE (bkN (stN (WC.sub hσ ?_)))
    repeat' (first | ((first | refine WO.n rfl ?_ | refine WO.k rfl ?_); (first | refine Then.of (Act.mov rfl) ?_ | refine Then.of (Act.addN rfl rfl (by omega)) ?_)) | with_reducible refine WO.nil ?_ | with_reducible refine WC.reg ?_)
    refine ⟨(k + 1, fb3), by show w.m - (k + 1) < w.m - k; omega, .cons rfl (.cons rfl (.cons rfl (.cons rfl (.cons rfl (.nil _))))), by show k + 1 ≤ _; omega, by omega, ?_⟩
    show PkS _ _ _ _ _ _ _ _ _ _ _ (pre ++ w.f5 (k + 1)) fb3
    rw [f5_succ, ← List.append_assoc]
    exact st3.less
  · have hkn : k = w.m := by omega
    subst hkn
    exact hexit _ _ _ _ (.cons rfl (.cons rfl (.nil _))) hnx st1

/-! ### lines over lines -/
theorem r6_succ (w : Vw) (u j : Nat) : w.r6 u (j + 1) = w.r6 u j ++ sel (w.b6 u (u + 1 + j)) (6, (u : Int), ((u + 1 + j : Nat) : Int)) := row1_succ _ _
theorem r6_len (w : Vw) (u j : Nat) : (w.r6 u j).length ≤ j * 1 := row1_len (fun _ => sel_len _ _) j
theorem f6_succ (w : Vw) (u : Nat) : w.f6 (u + 1) = w.f6 u ++ w.r6 u (w.m - (u + 1)) := row1_succ _ _
theorem f6_len (w : Vw) (k : Nat) : (w.f6 k).length ≤ k * w.m := row1_len (fun u => by have := r6_len w u (w.m - (u + 1)); omega) k

theorem p6I (h13 : A.funcs 13 = some xFind) (h30 : A.funcs 30 = some xLevels) (hh : ∀ g, g ≠ 4 → ∀ vs H nx, A.hook g vs H nx = none) {lb wb fb u : Nat} {H0 : Heap} {n0 yv lv rv xv : Value} {base : Option Addr} {ec : Nat} {pre : List Fl} {w : Vw} (st : PkS [(wb, [yv, lv, rv, xv])] lb H0 n0 (.slice base w.m ec) yv lv rv xv H nx pre fb) (vw : VwS w H0 lb n0 (.slice base w.m ec) yv lv rv xv) (hu : u < w.m) (hpre : pre.length ≤ 50000) {x164 x165 : Value}
    (hexit : ∀ σ H' nx' fb, SubS [([], .pointer (some ⟨lb, 0, none⟩)), ([false], .pointer (some ⟨wb, 0, none⟩)), ([false, true, false, true, true, false, true], x164), ([true, false, false, true, true, false, true], x165)] σ → nx ≤ nx' → PkS [(wb, [yv, lv, rv, xv])] lb H0 n0 (.slice base w.m ec) yv lv rv xv H' nx' (pre ++ w.r6 u (w.m - (u + 1))) fb → Q (.exit 10) σ H' nx') :
    WC A (.loop xP6I) [([], .pointer (some ⟨lb, 0, none⟩)), ([false], .pointer (some ⟨wb, 0, none⟩)), ([false, true, false, true, true, false, true], x164), ([true, false, false, true, true, false, true], x165), ([true, true, false], .int .i64 (u : Int)), ([false, true, false], .int .i64 ((u + 1 : Nat) : Int))] H nx Q := by
  refine WC.loop (α := Nat × Nat) (fun k => [([], .pointer (some ⟨lb, 0, none⟩)), ([false], .pointer (some ⟨wb, 0, none⟩)), ([false, true, false, true, true, false, true], x164), ([true, false, false, true, true, false, true], x165), ([true, true, false], .int .i64 (u : Int)), ([false, true, false], .int .i64 ((u + 1 + k.1 : Nat) : Int))])
    (fun k H' nx' => u + 1 + k.1 ≤ w.m ∧ nx ≤ nx' ∧ PkS [(wb, [yv, lv, rv, xv])] lb H0 n0 (.slice base w.m ec) yv lv rv xv H' nx' (pre ++ w.r6 u k.1) k.2) (fun k => w.m - k.1)
    ?_ (0, fb) (.cons rfl (.cons rfl (.cons rfl (.cons rfl (.cons rfl (.cons rfl (.nil _))))))) ⟨by omega, Nat.le_refl _, by simpa [Vw.r6, rowI, row1_zero] using st⟩
  rintro ⟨j, fb⟩ H1 nx2 ⟨hj, hnx, st1⟩
  simp only at hj st1 ⊢
  have hlen := r6_len w u j
  have hlen2 : (pre ++ w.r6 u j).length ≤ 100000 := by rw [List.length_append]; have := vw.hm; omega
  have hh13 := hh 13 (by decide)
  have hh30 := hh 30 (by decide)
  have hwb := (st1.kept _ (.head _)).1
  obtain ⟨fv, hl, _⟩ := st1.st.own
  have hmm := vw.hm
  have hvw := (vw.same st1.st.same (Nat.le_refl _)).x
  obtain ⟨base', xc, rfl, h1⟩ := hvw
  obtain ⟨xb, xo, xds, rfl, hxb, hxr, hxd⟩ := h1 (by omega)
  have q1 := hxd u hu
  unfold xP6I
  repeat' (first | ((first | refine WO.n rfl ?_ | refine WO.k rfl ?_); (first | refine Then.of (Act.fad rfl) ?_ | refine Then.of (Act.len rfl) ?_ | refine Then.of (Act.lod rfl (by (with_reducible (first | exact Rd.self | assumption | exact Rd.own (by assumption) | ((repeat ((apply Rd.skip); (with_unfolding_all omega))); first | exact Rd.self | assumption | exact Rd.own (by assumption))))) rfl) ?_ | ((refine Then.both (Act.lss rfl rfl) (fun h => ?_) (fun h => ?_)) <;> (try simp only [Int.ofNat_eq_natCast] at h)) | refine Then.of (Act.nilck rfl) ?_)) | with_reducible refine WO.nil ?_ | with_reducible refine WC.reg ?_ | with_reducible refine WC.seq ?_ | with_reducible refine WC.skip ?_ | with_reducible refine WC.exit ?_ | with_reducible refine WC.block ?_ | refine WC.condT rfl ?_ | refine WC.condF rfl ?_ | with_reducible refine stN ?_ | with_reducible refine stE ?_)
  · have hv : u + 1 + j < w.m := by omega
    have q4 := hxd _ hv
    refine WO.cn rfl ?_
    refine (levels_spec h30 hh30 st1.st vw hu).of ?_
    rintro _ _ _ ⟨rfl, rfl, rfl⟩
    repeat' (first | ((first | refine WO.n rfl ?_ | refine WO.k rfl ?_); (first | refine Then.of (Act.mov rfl) ?_ | refine Then.of (Act.ext rfl rfl) ?_)) | with_reducible refine WO.nil ?_ | with_reducible refine WC.reg ?_ | with_reducible refine WC.seq ?_ | with_reducible refine stN ?_)
    refine WO.cn rfl ?_
    refine (levels_spec h30 hh30 st1.st vw hv).of ?_
    rintro _ _ _ ⟨rfl, rfl, rfl⟩
    repeat' (first | ((first | refine WO.n rfl ?_ | refine WO.k rfl ?_); (first | refine Then.of (Act.mov rfl) ?_ | refine Then.of (Act.ext rfl rfl) ?_ | refine Then.of (Act.fad rfl) ?_ | refine Then.of (Act.pick rfl rfl rfl) ?_ | refine Then.of (Act.lod rfl (by (with_reducible (first | exact Rd.self | assumption | exact Rd.own (by assumption) | ((repeat ((apply Rd.skip); (with_unfolding_all omega))); first | exact Rd.self | assumption | exact Rd.own (by assumption))))) rfl) ?_ | refine Then.of (Act.lod rfl (by (with_reducible (first | exact Rd.self | assumption | exact Rd.own (by assumption) | ((repeat ((apply Rd.skip); (with_unfolding_all omega))); first | exact Rd.self | assumption | exact Rd.own (by assumption))))) (partOf_one (by assumption))) ?_ | refine Then.of (Act.ixs rfl rfl (by omega)) ?_ | ((refine Then.both (Act.lss rfl rfl) (fun h => ?_) (fun h => ?_)) <;> (try simp only [Int.ofNat_eq_natCast] at h)) | ((refine Then.both (Act.eqlI rfl rfl) (fun h => ?_) (fun h => ?_)) <;> (try simp only [Int.ofNat_eq_natCast] at h)) | refine Then.of (Act.min2 rfl rfl) ?_ | refine Then.of (Act.max2 rfl rfl) ?_)) | refine WO.gYes rfl ?_ | refine WO.gNo rfl ?_ | with_reducible refine WO.nil ?_ | with_reducible refine WC.drawn ?_ | with_reducible refine stN ?_)
    all_goals
      refine WO.cn rfl ?_
      refine (pfind h13 hh13 st1 hlen2).of ?_
      rintro _ H3 nx3 ⟨hn3, fb3, st3⟩
      repeat' (first | ((first | refine WO.n rfl ?_ | refine WO.k rfl ?_); (first | refine Then.of (Act.mov rfl) ?_ | refine Then.of (Act.addN rfl rfl (by omega)) ?_)) | with_reducible refine WO.nil ?_ | with_reducible refine WC.reg ?_ | with_reducible refine stN ?_ | with_reducible refine bkN ?_ | with_reducible refine drN ?_)
      refine ⟨(j + 1, fb3), by show w.m - (j + 1) < w.m - j; omega, .cons rfl (.cons rfl (.cons rfl (.cons rfl (.cons rfl (.cons rfl (.nil _)))))), by show u + 1 + (j + 1) ≤ _; omega, by omega, ?_⟩
      show PkS _ _ _ _ _ _ _ _ _ _ _ (pre ++ w.r6 u (j + 1)) fb3
      rw [r6_succ, ← List.append_assoc]
      (first
        | (rw [show w.b6 u (u + 1 + j) = true from decide_eq_true (by omega)]; exact st3)
        | (rw [show w.b6 u (u + 1 + j) = false from decide_eq_false (by omega)]; exact st3))
  · have hkn : j = w.m - (u + 1) := by omega
    subst hkn
    exact hexit _ _ _ _ (.cons rfl (.cons rfl (.cons rfl (.cons rfl (.nil _))))) hnx st1

theorem p6O (h13 : A.funcs 13 = some xFind) (h30 : A.funcs 30 = some xLevels) (hh : ∀ g, g ≠ 4 → ∀ vs H nx, A.hook g vs H nx = none) {lb wb fb : Nat} {H0 : Heap} {n0 yv lv rv xv : Value} {base : Option Addr} {ec : Nat} {pre : List Fl} {w : Vw} (st : PkS [(wb, [yv, lv, rv, xv])] lb H0 n0 (.slice base w.m ec) yv lv rv xv H nx pre fb) (vw : VwS w H0 lb n0 (.slice base w.m ec) yv lv rv xv) (hpre : pre.length ≤ 40000)
    (hexit : ∀ σ H' nx' fb, nx ≤ nx' → PkS [(wb, [yv, lv, rv, xv])] lb H0 n0 (.slice base w.m ec) yv lv rv xv H' nx' (pre ++ w.f6 w.m) fb → Q (.exit 8) σ H' nx') :
    WC A (.loop xP6O) [([], .pointer (some ⟨lb, 0, none⟩)), ([false], .pointer (some ⟨wb, 0, none⟩)), ([false, true, false, true, true, false, true], .int .i64 (w.m : Int)), ([true, false, false, true, true, false, true], .int .i64 0)] H nx Q := by
  refine WC.loop (α := Nat × Nat) (fun k => [([], .pointer (some ⟨lb, 0, none⟩)), ([false], .pointer (some ⟨wb, 0, none⟩)), ([false, true, false, true, true, false, true], .int .i64 (w.m : Int)), ([true, false, false, true, true, false, true], .int .i64 ((k.1 : Nat) : Int))])
    (fun k H' nx' => k.1 ≤ w.m ∧ nx ≤ nx' ∧ PkS [(wb, [yv, lv, rv, xv])] lb H0 n0 (.slice base w.m ec) yv lv rv xv H' nx' (pre ++ w.f6 k.1) k.2) (fun k => w.m - k.1)
    ?_ (0, fb) (.cons rfl (.cons rfl (.cons rfl (.cons rfl (.nil _))))) ⟨Nat.zero_le _, Nat.le_refl _, by simpa [Vw.f6, row1_zero] using st⟩
  rintro ⟨k, fb⟩ H1 nx2 ⟨hk, hnx, st1⟩
  simp only at hk st1 ⊢
  have hmm := vw.hm
  have hlen := len60 hk hmm (f6_len w k)
  unfold xP6O
  repeat' (first | ((first | refine WO.n rfl ?_ | refine WO.k rfl ?_); (first | refine Then.of (Act.mov rfl) ?_ | ((refine Then.both (Act.lss rfl rfl) (fun h => ?_) (fun h => ?_)) <;> (try simp only [Int.ofNat_eq_natCast] at h)) | refine Then.of (Act.addN rfl rfl (by omega)) ?_)) | with_reducible refine WO.nil ?_ | with_reducible refine WC.reg ?_ | with_reducible refine WC.seq ?_ | with_reducible refine WC.skip ?_ | with_reducible refine WC.exit ?_ | with_reducible refine WC.block ?_ | refine WC.condT rfl ?_ | refine WC.condF rfl ?_ | with_reducible refine stN ?_ | with_reducible refine stE ?_)
  · have hk' : k < w.m := by omega
    refine WC.sub (.cons rfl (.cons rfl (.cons rfl (.cons rfl (.cons rfl (.cons rfl (.nil _))))))) (p6I h13 h30 hh st1 vw hk' (by rw [List.length_append]; omega) (fun σ H3 nx3 fb3 hσ hn3 st3 => ?_))
    refine bkE (bkN (stN (WC.sub hσ ?_)))
    repeat' (first | ((first | refine WO.n rfl ?_ | refine WO.k rfl ?_); (first | refine Then.of (Act.mov rfl) ?_ | refine Then.of (Act.addN rfl rfl (by omega)) ?_)) | with_reducible refine WO.nil ?_ | with_reducible refine WC.reg ?_)
    refine ⟨(k + 1, fb3), by show w.m - (k + 1) < w.m - k; omega, .cons rfl (.cons rfl (.cons rfl (.cons rfl (.nil _)))), by show k + 1 ≤ _; omega, by omega, ?_⟩
    show PkS _ _ _ _ _ _ _ _ _ _ _ (pre ++ w.f6 (k + 1)) fb3
    rw [f6_succ, ← List.append_assoc]
    exact st3
  · have hkn : k = w.m := by omega
    subst hkn
    exact hexit _ _ _ _ hnx st1

theorem pairs_spec {g : FuncId} (hf : A.funcs g = some xPairs) (h13 : A.funcs 13 = some xFind) (h29 : A.funcs 29 = some xWithin) (h30 : A.funcs 30 = some xLevels) (hh : ∀ g, g ≠ 4 → ∀ vs H nx, A.hook g vs H nx = none) (hg : g ≠ 4) {lb fb : Nat} {H0 : Heap} {n0 ev yv lv rv xv : Value} {pre : List Fl} (st : LkS lb H0 n0 ev yv lv rv xv H nx pre fb) {w : Vw} (vw : VwS w H0 lb n0 ev yv lv rv xv) (hok : ∀ v, v < w.n → w.L v ≤ w.R v) (hpre : pre.length ≤ 4000) :
    WF A g [.pointer (some ⟨lb, 0, none⟩)] H nx fun _ H' nx' => nx ≤ nx' ∧ ∃ fb, LkS lb H0 n0 ev yv lv rv xv H' nx' (pre ++ w.f4 w.n ++ w.f5 w.m ++ w.f6 w.m) fb := by
  refine WF.enter (hh g hg _ _ _) hf ?_
  have st0 := st
  have hfb := st.fb_lt
  obtain ⟨⟨fv, hl, hfv⟩, hs, hlt⟩ := st
  have hn0 := vw.n
  subst hn0
  obtain ⟨base, ec, rfl, _⟩ := vw.e
  obtain ⟨yb, yc, rfl, _⟩ := vw.y
  obtain ⟨lb', lc, rfl, _⟩ := vw.l
  obtain ⟨rb, rc, rfl, _⟩ := vw.r
  obtain ⟨xb, xc, rfl, _⟩ := vw.x
  repeat' (first | ((first | refine WO.n rfl ?_ | refine WO.k rfl ?_); (first | refine Then.of (Act.mov rfl) ?_ | refine Then.of (Act.fad rfl) ?_ | refine Then.of Act.alc ?_ | refine Then.of (Act.lod rfl (by (with_reducible (first | exact Rd.self | assumption | exact Rd.own (by assumption) | ((repeat ((apply Rd.skip); (with_unfolding_all omega))); first | exact Rd.self | assumption | exact Rd.own (by assumption))))) rfl) ?_ | refine Then.of (Act.stoN rfl rfl rfl (by omega) rfl (by (with_reducible (first | exact get_self | assumption | ((repeat ((apply get_skip); (with_unfolding_all omega))); first | exact get_self | assumption)))) (by (first | omega | decide | (simp only [List.length_map, List.length_append, List.length_set, List.length_cons, List.length_nil, List.length_replicate, List.length_range]; omega)))) ?_ | refine Then.of (Act.nilck rfl) ?_)) | with_reducible refine WO.nil ?_ | with_reducible refine WC.reg ?_ | with_reducible refine WC.seq ?_ | with_reducible refine WC.block ?_ | with_reducible refine stN ?_)
  have st2 := ((PkS.mk (kp := []) st0 (fun p hp => by cases hp)).stays (nx' := nx + 1) (H' := set1 (set1 H nx [.slice none 0 0, .slice none 0 0, .slice none 0 0, .slice none 0 0]) nx [.slice yb w.n yc, .slice lb' w.n lc, .slice rb w.n rc, .slice xb w.m xc]) (Nat.le_succ nx) (fun c hc => by rw [get_set1, if_neg (by omega), get_set1, if_neg (by omega)])).more (b := nx) (by omega) (by omega) (by omega) get_self
  refine WC.sub (.cons rfl (.cons rfl (.cons rfl (.cons rfl (.nil _))))) (p4O h13 hh st2 vw hok (by omega) (fun σ H1 nx1 fb1 hσ hn1 st3 => ?_))
  refine bkE (stN (WC.sub hσ ?_))
  clear hl
  obtain ⟨fv1, hl1, _⟩ := st3.st.own
  repeat' (first | ((first | refine WO.n rfl ?_ | refine WO.k rfl ?_); (first | refine Then.of (Act.mov rfl) ?_ | refine Then.of (Act.fad rfl) ?_ | refine Then.of (Act.len rfl) ?_ | refine Then.of (Act.lod rfl (by (with_reducible (first | exact Rd.self | assumption | exact Rd.own (by assumption) | ((repeat ((apply Rd.skip); (with_unfolding_all omega))); first | exact Rd.self | assumption | exact Rd.own (by assumption))))) rfl) ?_ | refine Then.of (Act.nilck rfl) ?_)) | with_reducible refine WO.nil ?_ | with_reducible refine WC.reg ?_ | with_reducible refine WC.seq ?_ | with_reducible refine WC.block ?_ | with_reducible refine stN ?_)
  have hl4 := len60 (Nat.le_refl w.n) vw.hn (f4_len w w.n)
  have hl5 := len60' (Nat.le_refl w.m) vw.hn vw.hm (f5_len w w.m)
  refine WC.sub (.cons rfl (.cons rfl (.cons rfl (.cons rfl (.cons rfl (.nil _)))))) (p5O h13 h29 h30 hh st3 vw (by rw [List.length_append]; omega) (fun σ H2 nx2 fb2 hσ hn2 st4 => ?_))
  refine bkE (stN (WC.sub hσ ?_))
  clear hl1
  obtain ⟨fv2, hl2, _⟩ := st4.st.own
  repeat' (first | ((first | refine WO.n rfl ?_ | refine WO.k rfl ?_); (first | refine Then.of (Act.mov rfl) ?_ | refine Then.of (Act.fad rfl) ?_ | refine Then.of (Act.len rfl) ?_ | refine Then.of (Act.lod rfl (by (with_reducible (first | exact Rd.self | assumption | exact Rd.own (by assumption) | ((repeat ((apply Rd.skip); (with_unfolding_all omega))); first | exact Rd.self | assumption | exact Rd.own (by assumption))))) rfl) ?_ | refine Then.of (Act.nilck rfl) ?_)) | with_reducible refine WO.nil ?_ | with_reducible refine WC.reg ?_ | with_reducible refine WC.seq ?_ | with_reducible refine WC.block ?_ | with_reducible refine stN ?_)
  refine WC.sub (.cons rfl (.cons rfl (.cons rfl (.cons rfl (.nil _))))) (p6O h13 h30 hh st4 vw (by rw [List.length_append, List.length_append]; omega) (fun σ H3 nx3 fb3 hn3 st5 => ?_))
  exact bkE (fin_normal (vs := []) rfl ⟨by omega, fb3, st5.st⟩)
end Go.Eng
