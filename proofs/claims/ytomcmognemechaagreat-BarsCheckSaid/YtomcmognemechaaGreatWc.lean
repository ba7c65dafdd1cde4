import Derived.Test.YtomcmognemechaaGreatWb
/- A view that lies in the heap; the levels of an edge. -/
namespace Go.Eng
variable {A : AProg} {H H' : Heap} {nx nx' : Nat} {σ : Slots} {Q : Post}
set_option maxRecDepth 100000

/-- 'k' numbers, and where they are read -/
def FnS (H : Heap) (nx : Nat) (v : Value) (k : Nat) (f : Nat → Int) : Prop :=
  ∃ base c, v = .slice base k c ∧ (0 < k → ∃ b o ds, base = some ⟨b, o, some 1⟩ ∧ b < nx ∧ Rd H b ds ∧ ∀ i, i < k → ds[o + i * 1]? = some (.int .i64 (f i)))
/-- 'k' pairs -/
def FpS (H : Heap) (nx : Nat) (v : Value) (k : Nat) (f g : Nat → Nat) : Prop :=
  ∃ base c, v = .slice base k c ∧ (0 < k → ∃ b o ds, base = some ⟨b, o, some 2⟩ ∧ b < nx ∧ Rd H b ds ∧ ∀ i, i < k → ds[o + i * 2]? = some (.int .i64 (f i)) ∧ ds[o + i * 2 + 1]? = some (.int .i64 (g i)))
theorem FnS.same {v : Value} {k : Nat} {f : Nat → Int} (h : FnS H nx v k f) (hs : Same H H' nx) (hn : nx ≤ nx') : FnS H' nx' v k f :=
  let ⟨base, c, h1, h2⟩ := h
  ⟨base, c, h1, fun hk => let ⟨b, o, ds, g1, g2, g3, g4⟩ := h2 hk; ⟨b, o, ds, g1, by omega, hs.rd g2 g3, g4⟩⟩
theorem FpS.same {v : Value} {k : Nat} {f g : Nat → Nat} (h : FpS H nx v k f g) (hs : Same H H' nx) (hn : nx ≤ nx') : FpS H' nx' v k f g :=
  let ⟨base, c, h1, h2⟩ := h
  ⟨base, c, h1, fun hk => let ⟨b, o, ds, g1, g2, g3, g4⟩ := h2 hk; ⟨b, o, ds, g1, by omega, hs.rd g2 g3, g4⟩⟩
theorem SlE.fn {v : Value} {l : List Int} (h : SlE H nx 1 encI v l) : FnS H nx v l.length fun i => l.getD i 0 := by
  obtain ⟨base, c, rfl⟩ := h.form
  refine ⟨base, c, rfl, fun hk => ?_⟩
  obtain ⟨b, o, ds, rfl, hb, _, _, hr, hds⟩ := h.at (by intro e; rw [e] at hk; simp at hk)
  refine ⟨b, o, ds, rfl, hb, hr, fun i hi => ?_⟩
  have := take1 (hds i _ (List.getElem?_eq_getElem hi))
  have hg : l.getD i 0 = l[i] := by simp [List.getD_eq_getElem?_getD, hi]
  rw [this]
  show _ = some (Value.int .i64 (l.getD i 0))
  rw [hg]
theorem SlE.fp {v : Value} {l : List (Int × Int)} (h : SlE H nx 2 encP v l) (h0 : ∀ e ∈ l, 0 ≤ e.1 ∧ 0 ≤ e.2) : FpS H nx v l.length (fun i => (l.getD i (0, 0)).1.toNat) fun i => (l.getD i (0, 0)).2.toNat := by
  obtain ⟨base, c, rfl⟩ := h.form
  refine ⟨base, c, rfl, fun hk => ?_⟩
  obtain ⟨b, o, ds, rfl, hb, _, _, hr, hds⟩ := h.at (by intro e; rw [e] at hk; simp at hk)
  refine ⟨b, o, ds, rfl, hb, hr, fun i hi => ?_⟩
  have := take2 (hds i _ (List.getElem?_eq_getElem hi))
  have hm := h0 _ (List.getElem_mem hi)
  have hg : l.getD i (0, 0) = l[i] := by simp [List.getD_eq_getElem?_getD, hi]
  show _ = some (Value.int .i64 ((l.getD i (0, 0)).1.toNat : Int)) ∧ _ = some (Value.int .i64 ((l.getD i (0, 0)).2.toNat : Int))
  rw [this.1, this.2, hg, Int.toNat_of_nonneg hm.1, Int.toNat_of_nonneg hm.2]
  exact ⟨rfl, rfl⟩

/-- a net and a view, as the walks take them -/
structure VwS (w : Vw) (H : Heap) (nx : Nat) (n0 ev yv lv rv xv : Value) : Prop where
  n : n0 = .int .i64 (w.n : Int)
  e : FpS H nx ev w.m w.a w.b
  y : FnS H nx yv w.n w.Y
  l : FnS H nx lv w.n w.L
  r : FnS H nx rv w.n w.R
  x : FnS H nx xv w.m w.X
  hn : w.n ≤ 60
  hm : w.m ≤ 60
  ha : ∀ e, e < w.m → w.a e < w.n
  hb : ∀ e, e < w.m → w.b e < w.n
theorem VwS.same {w : Vw} {n0 ev yv lv rv xv : Value} (h : VwS w H nx n0 ev yv lv rv xv) (hs : Same H H' nx) (hn : nx ≤ nx') : VwS w H' nx' n0 ev yv lv rv xv :=
  ⟨h.n, h.e.same hs hn, h.y.same hs hn, h.l.same hs hn, h.r.same hs hn, h.x.same hs hn, h.hn, h.hm, h.ha, h.hb⟩

theorem levels_spec {g : FuncId} (hf : A.funcs g = some xLevels) (hh : ∀ vs H nx, A.hook g vs H nx = none) {lb fb : Nat} {H0 : Heap} {n0 ev yv lv rv xv : Value} {fl : List Fl} (st : LkS lb H0 n0 ev yv lv rv xv H nx fl fb) {w : Vw} (vw : VwS w H0 lb n0 ev yv lv rv xv) {e : Nat} (he : e < w.m) :
    WF A g [.pointer (some ⟨lb, 0, none⟩), .int .i64 (e : Int)] H nx fun v H' nx' => H' = H ∧ nx' = nx ∧ v = .tuple ⟨[.int .i64 (w.lo e), .int .i64 (w.hi e)]⟩ := by
  obtain ⟨⟨fv, hl, hfv⟩, hs, hlt⟩ := st
  obtain ⟨hn, ee, ey, el, er, ex, hnn, hmm, ha, hb⟩ := vw.same hs (Nat.le_refl _)
  have hae := ha e he
  have hbe := hb e he
  obtain ⟨base, ec, rfl, h1⟩ := ee
  obtain ⟨eb, eo, eds, rfl, heb, her, hed⟩ := h1 (by omega)
  obtain ⟨base, yc, rfl, h1⟩ := ey
  obtain ⟨yb, yo, yds, rfl, hyb, hyr, hyd⟩ := h1 (by omega)
  have q1 : eds[eo + e * 2 + 0 * 1]? = some (.int .i64 (w.a e)) := (hed e he).1
  have q2 : eds[eo + e * 2 + 1 * 1]? = some (.int .i64 (w.b e)) := (hed e he).2
  have q3 := hyd _ hae
  have q4 := hyd _ hbe
  refine WF.enter (hh _ _ _) hf ?_
  repeat' (first | ((first | refine WO.n rfl ?_ | refine WO.k rfl ?_); (first | refine Then.of (Act.mov rfl) ?_ | refine Then.of (Act.fad rfl) ?_ | refine Then.of (Act.lod rfl (by (with_reducible (first | exact Rd.self | assumption | exact Rd.own (by assumption) | ((repeat ((apply Rd.skip); (with_unfolding_all omega))); first | exact Rd.self | assumption | exact Rd.own (by assumption))))) rfl) ?_ | refine Then.of (Act.lod rfl (by (with_reducible (first | exact Rd.self | assumption | exact Rd.own (by assumption) | ((repeat ((apply Rd.skip); (with_unfolding_all omega))); first | exact Rd.self | assumption | exact Rd.own (by assumption))))) (partOf_one (by assumption))) ?_ | refine Then.of (Act.ixs rfl rfl (by omega)) ?_ | refine Then.of (Act.ixa rfl rfl (by omega)) ?_ | refine Then.of (Act.nilck rfl) ?_ | refine Then.of (Act.min2 rfl rfl) ?_ | refine Then.of (Act.max2 rfl rfl) ?_)) | with_reducible refine WO.nil ?_ | with_reducible refine WC.reg ?_ | with_reducible refine WC.drawn ?_ | with_reducible refine WC.seq ?_ | with_reducible refine WC.ret ?_ | with_reducible refine stN ?_ | with_reducible refine drN ?_)
  exact fin_ret (vs := [_, _]) rfl ⟨rfl, rfl, rfl⟩
end Go.Eng
