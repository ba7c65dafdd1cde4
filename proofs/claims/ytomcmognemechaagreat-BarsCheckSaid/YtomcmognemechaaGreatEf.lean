/- An interpreter of the model's code that follows one order and is proved right for all: part 6. -/
import Derived.Test.YtomcmognemechaaGreatEe
import Derived.Deep.Slices
/- The engine: what comes in as an argument: memory that is read alone. -/
namespace Go.Eng
variable {ρ : Rho} {H : Heap} {nx : Nat} {hp : Array Obj}

/-- nothing in it is ours to write -/
structure Ro (ρ : Rho) (H : Heap) (nx : Nat) (hp : Array Obj) : Prop where
  hr : HR ρ H nx hp
  ro : ∀ b k, getP H (at_ b) = some k → k.mine = false

theorem Ro.empty (hp : Array Obj) : Ro (fun _ => none) .e 0 hp := ⟨⟨(fun b k hb => by cases hb), (fun b b' k k' s s' hb => by cases hb), fun _ _ => rfl⟩, fun b k hb => by cases hb⟩
theorem Ro.up (h : Ro ρ H nx hp) : Ro ρ H (nx + 1) hp := ⟨⟨h.hr.blk, h.hr.inj, fun b hb => h.hr.new b (by omega)⟩, h.ro⟩

theorem RdR.mono {ρ ρ' : Rho} {r : Ref} {cs : List Value} (e : Ext ρ ρ') (h : RdR ρ hp r cs) : RdR ρ' hp r cs :=
  let ⟨a, t, f, h1, h2, h3⟩ := h
  ⟨a, t, f, h1, h2, fun i v hv => let ⟨v', g, hr⟩ := h3 i v hv; ⟨v', g, hr.mono e⟩⟩

theorem Ro.add (h : Ro ρ H nx hp) {r : Ref} {cs : List Value} (hr : RdR ρ hp r cs) : Ro (ρ.with nx r) (insP (at_ nx) H (some (.ro cs))) (nx + 1) hp := by
  have ext := h.hr.ext_with r
  have cases' : ∀ b x, getP (insP (at_ nx) H (some (.ro cs))) (at_ b) = some x → (b = nx ∧ x = .ro cs) ∨ (b ≠ nx ∧ getP H (at_ b) = some x) := by
    intro b x hb
    by_cases e : at_ b = at_ nx
    · rw [e, getP_insP] at hb
      exact .inl ⟨at_inj e, by simpa using hb.symm⟩
    · rw [getP_insP_ne _ _ _ _ e] at hb
      exact .inr ⟨fun e' => e (by rw [e']), hb⟩
  have hro : ∀ b k, getP (insP (at_ nx) H (some (.ro cs))) (at_ b) = some k → k.mine = false := by
    intro b k hb
    rcases cases' b k hb with ⟨_, rfl⟩ | ⟨_, hb⟩
    · rfl
    · exact h.ro b k hb
  refine ⟨⟨fun b x hb => ?_, fun b c x y s t hb hc hm => ?_, fun b hb => ?_⟩, hro⟩
  · rcases cases' b x hb with ⟨rfl, rfl⟩ | ⟨hne, hb⟩
    · exact ⟨r, Rho.with_self _ _ _, hr.mono ext⟩
    · obtain ⟨s, hs, hbr⟩ := h.hr.blk b x hb
      exact ⟨s, ext b s hs, hbr.mono ext⟩
  · rw [hro b x hb] at hm; cases hm
  · rw [Rho.with_ne _ _ (by omega)]
    exact h.hr.new b (by omega)

section
variable {X : Type} {enc : TypeId × Value → X} {P : Program} {w : World} {base : Nat}

theorem mapM_cells {w : World} {a : Addr} {n : Nat} {cs : List Value} (h : w.cells? base a n = some cs) : cs.length = n ∧ ∀ i, i < n → w.cell? (a.add i) = cs[i]? := by
  unfold World.cells? at h
  split at h
  · exact ⟨by simpa using mapM_some_length h, fun i hi => mapM_some_get h i i (by simp [hi])⟩
  · cases h

/-- a slice of plain elements, taken in -/
theorem take_slice {α : Type} {encα : α → List Value} {z fuel : Nat} {t e : TypeId} {v : Value} {x : DataW X × List MemPlace} (ht : P.underlying t = some (.slice e)) (hz : P.cellsOf e = z) (hz0 : 0 < z) (hlen : ∀ a, (encα a).length = z) (hsc : ∀ a, (encα a).all scalar = true)
    (hE : ∀ fuel c y, DataW.trod enc P w base (fun _ => true) true fuel e c = some y → ∃ a, c = encα a) (hok : ∀ a len cap, v = .slice (some a) len cap → a.spot = none ∧ ∃ row cells, w.shape? a.block = some (row, cells))
    (hd : DataW.trod enc P w base (fun _ => true) true fuel t [v] = some x) (hro : Ro ρ H nx w.heap) :
    ∃ ρ' H' av, ∃ xs : List α, Ext ρ ρ' ∧ Ro ρ' H' (nx + 1) w.heap ∧ Same H H' nx ∧ VR ρ' av v ∧ SlE H' (nx + 1) z encα av xs := by
  rcases Deep.open_slice ht hd with ⟨h, _⟩ | ⟨a, len, cap, m, n, D, Pl, h, _, hl, hm, hmm, _, hel⟩
  · obtain rfl : v = .slice none 0 0 := by simpa using h
    exact ⟨ρ, H, .slice none 0 0, [], .refl ρ, hro.up, .refl, .snil, .nil⟩
  · obtain rfl : v = .slice (some a) len cap := by simpa using h
    obtain ⟨hsp, row, cells, hshape⟩ := hok a len cap rfl
    obtain ⟨blk, off, spot⟩ := a
    obtain rfl : spot = none := hsp
    obtain rfl : m = cap := by simpa using hmm
    rw [hz] at hel
    -- the elements
    have hch : ∀ i, i < m → ∃ a, w.cells? base ((⟨blk, off, none⟩ : Addr).add (i * z)) z = some (encα a) := fun i hi => by
      obtain ⟨cs, h1, h2⟩ := hel i hi
      obtain ⟨a, rfl⟩ := hE _ _ _ h2
      exact ⟨a, h1⟩
    have hobj : ∃ arr te fz, w.heap[blk]? = some (.cells arr te fz) := by
      unfold World.shape? at hshape
      split at hshape
      · rename_i c el fz hh; exact ⟨c, el, fz, hh⟩
      · cases hshape
    obtain ⟨arr, te, fz, harr⟩ := hobj
    have hcell : ∀ o v, w.cell? ⟨blk, o, none⟩ = some v → arr[o]? = some v := fun o v hv => by
      unfold World.cell? at hv
      rw [harr] at hv
      simpa using hv
    have hall : ∀ i, i < m → ∃ a, ∀ j, j < z → arr[off + i * z + j]? = (encα a)[j]? := fun i hi => by
      obtain ⟨a, ha⟩ := hch i hi
      refine ⟨a, fun j hj => ?_⟩
      have h1 := (mapM_cells ha).2 j hj
      obtain ⟨u, h2⟩ : ∃ u, (encα a)[j]? = some u := ⟨_, List.getElem?_eq_getElem (by rw [hlen]; exact hj)⟩
      rw [h2, Go.WideShapes.add_plain, Go.WideShapes.add_plain] at h1
      rw [h2]
      exact hcell _ _ h1
    -- those up to the length, as a list
    have hxs : ∀ k, k ≤ len → ∃ xs : List α, xs.length = k ∧ ∀ i a, xs[i]? = some a → ∀ j, j < z → arr[off + i * z + j]? = (encα a)[j]? := by
      intro k
      induction k with
      | zero => intro _; exact ⟨[], rfl, fun i a h => by simp at h⟩
      | succ k ih =>
        intro hk
        obtain ⟨xs, h1, h2⟩ := ih (by omega)
        obtain ⟨a, ha⟩ := hall k (by omega)
        refine ⟨xs ++ [a], by simp [h1], fun i b hb => ?_⟩
        by_cases hi : i < k
        · rw [List.getElem?_append_left (by omega)] at hb
          exact h2 i b hb
        · have hlt := (List.getElem?_eq_some_iff.1 hb).1
          simp at hlt
          obtain rfl : i = k := by omega
          rw [List.getElem?_append_right (by omega), h1] at hb
          simp at hb
          subst hb
          exact ha
    obtain ⟨xs, hx1, hx2⟩ := hxs len (Nat.le_refl _)
    have hflat : ∀ i v, (xs.flatMap encα)[i]? = some v → arr[off + i]? = some v ∧ scalar v = true := by
      intro i v hv
      have hi := (List.getElem?_eq_some_iff.1 hv).1
      have hfl : (xs.flatMap encα).length = xs.length * z := by
        clear hv hi hx2 hx1
        induction xs with
        | nil => simp
        | cons y ys ih => rw [List.flatMap_cons, List.length_append, hlen, ih, List.length_cons, Nat.succ_mul]; omega
      have hq : i / z < xs.length := by
        rw [Nat.div_lt_iff_lt_mul hz0]; omega
      obtain ⟨l, r, p1, p2⟩ := flat_at hlen xs (i / z) _ (List.getElem?_eq_getElem hq)
      have hmod := Nat.mod_lt i hz0
      have hdm := Nat.div_add_mod i z
      rw [Nat.mul_comm] at hdm
      have h3 : (xs.flatMap encα)[i]? = (encα xs[i / z])[i % z]? := by
        rw [p1, List.append_assoc, List.getElem?_append_right (by omega), p2, List.getElem?_append_left (by rw [hlen]; omega)]
        congr 1; omega
      have h4 := hx2 (i / z) _ (List.getElem?_eq_getElem hq) (i % z) hmod
      rw [← h3, hv] at h4
      refine ⟨by rw [← h4]; congr 1; omega, ?_⟩
      rw [hv] at h3
      exact List.all_eq_true.1 (hsc _) v (List.mem_of_getElem? h3.symm)
    have hrd : RdR ρ w.heap ⟨blk, off, arr.size⟩ (xs.flatMap encα) := ⟨arr, te, fz, harr, rfl, fun i v hv => ⟨v, (hflat i v hv).1, .sc (hflat i v hv).2⟩⟩
    have hcap : m = 0 ∨ off + m * z ≤ arr.size := by
      by_cases h0 : m = 0
      · exact .inl h0
      · right
        obtain ⟨a, ha⟩ := hall (m - 1) (by omega)
        have := ha (z - 1) (by omega)
        rw [List.getElem?_eq_getElem (by rw [hlen]; omega)] at this
        have hlt := (Array.getElem?_eq_some_iff.1 this).1
        have : (m - 1) * z + z = m * z := by rw [← Nat.succ_mul]; congr 1; omega
        omega
    have hmx : m ≤ capMax := by unfold maxLen at hm; unfold capMax; omega
    have hget : getP (insP (at_ nx) H (some (.ro (xs.flatMap encα)))) (at_ nx) = some (.ro (xs.flatMap encα)) := getP_insP _ _ _
    refine ⟨ρ.with nx ⟨blk, off, arr.size⟩, _, .slice (some ⟨nx, 0, some z⟩) xs.length (2 * len), xs, hro.hr.ext_with _, hro.add hrd, fun b hb => getP_insP_ne _ _ _ _ (fun e => by have := at_inj e; omega), ?_, .pre (rest := []) (.inr (by rw [List.append_nil]; exact hget)) (by omega) (by rw [sure_two]; omega) hlen⟩
    rw [hx1]
    exact .sl (Rho.with_self _ _ _) ⟨hl, hmx⟩ (by rw [sure_two]; exact hl) (fun e => by rw [exact_two] at e; cases e) (hcap.imp id fun h => ⟨rfl, h⟩)
end
end Go.Eng
