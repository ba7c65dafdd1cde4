import Derived.Test.YtkojdclaojbpiaaGreatWc
/- St-orders, in plain lists. -/
namespace Go.Eng
set_option linter.unusedSectionVars false

theorem nodup_le : ∀ (n : Nat) (l : List Nat), l.Nodup → (∀ x ∈ l, x < n) → l.length ≤ n := by
  intro n
  induction n with
  | zero =>
    intro l _ h
    cases l with
    | nil => simp
    | cons x l => have := h x List.mem_cons_self; omega
  | succ n ih =>
    intro l hd h
    by_cases hm : n ∈ l
    · have := ih (l.erase n) (hd.erase n) (fun x hx => by
        have h1 := (hd.mem_erase_iff).1 hx
        have := h x h1.2
        have := h1.1
        omega)
      rw [List.length_erase_of_mem hm] at this
      omega
    · have := ih l hd (fun x hx => by
        have h1 := h x hx
        have : x ≠ n := fun e => hm (e ▸ hx)
        omega)
      omega

theorem PermI.mem {n : Int} {l : List Int} (h : PermI n l) {v : Int} (h0 : 0 ≤ v) (hn : v < n) : ∃ j : Nat, l[j]? = some v := by
  obtain ⟨h1, h2, h3⟩ := h
  by_cases hv : v ∈ l
  · exact List.getElem?_of_mem hv
  · exfalso
    have hnd : ((v :: l).map Int.toNat).Nodup := by
      have h4 : (v :: l).Nodup := List.nodup_cons.2 ⟨hv, h3⟩
      refine List.pairwise_map.2 ?_
      refine List.Pairwise.imp_of_mem (R := (· ≠ ·)) ?_ h4
      intro a b ha hb hab e
      have p : ∀ x ∈ v :: l, 0 ≤ x := fun x hx => by
        rcases List.mem_cons.1 hx with rfl | hx
        · exact h0
        · exact (h2 x hx).1
      have := p a ha
      have := p b hb
      omega
    have := nodup_le n.toNat _ hnd (fun x hx => by
      obtain ⟨y, hy, rfl⟩ := List.mem_map.1 hx
      rcases List.mem_cons.1 hy with rfl | hy
      · omega
      · have := h2 y hy; omega)
    simp at this
    omega

/-- an edge leads from the node at 'i' to one that stands lower -/
def Lower (l : List Int) (es : List (Int × Int)) (i : Nat) : Prop := ∃ e ∈ es, ∃ j : Nat, j < i ∧ ((l[i]? = some e.1 ∧ l[j]? = some e.2) ∨ (l[i]? = some e.2 ∧ l[j]? = some e.1))
def Higher (l : List Int) (es : List (Int × Int)) (i : Nat) : Prop := ∃ e ∈ es, ∃ j : Nat, i < j ∧ ((l[i]? = some e.1 ∧ l[j]? = some e.2) ∨ (l[i]? = some e.2 ∧ l[j]? = some e.1))
def IsStP (n : Int) (es : List (Int × Int)) (l : List Int) : Prop := PermI n l ∧ 2 ≤ l.length ∧ ∀ i : Nat, 1 ≤ i → i + 1 < l.length → Lower l es i ∧ Higher l es i

theorem PermI.rev {n : Int} {l : List Int} (h : PermI n l) : PermI n l.reverse := ⟨by simpa using h.1, fun x hx => h.2.1 x (by simpa using hx), List.pairwise_reverse.2 (h.2.2.imp fun h e => h e.symm)⟩
theorem rev_get {l : List Int} {i : Nat} {x : Int} (h : l[i]? = some x) : l.reverse[l.length - 1 - i]? = some x := by
  have hi := (List.getElem?_eq_some_iff.1 h).1
  rw [List.getElem?_reverse (by omega), ← h]
  congr 1; omega
theorem IsStP.rev {n : Int} {es : List (Int × Int)} {l : List Int} (h : IsStP n es l) : IsStP n es l.reverse := by
  obtain ⟨h1, h2, h3⟩ := h
  refine ⟨h1.rev, by simpa using h2, fun i hi hl => ?_⟩
  simp only [List.length_reverse] at hl
  obtain ⟨⟨e, he, j, hj, hc⟩, ⟨e', he', j', hj', hc'⟩⟩ := h3 (l.length - 1 - i) (by omega) (by omega)
  have hii : l.length - 1 - (l.length - 1 - i) = i := by omega
  have tr : ∀ (j : Nat) (a b : Int), l[l.length - 1 - i]? = some a ∧ l[j]? = some b → l.reverse[i]? = some a ∧ l.reverse[l.length - 1 - j]? = some b := fun j a b ⟨p, q⟩ => by
    have := rev_get p
    rw [hii] at this
    exact ⟨this, rev_get q⟩
  constructor
  · refine ⟨e', he', l.length - 1 - j', ?_, hc'.imp (tr _ _ _) (tr _ _ _)⟩
    have : j' < l.length := by rcases hc' with ⟨_, q⟩ | ⟨_, q⟩ <;> exact (List.getElem?_eq_some_iff.1 q).1
    omega
  · exact ⟨e, he, l.length - 1 - j, by omega, hc.imp (tr _ _ _) (tr _ _ _)⟩
theorem IsStP.rev_iff {n : Int} {es : List (Int × Int)} {l : List Int} : IsStP n es l.reverse ↔ IsStP n es l := ⟨fun h => by simpa using h.rev, fun h => h.rev⟩

/-! ### by the places -/
/-- node 'v' has a lower neighbour over 'e' -/
def UpAt (f : Nat → Int) (e : Int × Int) (v : Nat) : Prop := (e.1 = v ∧ f e.2.toNat < f e.1.toNat) ∨ (e.2 = v ∧ f e.1.toNat < f e.2.toNat)
def DnAt (f : Nat → Int) (e : Int × Int) (v : Nat) : Prop := (e.1 = v ∧ f e.1.toNat < f e.2.toNat) ∨ (e.2 = v ∧ f e.2.toNat < f e.1.toNat)

section
variable {n : Int} {es : List (Int × Int)} {l at_ : List Int} (hp : PermI n l) (hpl : Places l at_) (hes : ∀ e ∈ es, inB n e)
include hp hpl

theorem place_of {j : Nat} {v : Int} (h : l[j]? = some v) : at_.getD v.toNat 0 = j := by
  rw [List.getD_eq_getElem?_getD, hpl.2 j v h]; rfl
theorem at_place {v : Int} (h0 : 0 ≤ v) (hn : v < n) : ∃ j : Nat, l[j]? = some v ∧ at_.getD v.toNat 0 = j := by
  obtain ⟨j, hj⟩ := hp.mem h0 hn
  exact ⟨j, hj, place_of hp hpl hj⟩
theorem place_inj {u v : Int} (hu : 0 ≤ u ∧ u < n) (hv : 0 ≤ v ∧ v < n) (h : at_.getD u.toNat 0 = at_.getD v.toNat 0) : u = v := by
  obtain ⟨i, hi, e1⟩ := at_place hp hpl hu.1 hu.2
  obtain ⟨j, hj, e2⟩ := at_place hp hpl hv.1 hv.2
  have : i = j := by omega
  subst this
  rw [hi] at hj
  exact Option.some.inj hj

include hes
theorem lower_iff {i : Nat} {v : Nat} (hv : l[i]? = some (v : Int)) : Lower l es i ↔ ∃ e ∈ es, UpAt (fun i => at_.getD i 0) e v := by
  have pv := place_of hp hpl hv
  constructor
  · rintro ⟨e, he, j, hj, hc⟩
    refine ⟨e, he, ?_⟩
    rcases hc with ⟨p, q⟩ | ⟨p, q⟩
    · rw [hv] at p
      have p' := (Option.some.inj p).symm
      refine .inl ⟨p', ?_⟩
      show at_.getD e.2.toNat 0 < at_.getD e.1.toNat 0
      rw [place_of hp hpl q, p', pv]; omega
    · rw [hv] at p
      have p' := (Option.some.inj p).symm
      refine .inr ⟨p', ?_⟩
      show at_.getD e.1.toNat 0 < at_.getD e.2.toNat 0
      rw [place_of hp hpl q, p', pv]; omega
  · rintro ⟨e, he, hc⟩
    obtain ⟨b1, b2, b3, b4⟩ := hes e he
    rcases hc with ⟨p, q⟩ | ⟨p, q⟩
    · obtain ⟨j, hj, ej⟩ := at_place hp hpl b3 b4
      have q' : at_.getD e.2.toNat 0 < at_.getD e.1.toNat 0 := q
      rw [ej, p, pv] at q'
      exact ⟨e, he, j, by omega, .inl ⟨by rw [hv, p], hj⟩⟩
    · obtain ⟨j, hj, ej⟩ := at_place hp hpl b1 b2
      have q' : at_.getD e.1.toNat 0 < at_.getD e.2.toNat 0 := q
      rw [ej, p, pv] at q'
      exact ⟨e, he, j, by omega, .inr ⟨by rw [hv, p], hj⟩⟩
theorem higher_iff {i : Nat} {v : Nat} (hv : l[i]? = some (v : Int)) : Higher l es i ↔ ∃ e ∈ es, DnAt (fun i => at_.getD i 0) e v := by
  have pv := place_of hp hpl hv
  constructor
  · rintro ⟨e, he, j, hj, hc⟩
    refine ⟨e, he, ?_⟩
    rcases hc with ⟨p, q⟩ | ⟨p, q⟩
    · rw [hv] at p
      have p' := (Option.some.inj p).symm
      refine .inl ⟨p', ?_⟩
      show at_.getD e.1.toNat 0 < at_.getD e.2.toNat 0
      rw [place_of hp hpl q, p', pv]; omega
    · rw [hv] at p
      have p' := (Option.some.inj p).symm
      refine .inr ⟨p', ?_⟩
      show at_.getD e.2.toNat 0 < at_.getD e.1.toNat 0
      rw [place_of hp hpl q, p', pv]; omega
  · rintro ⟨e, he, hc⟩
    obtain ⟨b1, b2, b3, b4⟩ := hes e he
    rcases hc with ⟨p, q⟩ | ⟨p, q⟩
    · obtain ⟨j, hj, ej⟩ := at_place hp hpl b3 b4
      have q' : at_.getD e.1.toNat 0 < at_.getD e.2.toNat 0 := q
      rw [ej, p, pv] at q'
      exact ⟨e, he, j, by omega, .inl ⟨by rw [hv, p], hj⟩⟩
    · obtain ⟨j, hj, ej⟩ := at_place hp hpl b1 b2
      have q' : at_.getD e.2.toNat 0 < at_.getD e.1.toNat 0 := q
      rw [ej, p, pv] at q'
      exact ⟨e, he, j, by omega, .inr ⟨by rw [hv, p], hj⟩⟩
end
end Go.Eng
