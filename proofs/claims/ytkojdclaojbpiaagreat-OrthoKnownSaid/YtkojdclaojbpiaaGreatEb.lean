/- An interpreter of the model's code that follows one order and is proved right for all: part 2. -/
import Derived.Test.YtkojdclaojbpiaaGreatEa
import Derived.Laws.CopyRow
import Derived.Laws.AppendOwn
import Derived.LoopN
/- The engine: operations that read at most, each against the model's: slices, maps. -/
namespace Go.Eng
variable {P : Program} {w : World} {ρ : Rho} {H : Heap} {nx : Nat} {r : Ex × St}

/-! ### slices of slices -/
inductive OR (ρ : Rho) : Option Value → Option Value → Prop where
  | no : OR ρ none none
  | one {v u : Value} (h : VR ρ v u) : OR ρ (some v) (some u)

theorem OR.nat {k : IntKind} {n : Nat} {x : Option Value} (h : OR ρ (some (.int k (.ofNat n))) x) : x = some (.int k (.ofNat n)) := by
  cases h with
  | one h => rw [h.int_inv]

theorem bound_run {k : IntKind} {n y : Nat} {c : BoundsCode} (h : n ≤ y) : (Instr.sliceBound (.int k (.ofNat n)) y c).run P w = .ok n w := by
  have : (n : Int) ≤ y := by omega
  simp [Instr.sliceBound, asIntOf, Sem.run_pure, this]

theorem bound_run' {k : IntKind} {n y : Nat} {c : BoundsCode} (h : n ≤ y) : (Instr.sliceBound (.int k (n : Int)) y c).run P w = .ok n w := bound_run h

theorem bounds_run (b : Bool) {len cap l h m : Nat} {lo hi mx : Option Value} (hlo : (lo = none ∧ l = 0) ∨ ∃ ki : IntKind, lo = some (.int ki (.ofNat l)))
    (hhi : (hi = none ∧ mx = none ∧ h = len) ∨ ∃ ki : IntKind, hi = some (.int ki (.ofNat h))) (hmx : (mx = none ∧ m = cap) ∨ ∃ ki : IntKind, mx = some (.int ki (.ofNat m)) ∧ m ≤ cap)
    (h1 : l ≤ h) (h2 : h ≤ m) : (Instr.sliceBounds b len cap lo hi mx).run P w = .ok (l, h, m) w := by
  unfold Instr.sliceBounds
  rcases hmx with ⟨rfl, rfl⟩ | ⟨k3, rfl, hm⟩
  · rcases hhi with ⟨rfl, _, rfl⟩ | ⟨k2, rfl⟩
    · rcases hlo with ⟨rfl, rfl⟩ | ⟨k1, rfl⟩
      · simp [Sem.run_pure]
      · simp [Sem.run_pure, bound_run' h1]
    · rcases hlo with ⟨rfl, rfl⟩ | ⟨k1, rfl⟩
      · simp [Sem.run_pure, bound_run' h2]
      · simp [Sem.run_pure, bound_run' h1, bound_run' h2]
  · rcases hhi with ⟨_, hh, _⟩ | ⟨k2, rfl⟩
    · cases hh
    · rcases hlo with ⟨rfl, rfl⟩ | ⟨k1, rfl⟩
      · simp [Sem.run_pure, bound_run' h2, bound_run' hm]
      · simp [Sem.run_pure, bound_run' h1, bound_run' h2, bound_run' hm]

theorem optK_cst {T : Tr Value} {L : List Value} {x : Option Value} {d : Nat} {k : Nat → R0} (h : optK T L (x.map Od.cst) d k = some r) :
    ∃ n, k n = some r ∧ ((x = none ∧ n = d) ∨ ∃ ki : IntKind, x = some (.int ki (.ofNat n))) := by
  cases x with
  | none => exact ⟨d, h, .inl ⟨rfl, rfl⟩⟩
  | some v =>
    have h' : onNat v k = some r := h
    obtain ⟨ki, n, rfl, h1⟩ := onNat_some h'
    exact ⟨n, h1, .inr ⟨ki, rfl⟩⟩

theorem optI {x x' : Option Value} {n d : Nat} (hr : OR ρ x x') (h : (x = none ∧ n = d) ∨ ∃ ki : IntKind, x = some (.int ki (.ofNat n))) : (x' = none ∧ n = d) ∨ ∃ ki : IntKind, x' = some (.int ki (.ofNat n)) := by
  rcases h with ⟨rfl, rfl⟩ | ⟨ki, rfl⟩
  · cases hr; exact .inl ⟨rfl, rfl⟩
  · exact .inr ⟨ki, hr.nat⟩

theorem sureCap_sub (c l : Nat) : sureCap (Nat.sub c (Nat.mul 2 l)) = sureCap c - l := by
  show (c - 2 * l) / 2 = c / 2 - l
  omega
theorem exact_iff (c : Nat) : exact c = true ↔ c % 2 = 1 := by
  unfold exact
  rw [Nat.beq_eq]
  exact Iff.rfl
theorem sureCap_eq (c : Nat) : sureCap c = c / 2 := rfl

theorem slice_run {t e : TypeId} {z len c' l h m p b : Nat} {lo hi mx : Option Value} (hu : P.underlying t = some (.slice e)) (hz : sizeAt P e = some z)
    (hb : (Instr.sliceBounds true len c' lo hi mx).run P w = .ok (l, h, m) w) :
    (Instr.sliceAt t (.slice (some ⟨b, p, none⟩) len c') lo hi mx).run P w = .ok (.slice (some (if m = l then ⟨b, p, none⟩ else ⟨b, p + l * z, none⟩)) (h - l) (m - l)) w := by
  simp only [Instr.sliceAt, Instr.slice, Sem.run_bind, run_underlying hu, Result.andThen_ok, hb, run_size hz, Sem.run_pure]
  by_cases e : m = l
  · simp [e]
  · simp [e, Addr.add_lit]

theorem slc_sound {T : Tr Value} {L : List Value} {t e : TypeId} {z : Nat} {v u : Value} {lo hi mx lo' hi' mx' : Option Value} {k : KV} (hu : P.underlying t = some (.slice e)) (hz : sizeAt P e = some z)
    (hm : (mx.isNone || hi.isSome) = true) (hv : VR ρ v u) (hlo : OR ρ lo lo') (hhi : OR ρ hi hi') (hmx : OR ρ mx mx')
    (h : slcV T L (lo.map Od.cst) (hi.map Od.cst) (mx.map Od.cst) z k v = some r) : ∃ x y, k x = some r ∧ (Instr.sliceAt t u lo' hi' mx').run P w = .ok y w ∧ VR ρ x y := by
  unfold slcV at h
  split at h
  · -- nil
    obtain ⟨l, h1, hl⟩ := optK_cst h
    obtain ⟨g, h2, hg⟩ := optK_cst h1
    obtain ⟨hc, h3⟩ := cond_some h2
    simp only [Bool.and_eq_true] at hc
    obtain ⟨c1, c2, c3⟩ := hc
    have el : l = 0 := Nat.eq_of_beq_eq_true c1
    have eg : g = 0 := Nat.eq_of_beq_eq_true c2
    subst el; subst eg
    have hmn : mx = none := by cases mx <;> simp at c3 ⊢
    subst hmn
    cases hmx
    cases hv with
    | sc h => simp [scalar] at h
    | snil =>
      have hb := bounds_run (P := P) (w := w) true (len := 0) (cap := 0) (m := 0) (optI hlo hl) (by
        rcases optI hhi hg with ⟨e, _⟩ | hk
        · exact .inl ⟨e, rfl, rfl⟩
        · exact .inr hk) (.inl ⟨rfl, rfl⟩) (Nat.le_refl _) (Nat.le_refl _)
      refine ⟨_, _, h3, ?_, .snil⟩
      simp only [Instr.sliceAt, Instr.slice, Sem.run_bind, run_underlying hu, Result.andThen_ok, hb, run_size hz, Sem.run_pure]
      rfl
  · rename_i b o z' len c
    obtain ⟨l, h1, hl⟩ := optK_cst h
    obtain ⟨g, h2, hg⟩ := optK_cst h1
    obtain ⟨hc, h3⟩ := cond_some h2
    simp only [Bool.and_eq_true] at hc
    obtain ⟨c1, c2, c3⟩ := hc
    have ez : z = z' := Nat.eq_of_beq_eq_true c1
    subst ez
    have hlg : l ≤ g := Nat.le_of_ble_eq_true c2
    have hgc : g ≤ sureCap c := Nat.le_of_ble_eq_true c3
    clear h h1 h2
    cases hv with
    | sc h => simp [scalar] at h
    | @sl _ _ _ _ _ p c' s hs hln hsc he hp =>
      cases mx with
      | none =>
        cases hmx
        have hb := bounds_run (P := P) (w := w) true (len := len) (cap := c') (m := c') (optI hlo hl) (by
          rcases optI hhi hg with ⟨e, e2⟩ | hk
          · exact .inl ⟨e, rfl, e2⟩
          · exact .inr hk) (.inl ⟨rfl, rfl⟩) hlg (by omega)
        have h4 : k (.slice (some ⟨b, Nat.add o (Nat.mul l z), some z⟩) (Nat.sub g l) (Nat.sub c (Nat.mul 2 l))) = some r := h3
        refine ⟨_, _, h4, slice_run hu hz hb, ?_⟩
        have hq : ∀ q : Nat, (c' - l = 0 ∨ (q = s.sh + (o + l * z) ∧ q + (c' - l) * z ≤ s.size)) → VR ρ (.slice (some ⟨b, Nat.add o (Nat.mul l z), some z⟩) (Nat.sub g l) (Nat.sub c (Nat.mul 2 l))) (.slice (some ⟨s.blk, q, none⟩) (g - l) (c' - l)) := by
          intro q hq
          refine .sl hs ⟨(show g - l ≤ c' - l by omega), by omega⟩ (by rw [sureCap_sub]; omega) (fun hx => ?_) hq
          rw [exact_iff] at hx
          have hx' : (c - 2 * l) % 2 = 1 := hx
          have := he ((exact_iff c).2 (by omega))
          rw [sureCap_sub]; omega
        by_cases e : c' = l
        · rw [if_pos e]; exact hq p (.inl (by omega))
        · rw [if_neg e]
          refine hq (p + l * z) (.inr ?_)
          rcases hp with h0 | ⟨h5, h6⟩
          · omega
          · have : c' * z = l * z + (c' - l) * z := by rw [← Nat.add_mul]; congr 1; omega
            omega
      | some m =>
        have h4 : onNat m (fun m => cond (and (Nat.ble g m) (Nat.ble m (sureCap c))) (k (.slice (some ⟨b, Nat.add o (Nat.mul l z), some z⟩) (Nat.sub g l) (Nat.succ (Nat.mul 2 (Nat.sub m l))))) none) = some r := h3
        obtain ⟨ki, m, rfl, h5⟩ := onNat_some h4
        obtain ⟨hc, h6⟩ := cond_some h5
        simp only [Bool.and_eq_true] at hc
        have hgm : g ≤ m := Nat.le_of_ble_eq_true hc.1
        have hmc : m ≤ sureCap c := Nat.le_of_ble_eq_true hc.2
        have hmx' := hmx.nat
        have hb := bounds_run (P := P) (w := w) true (len := len) (cap := c') (m := m) (mx := mx') (optI hlo hl) (by
          rcases optI hhi hg with ⟨e, e2⟩ | hk
          · cases hhi with
            | no => simp at hm
            | one => cases e
          · exact .inr hk) (.inr ⟨ki, hmx', by omega⟩) hlg hgm
        refine ⟨_, _, h6, slice_run hu hz hb, ?_⟩
        have hq : ∀ q : Nat, (m - l = 0 ∨ (q = s.sh + (o + l * z) ∧ q + (m - l) * z ≤ s.size)) → VR ρ (.slice (some ⟨b, Nat.add o (Nat.mul l z), some z⟩) (Nat.sub g l) (Nat.succ (Nat.mul 2 (Nat.sub m l)))) (.slice (some ⟨s.blk, q, none⟩) (g - l) (m - l)) := by
          intro q hq
          have e1 : sureCap (Nat.succ (Nat.mul 2 (Nat.sub m l))) = m - l := by
            show (2 * (m - l) + 1) / 2 = m - l
            omega
          exact .sl hs ⟨(show g - l ≤ m - l by omega), by omega⟩ (by rw [e1]; exact Nat.le_refl _) (fun _ => e1.symm) hq
        by_cases e : m = l
        · rw [if_pos e]; exact hq p (.inl (by omega))
        · rw [if_neg e]
          refine hq (p + l * z) (.inr ?_)
          rcases hp with h0 | ⟨h5, h6⟩
          · omega
          · have h7 : m * z = l * z + (m - l) * z := by rw [← Nat.add_mul]; congr 1; omega
            have h8 : m * z ≤ c' * z := Nat.mul_le_mul_right _ (by omega)
            omega
  · cases h
end Go.Eng
/- The engine: maps that are looked up. -/
namespace Go.Eng
variable {P : Program} {w : World} {ρ : Rho} {H : Heap} {nx : Nat} {r : Ex × St}

theorem quiet_bind {α β : Type} (s : Sem α) (f : α → Sem β) : quiet P (s >>= f) = (quiet P s).bind fun a => quiet P (f a) := by
  induction s with
  | pure a => rfl
  | program k ih => exact ih P
  | _ => rfl

theorem quiet_pure {α : Type} (a : α) : quiet P (pure a) = some a := rfl

/-- what is found, over entries with other values -/
def Fit (es : List MapEntry) (i : Nat) (x y : Option (Nat × Value)) : Prop :=
  (x = none ∧ y = none) ∨ ∃ j v e, x = some (j, v) ∧ i ≤ j ∧ es[j - i]? = some e ∧ y = some (j, e.val)

theorem Fit.tail {e : MapEntry} {es : List MapEntry} {i : Nat} {x y : Option (Nat × Value)} (h : Fit es (i + 1) x y) : Fit (e :: es) i x y := by
  rcases h with h | ⟨j, v, e', h1, h2, h3, h4⟩
  · exact .inl h
  · refine .inr ⟨j, v, e', h1, by omega, ?_, h4⟩
    have : j - i = (j - (i + 1)) + 1 := by omega
    rw [this, List.getElem?_cons_succ]
    exact h3

theorem findNow_sound (d : TypeDesc) (k : Value) : ∀ (es1 es2 : List MapEntry) (i : Nat), es2.map (·.key) = es1.map (·.key) →
    (Instr.findNow d k es1 i = none → Instr.findNow d k es2 i = none) ∧ ∀ x, Instr.findNow d k es1 i = some x → ∃ y, Instr.findNow d k es2 i = some y ∧ Fit es2 i x y := by
  intro es1
  induction es1 with
  | nil =>
    intro es2 i h
    cases es2 with
    | nil => exact ⟨fun h => h, fun x hx => by simp [Instr.findNow] at hx; subst hx; exact ⟨none, rfl, .inl ⟨rfl, rfl⟩⟩⟩
    | cons => simp at h
  | cons e1 es1 ih =>
    intro es2 i h
    cases es2 with
    | nil => simp at h
    | cons e2 es2 =>
      simp only [List.map_cons, List.cons.injEq] at h
      obtain ⟨hk, ht⟩ := h
      obtain ⟨h1, h2⟩ := ih es2 (i + 1) ht
      unfold Instr.findNow
      rw [hk]
      cases hs : Instr.sameNow d k e1.key with
      | none => exact ⟨fun _ => rfl, fun x hx => by simp at hx⟩
      | some b =>
        cases b with
        | true =>
          refine ⟨fun hx => by simp at hx, fun x hx => ?_⟩
          simp at hx
          subst hx
          exact ⟨_, rfl, .inr ⟨i, _, e2, rfl, Nat.le_refl _, by simp, rfl⟩⟩
        | false =>
          refine ⟨fun hx => h1 hx, fun x hx => ?_⟩
          obtain ⟨y, hy, hf⟩ := h2 x hx
          exact ⟨y, hy, hf.tail⟩

theorem findAsking_sound (kt : TypeId) (k : Value) : ∀ (es1 es2 : List MapEntry) (i : Nat) (x : Option (Nat × Value)), es2.map (·.key) = es1.map (·.key) →
    quiet P (Instr.findAsking kt k es1 i) = some x → ∃ y, (Instr.findAsking kt k es2 i).run P w = .ok y w ∧ Fit es2 i x y := by
  intro es1
  induction es1 with
  | nil =>
    intro es2 i x h hq
    cases es2 with
    | nil =>
      simp [Instr.findAsking] at hq
      cases hq
      exact ⟨none, rfl, .inl ⟨rfl, rfl⟩⟩
    | cons => simp at h
  | cons e1 es1 ih =>
    intro es2 i x h hq
    cases es2 with
    | nil => simp at h
    | cons e2 es2 =>
      simp only [List.map_cons, List.cons.injEq] at h
      obtain ⟨hk, ht⟩ := h
      unfold Instr.findAsking at hq ⊢
      rw [quiet_bind] at hq
      rw [hk]
      cases hs : quiet P (Op.equal kt k e1.key) with
      | none => rw [hs] at hq; cases hq
      | some b =>
        rw [hs] at hq
        simp only [Sem.run_bind, quiet_run hs, Result.andThen_ok]
        cases b with
        | true =>
          have : x = some (i, e1.val) := by simpa [quiet_pure] using hq.symm
          subst this
          exact ⟨_, rfl, .inr ⟨i, _, e2, rfl, Nat.le_refl _, by simp, rfl⟩⟩
        | false =>
          obtain ⟨y, hy, hf⟩ := ih es2 (i + 1) x ht (by simpa using hq)
          exact ⟨y, by simpa using hy, hf.tail⟩

theorem findKey_sound (kt : TypeId) (k : Value) (es1 es2 : List MapEntry) (x : Option (Nat × Value)) (h : es2.map (·.key) = es1.map (·.key))
    (hq : quiet P (Instr.findKey kt k es1) = some x) : ∃ y, (Instr.findKey kt k es2).run P w = .ok y w ∧ Fit es2 0 x y := by
  unfold Instr.findKey at hq ⊢
  rw [quiet_bind] at hq
  cases hu : quiet P (underlying kt) with
  | none => rw [hu] at hq; cases hq
  | some d =>
    rw [hu] at hq
    simp only [Sem.run_bind, quiet_run hu, Result.andThen_ok]
    obtain ⟨h1, h2⟩ := findNow_sound d k es1 es2 0 h
    cases hf : Instr.findNow d k es1 0 with
    | some z =>
      obtain ⟨y, hy, hfit⟩ := h2 z hf
      have : x = z := by simpa [hf, quiet_pure] using hq.symm
      subst this
      exact ⟨y, by simp [hy, Sem.run_pure], hfit⟩
    | none =>
      have hq' : quiet P (Instr.findAsking kt k es1) = some x := by simpa [hf] using hq
      obtain ⟨y, hy, hfit⟩ := findAsking_sound (w := w) kt k es1 es2 0 x h hq'
      exact ⟨y, by simpa [h1 hf] using hy, hfit⟩

theorem marked_keys (es : List MapEntry) : ∀ i, (marked es i).map (·.key) = es.map (·.key) := by
  induction es with
  | nil => intro i; rfl
  | cons e es ih => intro i; simp [marked, ih]

theorem ERs.keys {es es' : List MapEntry} (h : ERs ρ es es') (hf : es.all (fun e => flat e.key) = true) : es'.map (·.key) = es.map (·.key) := by
  induction h with
  | nil => rfl
  | cons hk hv hb _ ih =>
    simp only [List.all_cons, Bool.and_eq_true] at hf
    simp [hk.flat_eq hf.1, ih hf.2]

theorem ERs.length {es es' : List MapEntry} (h : ERs ρ es es') : es'.length = es.length := by
  induction h with
  | nil => rfl
  | cons _ _ _ _ ih => simp [ih]

theorem ERs.get {es es' : List MapEntry} (h : ERs ρ es es') : ∀ {i : Nat} {e' : MapEntry}, es'[i]? = some e' → ∃ e, es[i]? = some e ∧ VR ρ e.key e'.key ∧ VR ρ e.val e'.val ∧ e'.born = e.born := by
  induction h with
  | nil => intro i e' he; simp at he
  | cons hk hv hb _ ih =>
    intro i e' he
    cases i with
    | zero => simp at he; subst he; exact ⟨_, rfl, hk, hv, hb⟩
    | succ i => simpa using ih (by simpa using he)

theorem entryAt_eq (es : List MapEntry) : ∀ i, entryAt es i = es[i]? := by
  induction es with
  | nil => intro i; rfl
  | cons e es ih =>
    intro i
    cases i with
    | zero => rfl
    | succ i => simpa [entryAt] using ih i

theorem keyAt_some {es : List MapEntry} : ∀ {i : Nat} {k : Value}, keyAt es i k = true → ∃ e, es[i]? = some e ∧ keyEq e.key k = true := by
  induction es with
  | nil => intro i k h; simp [keyAt] at h
  | cons e es ih =>
    intro i k h
    cases i with
    | zero => exact ⟨e, rfl, h⟩
    | succ i => simpa using ih h

theorem keyEq1_sound {a b : Value} (n : Nat) (h : keyEq1 a b = true) : a = b ∧ Instr.sameBits n a b = true := by
  unfold keyEq1 at h
  split at h
  · rename_i x y
    cases x <;> cases y <;> first | (cases h; done) | exact ⟨rfl, by unfold Instr.sameBits; rfl⟩
  · simp only [Bool.and_eq_true, decide_eq_true_eq] at h
    obtain ⟨rfl, rfl⟩ := h
    exact ⟨rfl, by unfold Instr.sameBits; simp⟩
  · simp only [decide_eq_true_eq] at h
    subst h
    refine ⟨rfl, ?_⟩
    unfold Instr.sameBits
    rename_i s
    show (s == s) = true
    first | exact beq_self_eq_true s | (show (s.data == s.data) = true; simp) | exact decide_eq_true rfl
  · cases h

theorem keyEqs_sound (n : Nat) : ∀ {a b : List Value}, keyEqs a b = true → a = b ∧ (a.zip b).all (fun x => Instr.sameBits n x.1 x.2) = true := by
  intro a
  induction a with
  | nil => intro b h; cases b with
    | nil => exact ⟨rfl, rfl⟩
    | cons => cases h
  | cons x a ih =>
    intro b h
    cases b with
    | nil => cases h
    | cons y b =>
      simp only [keyEqs, Bool.and_eq_true] at h
      obtain ⟨h1, h2⟩ := keyEq1_sound n h.1
      obtain ⟨h3, h4⟩ := ih h.2
      exact ⟨by rw [h1, h3], by simp only [List.zip_cons_cons, List.all_cons, h2, h4]; rfl⟩

theorem keyEq_sound' {a b : Value} (n : Nat) (h : keyEq a b = true) : a = b ∧ Instr.sameBits (n + 1) a b = true := by
  unfold keyEq at h
  split at h
  · rename_i x y
    obtain ⟨h1, h2⟩ := keyEqs_sound n h
    have e : x = y := Array.ext' h1
    refine ⟨by rw [e], ?_⟩
    unfold Instr.sameBits
    simp only [Bool.and_eq_true]
    exact ⟨by rw [e]; simp, h2⟩
  · exact keyEq1_sound (n + 1) h

theorem keyEq_sound {a b : Value} (h : keyEq a b = true) : a = b ∧ Instr.sameBits 10000 a b = true := keyEq_sound' 9999 h

theorem findAt_sound {emp : Bool} {kt : TypeId} {k : Value} {es es' : List MapEntry} {x : Option Nat} (h : findAt P emp kt k es = some x) (hr : ERs ρ es es') :
    flat k = true ∧ (Instr.checkKey emp 10000 kt k).run P w = .ok () w ∧ ((x = none ∧ (Instr.findKey kt k es').run P w = .ok none w) ∨
      ∃ i e e', x = some i ∧ es[i]? = some e ∧ es'[i]? = some e' ∧ VR ρ e.val e'.val ∧ e'.born = e.born ∧ e'.key = k ∧ e.key = k ∧ Instr.sameBits 10000 e'.key k = true ∧ (Instr.findKey kt k es').run P w = .ok (some (i, e'.val)) w) := by
  unfold findAt at h
  cases hf : (flat k && es.all (fun e => flat e.key)) with
  | false => rw [hf] at h; cases h
  | true =>
    rw [hf] at h
    simp only [Bool.and_eq_true] at hf
    cases hc : quiet P (Instr.checkKey emp 10000 kt k) with
    | none => simp [hc] at h
    | some u =>
      cases hq : quiet P (Instr.findKey kt k (marked es 0)) with
      | none => simp [hc, hq] at h
      | some q =>
        have hkeys : es'.map (·.key) = (marked es 0).map (·.key) := by rw [marked_keys, hr.keys hf.2]
        obtain ⟨y, hy, hfit⟩ := findKey_sound (w := w) kt k (marked es 0) es' q hkeys hq
        refine ⟨hf.1, quiet_run hc, ?_⟩
        rcases hfit with ⟨rfl, rfl⟩ | ⟨j, v, e', rfl, h2, h3, rfl⟩
        · simp [hc, hq] at h
          subst h
          exact .inl ⟨rfl, hy⟩
        · simp only [hc, hq, cond_true] at h
          cases hk : keyAt es j k with
          | false => simp [hk] at h
          | true =>
            simp [hk] at h
            subst h
            simp only [Nat.sub_zero] at h3
            obtain ⟨e, he, hke⟩ := keyAt_some hk
            obtain ⟨g1, g2⟩ := keyEq_sound hke
            obtain ⟨e2, he2, hr1, hr2, hr3⟩ := hr.get h3
            rw [he] at he2; cases he2
            have hke' : e'.key = e.key := hr1.flat_eq (by rw [g1]; exact hf.1)
            exact .inr ⟨j, e, e', rfl, he, h3, hr2, hr3, hke'.trans g1, g1, by rw [hke']; exact g2, hy⟩
end Go.Eng
/- The engine: every operation that reads at most. -/
namespace Go.Eng
variable {P : Program} {w : World} {ρ : Rho} {H : Heap} {nx : Nat} {r : Ex × St}

/-- of all its operands -/
def AOp.all {α : Type} (p : α → Prop) : AOp α → Prop
  | .mov v0 => p v0
  | .pick v0 v1 v2 => p v0 ∧ p v1 ∧ p v2
  | .nilck v0 => p v0
  | .ext v0 _ => p v0
  | .fld v0 _ _ => p v0
  | .fad v0 _ => p v0
  | .ixs v0 v1 _ => p v0 ∧ p v1
  | .ixa v0 v1 _ _ => p v0 ∧ p v1
  | .ix v0 v1 _ _ _ => p v0 ∧ p v1
  | .bin _ _ v2 v3 => p v2 ∧ p v3
  | .un _ v1 => p v1
  | .cvt _ _ v2 => p v2
  | .mnx _ v1 => (∀ x ∈ v1, p x)
  | .six _ v1 v2 => p v1 ∧ p v2
  | .ssl _ v1 v2 v3 => p v1 ∧ (∀ x ∈ v2, p x) ∧ (∀ x ∈ v3, p x)
  | .isnil _ _ v2 v3 => p v2 ∧ p v3
  | .bld _ v1 => (∀ x ∈ v1, p x.2.2)
  | .clo _ v1 v2 => (∀ x ∈ v1, p x) ∧ (∀ x ∈ v2, p x)
  | .ifc _ v1 => p v1
  | .tas v0 _ _ _ => p v0
  | .lod v0 _ => p v0
  | .len v0 => p v0
  | .mln v0 => p v0
  | .sln v0 => p v0
  | .cap v0 => p v0
  | .slc v0 v1 v2 v3 _ => p v0 ∧ (∀ x ∈ v1, p x) ∧ (∀ x ∈ v2, p x) ∧ (∀ x ∈ v3, p x)
  | .sla v0 v1 v2 _ _ => p v0 ∧ (∀ x ∈ v1, p x) ∧ (∀ x ∈ v2, p x)
  | .lku v0 v1 _ _ _ => p v0 ∧ p v1
  | .box v0 => p v0
  | .alc _ => True
  | .mks _ _ _ v3 v4 => p v3 ∧ p v4
  | .bsl _ _ _ v3 => (∀ x ∈ v3, p x.2.2)
  | .mkm v0 => (∀ x ∈ v0, p x)
  | .sto v0 v1 _ => p v0 ∧ p v1
  | .app _ _ _ v3 v4 _ => p v3 ∧ p v4
  | .cpy _ v1 v2 => p v1 ∧ p v2
  | .mup v0 v1 v2 _ => p v0 ∧ p v1 ∧ p v2
  | .men v0 v1 _ _ => p v0 ∧ p v1
  | .est v0 v1 v2 => p v0 ∧ p v1 ∧ p v2
  | .ins _ _ v2 v3 v4 => p v2 ∧ p v3 ∧ p v4
  | .call v0 v1 => p v0 ∧ (∀ x ∈ v1, p x)
  | .inv v0 _ v2 => p v0 ∧ (∀ x ∈ v2, p x)
  | .dfr v0 v1 => p v0 ∧ (∀ x ∈ v1, p x)
  | .pan v0 => p v0
  | .rcv  => True

theorem travL_sound {α β : Type} (d : β) {c : α → Option β} : ∀ {l : List α} {m : List β}, travL c l = some m → m = l.map (fun x => (c x).getD d) ∧ ∀ x ∈ l, ∃ y, c x = some y := by
  intro l
  induction l with
  | nil => intro m h; cases h; exact ⟨rfl, fun x hx => by simp at hx⟩
  | cons x l ih =>
    intro m h
    unfold travL at h
    cases hx : c x with
    | none => simp [hx] at h
    | some a =>
      cases hl : travL c l with
      | none => simp [hx, hl] at h
      | some as =>
        simp [hx, hl] at h
        subst h
        obtain ⟨h1, h2⟩ := ih hl
        refine ⟨by simp [hx, ← h1], fun y hy => ?_⟩
        rcases List.mem_cons.1 hy with rfl | hy
        · exact ⟨a, hx⟩
        · exact h2 y hy

theorem travO_sound {α β : Type} (d : β) {c : α → Option β} {l : Option α} {m : Option β} (h : travO c l = some m) : m = l.map (fun x => (c x).getD d) ∧ ∀ x ∈ l, ∃ y, c x = some y := by
  cases l with
  | none => cases h; exact ⟨rfl, fun x hx => by simp at hx⟩
  | some x =>
    unfold travO at h
    cases hx : c x with
    | none => simp [hx] at h
    | some a =>
      simp [hx] at h
      subst h
      exact ⟨by simp [hx], fun y hy => by simp at hy; subst hy; exact ⟨a, hx⟩⟩

theorem travP_sound {α β : Type} (d : β) {c : α → Option β} : ∀ {l : List (Nat × Nat × α)} {m : List (Nat × Nat × β)}, travP c l = some m → m = l.map (fun x => (x.1, x.2.1, (c x.2.2).getD d)) ∧ ∀ x ∈ l, ∃ y, c x.2.2 = some y := by
  intro l
  induction l with
  | nil => intro m h; cases h; exact ⟨rfl, fun x hx => by simp at hx⟩
  | cons x l ih =>
    intro m h
    obtain ⟨i, j, x⟩ := x
    unfold travP at h
    cases hx : c x with
    | none => simp [hx] at h
    | some a =>
      cases hl : travP c l with
      | none => simp [hx, hl] at h
      | some as =>
        simp [hx, hl] at h
        subst h
        obtain ⟨h1, h2⟩ := ih hl
        refine ⟨by simp [hx, ← h1], fun y hy => ?_⟩
        rcases List.mem_cons.1 hy with rfl | hy
        · exact ⟨a, hx⟩
        · exact h2 y hy

theorem trav_sound {α β : Type} (d : β) {c : α → Option β} {a : AOp α} {b : AOp β} (h : a.trav c = some b) : b = a.map (fun x => (c x).getD d) ∧ a.all (fun x => ∃ y, c x = some y) := by
  cases a <;> simp only [AOp.trav] at h <;> (try split at h) <;> first
    | (cases h; done)
    | (cases h
       simp only [AOp.map, AOp.all]
       try simp_all only [Option.getD_some, Option.some.injEq, exists_eq', and_self, and_true, true_and]
       first
       | done
       | (rename_i h1 h2 h3; exact ⟨by rw [← (travO_sound d h1).1, ← (travO_sound d h2).1, ← (travO_sound d h3).1], (travO_sound d h1).2, (travO_sound d h2).2, (travO_sound d h3).2⟩)
       | (rename_i h1 h2; exact ⟨by rw [← (travO_sound d h1).1, ← (travO_sound d h2).1], (travO_sound d h1).2, (travO_sound d h2).2⟩)
       | (rename_i h1 h2; exact ⟨by rw [← (travL_sound d h1).1, ← (travL_sound d h2).1], (travL_sound d h1).2, (travL_sound d h2).2⟩)
       | (rename_i h1; exact ⟨by rw [← (travL_sound d h1).1], (travL_sound d h1).2⟩)
       | (rename_i h1; exact ⟨by rw [← (travP_sound d h1).1], (travP_sound d h1).2⟩)
       | (rename_i h1; exact ⟨by rw [← (travO_sound d h1).1], (travO_sound d h1).2⟩))

theorem all_mono {α : Type} {p q : α → Prop} (hpq : ∀ x, p x → q x) {a : AOp α} (h : a.all p) : a.all q := by
  cases a <;> simp only [AOp.all] at h ⊢ <;> first
    | trivial
    | exact hpq _ h
    | exact ⟨hpq _ h.1, hpq _ h.2⟩
    | exact ⟨hpq _ h.1, hpq _ h.2.1, hpq _ h.2.2⟩
    | exact fun x hx => hpq _ (h x hx)
    | exact ⟨hpq _ h.1, fun x hx => hpq _ (h.2 x hx)⟩
    | exact ⟨fun x hx => hpq _ (h.1 x hx), fun x hx => hpq _ (h.2 x hx)⟩
    | exact ⟨hpq _ h.1, fun x hx => hpq _ (h.2.1 x hx), fun x hx => hpq _ (h.2.2 x hx)⟩
    | exact ⟨hpq _ h.1, fun x hx => hpq _ (h.2.1 x hx), fun x hx => hpq _ (h.2.2.1 x hx), fun x hx => hpq _ (h.2.2.2 x hx)⟩

/-! ### maps -/
theorem getObj_run {hp : Array Obj} {b : Nat} {es : Array MapEntry} {c : Nat} (w : World) (hw : w.heap = hp) (h : hp[b]? = some (.map es c)) : (getObj b).run P w = .ok (.map es c) w := by
  subst hw
  simp [getObj, Sem.run, h]

theorem mln_sound {t kt e ty : TypeId} {v u : Value} {k : KV} (hd : P.underlying t = some (.map kt e)) (hH : HR ρ H nx w.heap) (hv : VR ρ v u) (h : mlnV H v k = some r) :
    ∃ x y, k x = some r ∧ (Builtin.len_ #[t] ty #[u]).run P w = .ok y w ∧ VR ρ x y := by
  unfold mlnV at h
  split at h
  · cases hv with
    | sc h => simp [scalar] at h
    | mnil => exact ⟨_, _, h, by simp [Builtin.len_, run_underlying hd, goInt, Sem.run_pure], .sc rfl⟩
  · obtain ⟨es, c, hb, h1⟩ := onMapB_some h
    cases hv with
    | sc h => simp [scalar] at h
    | @map _ s hs =>
      obtain ⟨s', hs', es', he, hr⟩ := hH.blk _ _ hb
      rw [hs] at hs'; cases hs'
      refine ⟨_, _, h1, ?_, .sc rfl⟩
      have hl : es'.size = es.length := by simpa using hr.length
      simp [Builtin.len_, run_underlying hd, getObj_run w rfl he, hl, goInt, Sem.run_pure]
  · cases h

theorem okV_pair {ok : Bool} {v u : Value} {b : Bool} (h : VR ρ v u) : VR ρ (okV ok v b) (if ok = true then .tuple #[u, .bool b] else u) := by
  cases ok with
  | true => exact .tuple (.cons h (.cons (.sc rfl) .nil))
  | false => exact h

theorem lku_sound {t kt e : TypeId} {z : Value} {ok : Bool} {v u kv ku : Value} {k : KV} (hd : P.underlying t = some (.map kt e)) (hz : zeroVal P e = some z) (hH : HR ρ H nx w.heap) (hv : VR ρ v u) (hk : VR ρ kv ku)
    (h : lkuV P kt z ok H kv k v = some r) : ∃ x y, k x = some r ∧ (Instr.lookup t u ku ok).run P w = .ok y w ∧ VR ρ x y := by
  obtain ⟨hz1, hz2⟩ := run_zero (w := w) hz
  unfold lkuV at h
  split at h
  · obtain ⟨hf, h1⟩ := cond_some h
    obtain ⟨_, hq, h2⟩ := bd_eq h1
    have := hk.flat_eq hf
    subst this
    cases hv with
    | sc h => simp [scalar] at h
    | mnil =>
      refine ⟨_, _, h2, ?_, okV_pair (.of_const hz2)⟩
      have hck : (Instr.checkKey true 10000 kt ku).run P w = .ok () w := quiet_run hq
      obtain ⟨y, hy, hfit⟩ : ∃ y, (Instr.findKey kt ku []).run P w = .ok y w ∧ y = none := by
        refine ⟨none, ?_, rfl⟩
        unfold Instr.findKey
        cases hu : P.underlying kt with
        | none =>
          exfalso
          have hq' : quiet P (Instr.checkKey true (9999 + 1) kt ku) = some () := hq
          unfold Instr.checkKey at hq'
          rw [quiet_bind] at hq'
          have : quiet P (underlying kt) = none := by
            unfold underlying
            simp [quiet_bind, quiet, program, hu]
            rfl
          rw [this] at hq'
          cases hq'
        | some d => simp [run_underlying hu, Instr.findNow, Sem.run_pure]
      subst hfit
      simp only [Instr.lookup, Sem.run_bind, run_underlying hd, Result.andThen_ok, Sem.run_pure, hck, hy, hz1, List.isEmpty_toArray, Array.isEmpty_empty]
      have hck' : (Instr.checkKey ([] : List MapEntry).isEmpty 10000 kt ku).run P w = .ok () w := hck
      simp only [hck', hy, hz1, Result.andThen_ok, Sem.run_bind, Sem.run_pure]
  · obtain ⟨es, c, hb, h1⟩ := onMapB_some h
    obtain ⟨x, hx, h2⟩ := bd_eq h1
    cases hv with
    | sc h => simp [scalar] at h
    | @map _ s hs =>
      obtain ⟨s', hs', es', he, hr⟩ := hH.blk _ _ hb
      rw [hs] at hs'; cases hs'
      obtain ⟨hf, hck, hcase⟩ := findAt_sound (w := w) hx hr
      have := hk.flat_eq hf
      subst this
      have hemp : es'.isEmpty = es.isEmpty := by
        have hl : es'.size = es.length := by simpa using hr.length
        cases es with
        | nil => simp [Array.isEmpty, hl]
        | cons => simp [Array.isEmpty, hl]
      rcases hcase with ⟨rfl, hfk⟩ | ⟨i, e1, e2, rfl, g1, g2, g3, g4, g5, g6, g7, hfk⟩
      · refine ⟨_, _, h2, ?_, okV_pair (.of_const hz2)⟩
        simp only [Instr.lookup, Sem.run_bind, run_underlying hd, Result.andThen_ok, getObj_run w rfl he, Sem.run_pure, hemp, hck, hfk, hz1]
      · have h3 : bd (entryAt es i) (fun e => k (okV ok e.val true)) = some r := h2
        rw [entryAt_eq, g1] at h3
        refine ⟨_, _, h3, ?_, okV_pair g3⟩
        simp only [Instr.lookup, Sem.run_bind, run_underlying hd, Result.andThen_ok, getObj_run w rfl he, Sem.run_pure, hemp, hck, hfk]
  · cases h
end Go.Eng
/- The engine: every operation that reads at most. -/
namespace Go.Eng
variable {P : Program} {w : World} {ρ : Rho} {H : Heap} {nx : Nat} {r : Ex × St} {T : Tr Value} {L : List Value}

theorem evsK_cst : ∀ (vs : List Value) (k : List Value → R0), evsK T L (vs.map Od.cst) k = k vs := by
  intro vs
  induction vs with
  | nil => intro k; rfl
  | cons v vs ih =>
    intro k
    show evsK T L (vs.map Od.cst) (fun vs => k (v :: vs)) = k (v :: vs)
    rw [ih]

theorem partsK_cst : ∀ (vs : List (Nat × Nat × Value)) (k : List (Nat × Nat × Value) → R0), partsK T L (vs.map fun x => (x.1, x.2.1, Od.cst x.2.2)) k = k vs := by
  intro vs
  induction vs with
  | nil => intro k; rfl
  | cons v vs ih =>
    intro k
    obtain ⟨a, b, v⟩ := v
    show partsK T L (vs.map fun x => (x.1, x.2.1, Od.cst x.2.2)) (fun vs => k ((a, b, v) :: vs)) = k ((a, b, v) :: vs)
    rw [ih]

theorem VRs.map {α : Type} {f g : α → Value} : ∀ {l : List α}, (∀ x ∈ l, VR ρ (f x) (g x)) → VRs ρ (l.map f) (l.map g) := by
  intro l
  induction l with
  | nil => intro _; exact .nil
  | cons x l ih => intro h; exact .cons (h x (by simp)) (ih fun y hy => h y (by simp [hy]))

theorem OR.map {α : Type} {f g : α → Value} {o : Option α} (h : ∀ x ∈ o, VR ρ (f x) (g x)) : OR ρ (o.map f) (o.map g) := by
  cases o with
  | none => exact .no
  | some x => exact .one (h x rfl)


/-- what an operation gives: the engine goes on, and the model did the same -/
def Good (P : Program) (w : World) (ρ : Rho) (H : Heap) (nx : Nat) (r : Ex × St) (k : KA) (s : Sem Next) : Prop :=
  ∃ v H' nx' u w' ρ', k v H' nx' = some r ∧ (s.run P w = .ok (.value u) w' ∨ (s.run P w = .ok .skip w' ∧ u = undef)) ∧ VR ρ' v u ∧ HR ρ' H' nx' w'.heap ∧ Stp ρ H w ρ' H' w' ∧ nx ≤ nx' ∧ ∀ b, b < nx → ρ' b = ρ b

theorem Good.look {k : KA} {s : Sem Value} {s' : Sem Next} (hs : s' = (do pure (.value (← s)))) (hH : HR ρ H nx w.heap) (h : ∃ x y, k x H nx = some r ∧ s.run P w = .ok y w ∧ VR ρ x y) : Good P w ρ H nx r k s' := by
  obtain ⟨x, y, h1, h2, h3⟩ := h
  subst hs
  exact ⟨x, H, nx, y, w, ρ, h1, .inl (by simp only [Sem.run_bind, h2, Result.andThen_ok, Sem.run_pure]), h3, hH, .refl ρ H w, Nat.le_refl _, fun _ _ => rfl⟩

variable {ρa ρc : Operand → Value} {o : Oper} {k : KA} {ins : List Nat}
abbrev Av (ρa : Operand → Value) : Operand → Od := fun x => Od.cst (ρa x)

theorem placesS_get {fs : List Field} : ∀ {xs : List (Nat × Operand)} {pl : List (Nat × Nat × Operand)}, placesS P fs xs = some pl → pl.length = xs.length ∧ ∀ (i : Nat) (p : Nat × Nat × Operand) (x : Nat × Operand),
    pl[i]? = some p → xs[i]? = some x → ∃ f s, fs[x.1]? = some f ∧ sizeAt P f.type = some s ∧ p = (f.offset, s, x.2) := by
  intro xs
  induction xs with
  | nil => intro pl h; cases h; exact ⟨rfl, fun i p x hp => by simp at hp⟩
  | cons x xs ih =>
    intro pl h
    obtain ⟨j, x⟩ := x
    unfold placesS at h
    cases hf : fs[j]? with
    | none => simp [hf] at h
    | some f =>
      cases hr : placesS P fs xs with
      | none => simp [hf, hr] at h
      | some rs =>
        cases hs : sizeAt P f.type with
        | none => simp [hf, hr, hs] at h
        | some s =>
          simp [hf, hr, hs] at h
          subst h
          obtain ⟨h1, h2⟩ := ih hr
          refine ⟨by simp [h1], fun i p y hp hy => ?_⟩
          cases i with
          | zero => simp at hp hy; subst hp; subst hy; exact ⟨f, s, hf, hs, rfl⟩
          | succ i => exact h2 i p y (by simpa using hp) (by simpa using hy)

theorem placesA_get {z : Nat} : ∀ (xs : List (Nat × Operand)), (placesA z xs).length = xs.length ∧ ∀ (i : Nat) (p : Nat × Nat × Operand) (x : Nat × Operand),
    (placesA z xs)[i]? = some p → xs[i]? = some x → p = (x.1 * z, z, x.2) := by
  intro xs
  induction xs with
  | nil => exact ⟨rfl, fun i p x hp => by simp [placesA] at hp⟩
  | cons x xs ih =>
    obtain ⟨j, x⟩ := x
    obtain ⟨h1, h2⟩ := ih
    refine ⟨by simp [placesA, h1], fun i p y hp hy => ?_⟩
    cases i with
    | zero => simp [placesA] at hp hy; subst hp; subst hy; rfl
    | succ i => exact h2 i p y (by simpa [placesA] using hp) (by simpa using hy)

theorem build_sound {t : TypeId} {xs : Array (Nat × Operand)} {a : AOp Operand} (ho : o.op = .build t xs) (hc : compileOp P ins o = some a) (ha : a.all fun x => VR ρ (ρa x) (ρc x)) (hH : HR ρ H nx w.heap)
    (h : actT (a.map (Av ρa)) P T L H nx k = some r) : Good P w ρ H nx r k (execOp ρc o) := by
  have he : execOp ρc o = (do pure (.value (← Instr.build t (xs.map fun (i, x) => (i, ρc x))))) := by simp only [execOp, ho]
  refine .look he hH ?_
  have hq : (xs.map fun (i, x) => (i, ρc x)) = (xs.toList.map fun x => (x.1, ρc x.2)).toArray := by
    apply Array.ext'; simp
  rw [hq]
  simp only [compileOp, ho] at hc
  split at hc
  · rename_i fs zero hu hz
    cases hall : fs.toList.all (fun f => (sizeAt P f.type).isSome) with
    | false => rw [hall] at hc; cases hc
    | true =>
      rw [hall] at hc
      cases hp : placesS P fs.toList xs.toList with
      | none => simp [hp] at hc
      | some pl =>
        simp [hp] at hc
        subst hc
        obtain ⟨h1, h2⟩ := placesS_get hp
        have h' : partsK T L ((pl.map fun x => (x.1, x.2.1, ρa x.2.2)).map fun x => (x.1, x.2.1, Od.cst x.2.2)) (fun ps => bd (fillIn zero ps) fun cs => k (.agg cs.toArray) H nx) = some r := by
          rw [List.map_map]; exact h
        rw [partsK_cst] at h'
        obtain ⟨cs, hf, hk⟩ := bd_eq h'
        obtain ⟨y, hy, hv⟩ := bld_sound_struct (w := w) (ρ := ρ) hu hz hp (ps := pl.map fun x => (x.1, x.2.1, ρa x.2.2)) (qs := xs.toList.map fun x => (x.1, ρc x.2)) (by simp [h1]) (fun i p q hpi hqi => by
          simp only [List.getElem?_map, Option.map_eq_some_iff] at hpi hqi
          obtain ⟨p', hp', rfl⟩ := hpi
          obtain ⟨q', hq', rfl⟩ := hqi
          obtain ⟨f, s, g1, g2, rfl⟩ := h2 i p' q' hp' hq'
          exact ⟨f, s, g1, g2, rfl, rfl, ha _ (List.mem_of_getElem? hp')⟩) (fun i f hfi => by
            have := List.all_eq_true.1 hall f (List.mem_of_getElem? hfi)
            exact Option.isSome_iff_exists.1 this) hf
        exact ⟨_, y, hk, hy, hv⟩
  · rename_i n e zero hu hz
    cases hs : sizeAt P e with
    | none => simp [hs] at hc
    | some z =>
      simp [hs] at hc
      subst hc
      obtain ⟨h1, h2⟩ := placesA_get (z := z) xs.toList
      have h' : partsK T L (((placesA z xs.toList).map fun x => (x.1, x.2.1, ρa x.2.2)).map fun x => (x.1, x.2.1, Od.cst x.2.2)) (fun ps => bd (fillIn zero ps) fun cs => k (.agg cs.toArray) H nx) = some r := by
        rw [List.map_map]; exact h
      rw [partsK_cst] at h'
      obtain ⟨cs, hf, hk⟩ := bd_eq h'
      obtain ⟨y, hy, hv⟩ := bld_sound_array (w := w) (ρ := ρ) hu hz hs (ps := (placesA z xs.toList).map fun x => (x.1, x.2.1, ρa x.2.2)) (qs := xs.toList.map fun x => (x.1, ρc x.2)) (by simp [h1]) (fun i p q hpi hqi => by
        simp only [List.getElem?_map, Option.map_eq_some_iff] at hpi hqi
        obtain ⟨p', hp', rfl⟩ := hpi
        obtain ⟨q', hq', rfl⟩ := hqi
        have := h2 i p' q' hp' hq'
        subst this
        exact ⟨rfl, rfl, ha _ (List.mem_of_getElem? hp')⟩) hf
      exact ⟨_, y, hk, hy, hv⟩
  · cases hc
end Go.Eng
/- The engine: every operation that reads at most. -/
namespace Go.Eng
variable {P : Program} {w : World} {ρ : Rho} {H : Heap} {nx : Nat} {r : Ex × St} {T : Tr Value} {L : List Value} {ρa ρc : Operand → Value} {o : Oper} {k : KA} {ins : List Nat}

theorem Good.same {s : Sem Next} {v u : Value} (hH : HR ρ H nx w.heap) (hv : VR ρ v u) (hk : k v H nx = some r) (hs : s.run P w = .ok (.value u) w) : Good P w ρ H nx r k s :=
  ⟨v, H, nx, u, w, ρ, hk, .inl hs, hv, hH, .refl ρ H w, Nat.le_refl _, fun _ _ => rfl⟩

theorem move_sound {x : Operand} {a : AOp Operand} (ho : o.op = .move x ∨ o.op = .assign x) (hc : compileOp P ins o = some a) (ha : a.all fun x => VR ρ (ρa x) (ρc x)) (hH : HR ρ H nx w.heap)
    (h : actT (a.map (Av ρa)) P T L H nx k = some r) : Good P w ρ H nx r k (execOp ρc o) := by
  have he : execOp ρc o = pure (.value (ρc x)) := by rcases ho with ho | ho <;> simp only [execOp, ho]
  have hc' : a = .mov x := by rcases ho with ho | ho <;> (simp only [compileOp, ho] at hc; cases hc; rfl)
  subst hc'
  rw [he]
  exact .same hH ha h rfl

theorem pick_sound {c x y : Operand} {a : AOp Operand} (ho : o.op = .pick c x y) (hc : compileOp P ins o = some a) (ha : a.all fun x => VR ρ (ρa x) (ρc x)) (hH : HR ρ H nx w.heap)
    (h : actT (a.map (Av ρa)) P T L H nx k = some r) : Good P w ρ H nx r k (execOp ρc o) := by
  have he : execOp ρc o = (do pure (.value (if ← asBool (ρc c) then ρc x else ρc y))) := by simp only [execOp, ho]
  simp only [compileOp, ho] at hc
  cases hc
  obtain ⟨h1, h2, h3⟩ := ha
  have h' : onBool (ρa c) (k (ρa x) H nx) (k (ρa y) H nx) = some r := h
  rw [he]
  rcases onBool_some h' with ⟨e, hk⟩ | ⟨e, hk⟩
  · rw [e] at h1
    refine .same hH h2 hk ?_
    rw [h1.bool_inv]
    rfl
  · rw [e] at h1
    refine .same hH h3 hk ?_
    rw [h1.bool_inv]
    rfl

theorem load_sound' {t : TypeId} {x : Operand} {a : AOp Operand} (ho : o.op = .load t x) (hc : compileOp P ins o = some a) (ha : a.all fun x => VR ρ (ρa x) (ρc x)) (hH : HR ρ H nx w.heap)
    (h : actT (a.map (Av ρa)) P T L H nx k = some r) : Good P w ρ H nx r k (execOp ρc o) := by
  have he : execOp ρc o = (do pure (.value (← Instr.loadAt t (ρc x)))) := by simp only [execOp, ho]
  simp only [compileOp, ho, Option.map_eq_some_iff] at hc
  obtain ⟨g, hg, rfl⟩ := hc
  exact .look he hH (lod_sound hg hH ha h)

theorem nilCheck_sound {x : Operand} {a : AOp Operand} (ho : o.op = .nilCheck x) (hc : compileOp P ins o = some a) (ha : a.all fun x => VR ρ (ρa x) (ρc x)) (hH : HR ρ H nx w.heap)
    (h : actT (a.map (Av ρa)) P T L H nx k = some r) : Good P w ρ H nx r k (execOp ρc o) := by
  simp only [compileOp, ho] at hc
  cases hc
  obtain ⟨v, u, h1, h2, h3⟩ := nilck_sound (P := P) (w := w) ha (show nilckV (ρa x) (fun v => k v H nx) = some r from h)
  refine .same hH h3 h1 ?_
  simp only [execOp, ho]
  exact h2

theorem binOp_sound {op : BinOp} {t : TypeId} {x y : Operand} {b : Bool} {a : AOp Operand} (ho : ∃ q, o.op = .binOp op t x y q) (hc : compileOp P ins o = some a) (ha : a.all fun x => VR ρ (ρa x) (ρc x)) (hH : HR ρ H nx w.heap)
    (h : actT (a.map (Av ρa)) P T L H nx k = some r) : Good P w ρ H nx r k (execOp ρc o) := by
  obtain ⟨q, ho⟩ := ho
  have he : execOp ρc o = (do pure (.value (← (do eqGuard op t x y (ρc x) (ρc y); binOp op t (ρc x) (ρc y) : Sem Value)))) := by simp only [execOp, ho]
  simp only [compileOp, ho] at hc
  have bin : a = .bin op t x y → Good P w ρ H nx r k (execOp ρc o) := by
    intro e
    subst e
    exact .look he hH (bin_sound ha.1 ha.2 h)
  have isn : ∀ (d : TypeDesc) (kd : Nat), (op = .eql ∨ op = .neq) → P.underlying t = some d → kdFits kd d = true → (kd = 4 → (isConstOp x || isConstOp y) = true) → a = .isnil (isNeq op) kd x y → Good P w ρ H nx r k (execOp ρc o) := by
    intro d kd h1 h2 h3 h4 e
    subst e
    exact .look he hH (isnil_sound h1 h2 h3 h4 ha.1 ha.2 h)
  have eqs : (op = .eql ∨ op = .neq) → Good P w ρ H nx r k (execOp ρc o) := by
    intro hop
    have hc' : (match P.underlying t with
      | some (.pointer _) => some (.isnil (isNeq op) 0 x y)
      | some (.slice _) => some (.isnil (isNeq op) 1 x y)
      | some (.map _ _) => some (.isnil (isNeq op) 2 x y)
      | some (.func _ _ _) => some (.isnil (isNeq op) 3 x y)
      | some (.interface _) => bif isConstOp x || isConstOp y then some (.isnil (isNeq op) 4 x y) else none
      | some _ => some (.bin op t x y)
      | none => none : Option (AOp Operand)) = some a := by
      rcases hop with rfl | rfl <;> exact hc
    split at hc'
    · rename_i hu; cases hc'; exact isn _ 0 hop hu rfl (fun h => by cases h) rfl
    · rename_i hu; cases hc'; exact isn _ 1 hop hu rfl (fun h => by cases h) rfl
    · rename_i hu; cases hc'; exact isn _ 2 hop hu rfl (fun h => by cases h) rfl
    · rename_i hu; cases hc'; exact isn _ 3 hop hu rfl (fun h => by cases h) rfl
    · rename_i hu
      cases hb : (isConstOp x || isConstOp y) with
      | false => rw [hb] at hc'; cases hc'
      | true => rw [hb] at hc'; cases hc'; exact isn _ 4 hop hu rfl (fun _ => hb) rfl
    · cases hc'; exact bin rfl
    · cases hc'
  by_cases hop : op = .eql ∨ op = .neq
  · exact eqs hop
  · refine bin ?_
    unfold compileBin at hc
    split at hc
    · exact absurd (.inl rfl) hop
    · exact absurd (.inr rfl) hop
    · cases hc; rfl

theorem unOp_sound {op : UnOp} {t : TypeId} {x : Operand} {a : AOp Operand} (ho : o.op = .unOp op t x) (hc : compileOp P ins o = some a) (ha : a.all fun x => VR ρ (ρa x) (ρc x)) (hH : HR ρ H nx w.heap)
    (h : actT (a.map (Av ρa)) P T L H nx k = some r) : Good P w ρ H nx r k (execOp ρc o) := by
  have he : execOp ρc o = (do pure (.value (← Op.unary op (ρc x)))) := by simp only [execOp, ho]
  simp only [compileOp, ho] at hc
  cases hc
  exact .look he hH (un_sound ha h)

theorem convert_sound {s d : TypeId} {x : Operand} {a : AOp Operand} (ho : o.op = .convert s d x) (hc : compileOp P ins o = some a) (ha : a.all fun x => VR ρ (ρa x) (ρc x)) (hH : HR ρ H nx w.heap)
    (h : actT (a.map (Av ρa)) P T L H nx k = some r) : Good P w ρ H nx r k (execOp ρc o) := by
  have he : execOp ρc o = (do pure (.value (← convert s d (ρc x)))) := by simp only [execOp, ho]
  simp only [compileOp, ho] at hc
  cases hb : (scalarType P s && scalarType P d) with
  | false => rw [hb] at hc; cases hc
  | true =>
    rw [hb] at hc
    cases hc
    exact .look he hH (cvt_sound ha h)

theorem makeInterface_sound {t : TypeId} {x : Operand} {a : AOp Operand} (ho : o.op = .makeInterface t x) (hc : compileOp P ins o = some a) (ha : a.all fun x => VR ρ (ρa x) (ρc x)) (hH : HR ρ H nx w.heap)
    (h : actT (a.map (Av ρa)) P T L H nx k = some r) : Good P w ρ H nx r k (execOp ρc o) := by
  have he : execOp ρc o = (do pure (.value (← Instr.makeInterface t (ρc x)))) := by simp only [execOp, ho]
  simp only [compileOp, ho] at hc
  split at hc
  · cases hc
  · rename_i d hn hu
    cases hc
    exact .look he hH (ifc_sound hu (fun ms e => hn ms (by rw [e])) ha h)
  · cases hc

theorem makeFunc_sound {fn : Fn} {xs ys : Array Operand} {a : AOp Operand} (ho : o.op = .makeFunc fn xs ys) (hc : compileOp P ins o = some a) (ha : a.all fun x => VR ρ (ρa x) (ρc x)) (hH : HR ρ H nx w.heap)
    (h : actT (a.map (Av ρa)) P T L H nx k = some r) : Good P w ρ H nx r k (execOp ρc o) := by
  have he : execOp ρc o = (do pure (.value (← Instr.makeFunc fn (xs.map ρc) (ys.map ρc)))) := by simp only [execOp, ho]
  simp only [compileOp, ho] at hc
  cases fn with
  | func f =>
    cases hc
    have h' : evsK T L ((xs.toList.map ρa).map Od.cst) (fun a => evsK T L ((ys.toList.map ρa).map Od.cst) fun b => k (.func (.func f) a.toArray b.toArray) H nx) = some r := by
      rw [List.map_map, List.map_map]; exact h
    rw [evsK_cst, evsK_cst] at h'
    refine .look he hH ⟨_, .func (.func f) (xs.map ρc) (ys.map ρc), h', rfl, ?_⟩
    have e1 : xs.map ρc = ⟨xs.toList.map ρc⟩ := by apply Array.ext'; simp
    have e2 : ys.map ρc = ⟨ys.toList.map ρc⟩ := by apply Array.ext'; simp
    rw [e1, e2]
    exact .func (.map fun x hx => ha.1 x hx) (.map fun x hx => ha.2 x hx)
  | _ => cases hc

theorem slice_sound {t : TypeId} {x : Operand} {lo hi mx : Option Operand} {a : AOp Operand} (ho : o.op = .slice t x lo hi mx) (hc : compileOp P ins o = some a) (ha : a.all fun x => VR ρ (ρa x) (ρc x)) (hH : HR ρ H nx w.heap)
    (h : actT (a.map (Av ρa)) P T L H nx k = some r) : Good P w ρ H nx r k (execOp ρc o) := by
  have he : execOp ρc o = (do pure (.value (← Instr.sliceAt t (ρc x) (lo.map ρc) (hi.map ρc) (mx.map ρc)))) := by simp only [execOp, ho]
  simp only [compileOp, ho] at hc
  split at hc
  · rename_i e hu
    cases hm : (mx.isNone || hi.isSome) with
    | false => rw [hm] at hc; cases hc
    | true =>
      rw [hm] at hc
      simp only [cond_true, Option.map_eq_some_iff] at hc
      obtain ⟨z, hz, rfl⟩ := hc
      obtain ⟨h1, h2, h3, h4⟩ := ha
      refine .look he hH (slc_sound (T := T) (L := L) (lo := lo.map ρa) (hi := hi.map ρa) (mx := mx.map ρa) hu hz (by simpa using hm) h1 (.map h2) (.map h3) (.map h4) ?_)
      simp only [Option.map_map]
      exact h
  · rename_i hu
    cases mx with
    | some _ => cases hc
    | none =>
      cases hc
      obtain ⟨h1, h2, h3⟩ := ha
      have hss : ∀ (q : Option Operand) (g : Option Value → R0), sslK T L (q.map (Av ρa)) g = g (q.map ρa) := by
        intro q g; cases q <;> rfl
      have h' : sslK T L (lo.map (Av ρa)) (fun l => sslK T L (hi.map (Av ρa)) fun hh => bd (flatly P (ρa x :: (l.toList ++ hh.toList)) (Instr.slice t (ρa x) l hh none)) fun v => k v H nx) = some r := h
      rw [hss, hss] at h'
      have hvs : VRs ρ (ρa x :: ((lo.map ρa).toList ++ (hi.map ρa).toList)) (ρc x :: ((lo.map ρc).toList ++ (hi.map ρc).toList)) := by
        refine .cons h1 (.append ?_ ?_)
        · cases lo with
          | none => exact .nil
          | some q => exact .cons (h2 q rfl) .nil
        · cases hi with
          | none => exact .nil
          | some q => exact .cons (h3 q rfl) .nil
      obtain ⟨e, v, g1, g2, g3⟩ := flatly_sound (w := w) hvs h'
      have e1 : ρc x = ρa x := (List.cons.inj e).1
      have e3 := (List.cons.inj e).2
      have e2 : lo.map ρc = lo.map ρa ∧ hi.map ρc = hi.map ρa := by
        cases lo <;> cases hi <;> simp at e3 ⊢ <;> simp_all
      refine .look he hH ⟨v, v, g1, ?_, g3⟩
      rw [e1, e2.1, e2.2]
      simp only [Instr.sliceAt, Sem.run_bind, run_underlying hu, Result.andThen_ok]
      exact g2
  · cases hc

theorem fieldAddr_sound {s : TypeId} {x : Operand} {f : Nat} {a : AOp Operand} (ho : o.op = .fieldAddr s x f) (hc : compileOp P ins o = some a) (ha : a.all fun x => VR ρ (ρa x) (ρc x)) (hH : HR ρ H nx w.heap)
    (h : actT (a.map (Av ρa)) P T L H nx k = some r) : Good P w ρ H nx r k (execOp ρc o) := by
  have he : execOp ρc o = (do pure (.value (← Instr.fieldAt s (ρc x) f))) := by simp only [execOp, ho]
  simp only [compileOp, ho] at hc
  split at hc
  · rename_i fs hu
    split at hc
    · rename_i fd hf
      split at hc
      · rename_i n hn
        cases hc
        exact .look he hH (fad_sound hu hf hn ha h)
      · cases hc
    · cases hc
  · cases hc

theorem field_sound {s : TypeId} {x : Operand} {f : Nat} {a : AOp Operand} (ho : o.op = .field s x f) (hc : compileOp P ins o = some a) (ha : a.all fun x => VR ρ (ρa x) (ρc x)) (hH : HR ρ H nx w.heap)
    (h : actT (a.map (Av ρa)) P T L H nx k = some r) : Good P w ρ H nx r k (execOp ρc o) := by
  have he : execOp ρc o = (do pure (.value (← Instr.field s (ρc x) f))) := by simp only [execOp, ho]
  simp only [compileOp, ho] at hc
  split at hc
  · rename_i fs hu
    split at hc
    · rename_i fd hf
      simp only [Option.map_eq_some_iff] at hc
      obtain ⟨g, hg, rfl⟩ := hc
      exact .look he hH (fld_sound hu hf hg ha h)
    · cases hc
  · cases hc

theorem indexAddr_sound {t : TypeId} {x i : Operand} {a : AOp Operand} (ho : o.op = .indexAddr t x i) (hc : compileOp P ins o = some a) (ha : a.all fun x => VR ρ (ρa x) (ρc x)) (hH : HR ρ H nx w.heap)
    (h : actT (a.map (Av ρa)) P T L H nx k = some r) : Good P w ρ H nx r k (execOp ρc o) := by
  have he : execOp ρc o = (do pure (.value (← Instr.indexAt t (ρc x) (ρc i)))) := by simp only [execOp, ho]
  simp only [compileOp, ho] at hc
  split at hc
  · rename_i n e hu
    simp only [Option.map_eq_some_iff] at hc
    obtain ⟨z, hz, rfl⟩ := hc
    exact .look he hH (ixa_sound hu hz ha.1 ha.2 h)
  · rename_i e hu
    simp only [Option.map_eq_some_iff] at hc
    obtain ⟨z, hz, rfl⟩ := hc
    exact .look he hH (ixs_sound hu hz ha.1 ha.2 h)
  · cases hc

theorem index_sound {t : TypeId} {x i : Operand} {a : AOp Operand} (ho : o.op = .index t x i) (hc : compileOp P ins o = some a) (ha : a.all fun x => VR ρ (ρa x) (ρc x)) (hH : HR ρ H nx w.heap)
    (h : actT (a.map (Av ρa)) P T L H nx k = some r) : Good P w ρ H nx r k (execOp ρc o) := by
  have he : execOp ρc o = (do pure (.value (← Instr.index t (ρc x) (ρc i)))) := by simp only [execOp, ho]
  simp only [compileOp, ho] at hc
  split at hc
  · rename_i n e hu
    split at hc
    · rename_i g z hg hz
      cases hc
      exact .look he hH (ix_sound hu hg hz ha.1 ha.2 h)
    · cases hc
  · cases hc
    exact .look he hH (six_sound ha.1 ha.2 h)
  · cases hc

theorem lookup_sound {t : TypeId} {x i : Operand} {ok : Bool} {a : AOp Operand} (ho : o.op = .lookup t x i ok) (hc : compileOp P ins o = some a) (ha : a.all fun x => VR ρ (ρa x) (ρc x)) (hH : HR ρ H nx w.heap)
    (h : actT (a.map (Av ρa)) P T L H nx k = some r) : Good P w ρ H nx r k (execOp ρc o) := by
  have he : execOp ρc o = (do pure (.value (← Instr.lookup t (ρc x) (ρc i) ok))) := by simp only [execOp, ho]
  simp only [compileOp, ho] at hc
  split at hc
  · rename_i kt e hu
    simp only [Option.map_eq_some_iff] at hc
    obtain ⟨z, hz, rfl⟩ := hc
    exact .look he hH (lku_sound hu hz hH ha.1 ha.2 h)
  · cases hc

theorem typeAssert_sound {x : Operand} {xt t : TypeId} {ok : Bool} {a : AOp Operand} (ho : o.op = .typeAssert x xt t ok) (hc : compileOp P ins o = some a) (ha : a.all fun x => VR ρ (ρa x) (ρc x)) (hH : HR ρ H nx w.heap)
    (h : actT (a.map (Av ρa)) P T L H nx k = some r) : Good P w ρ H nx r k (execOp ρc o) := by
  have he : execOp ρc o = (do pure (.value (← Instr.typeAssert (ρc x) xt t ok))) := by simp only [execOp, ho]
  simp only [compileOp, ho] at hc
  split at hc
  · cases hc
  · rename_i d hn hu
    simp only [Option.map_eq_some_iff] at hc
    obtain ⟨z, hz, rfl⟩ := hc
    exact .look he hH (tas_sound hu (fun ms e => hn ms (by rw [e])) hz ha h)
  · cases hc

theorem extract_sound {x : Operand} {i : Nat} {a : AOp Operand} (ho : o.op = .extract x i) (hc : compileOp P ins o = some a) (ha : a.all fun x => VR ρ (ρa x) (ρc x)) (hH : HR ρ H nx w.heap)
    (h : actT (a.map (Av ρa)) P T L H nx k = some r) : Good P w ρ H nx r k (execOp ρc o) := by
  have he : execOp ρc o = (do pure (.value (← Instr.extract (ρc x) i))) := by simp only [execOp, ho]
  simp only [compileOp, ho] at hc
  cases hc
  exact .look he hH (ext_sound ha h)
end Go.Eng
/- The engine: operations that make memory. -/
namespace Go.Eng
variable {P : Program} {w : World} {ρ : Rho} {H : Heap} {nx : Nat} {r : Ex × St} {T : Tr Value} {L : List Value} {ρa ρc : Operand → Value} {o : Oper} {k : KA} {ins : List Nat}

theorem repeatN_succ (z : List Value) (n : Nat) : repeatN z (n + 1) = z ++ repeatN z n := rfl

theorem rep_eq (z : List Value) : ∀ n : Nat, ((List.range (n * z.length)).map fun i => (z.toArray)[i % z.length]!) = repeatN z n := by
  intro n
  induction n with
  | zero => rw [Nat.zero_mul]; rfl
  | succ n ih =>
    rw [repeatN_succ, ← ih]
    have e : (n + 1) * z.length = z.length + n * z.length := by rw [Nat.add_mul]; omega
    rw [e, List.range_add, List.map_append, List.map_map]
    congr 1
    · apply List.ext_getElem
      · simp
      · intro i h1 h2
        simp at h1
        have h3 : i % z.length = i := Nat.mod_eq_of_lt h1
        simp [h3, h1]
    · apply List.map_congr_left
      intro i _
      simp

theorem VRs.rep {z : List Value} (h : VRs ρ z z) : ∀ n, VRs ρ (repeatN z n) (repeatN z n) := by
  intro n
  induction n with
  | zero => exact .nil
  | succ n ih => exact .append h ih

theorem repeatN_length (z : List Value) : ∀ n, (repeatN z n).length = n * z.length := by
  intro n
  induction n with
  | zero => rw [Nat.zero_mul]; rfl
  | succ n ih => rw [repeatN_succ]; simp [ih, Nat.add_mul]; omega

theorem Good.pre {H1 : Heap} {s : Sem Next} (h : Good P w ρ H1 nx r k s) (ho : ∀ j, Own ρ H1 j → Own ρ H j) : Good P w ρ H nx r k s := by
  obtain ⟨v, H', nx', u, w', ρ', h1, h2, h3, h4, h5, h6, h7⟩ := h
  refine ⟨v, H', nx', u, w', ρ', h1, h2, h3, h4, ⟨h5.ext, fun j hj => ?_, fun j hj hn => h5.frame j hj fun hx => hn (ho j hx), h5.size, h5.os, h5.tape, h5.output⟩, h6, h7⟩
  rcases h5.own j hj with h6 | h6
  · exact .inl (ho j h6)
  · exact .inr h6

theorem Good.madeB {w' : World} {b : Blk} {ob : Obj} {rf : Ref} {v u : Value} {s : Sem Next} (hH : HR ρ H nx w.heap) (hh : w'.heap = w.heap.push ob) (hos : w'.os = w.os) (ht : w'.tape = w.tape) (hout : w'.output = w.output)
    (hrb : rf.blk = w.heap.size) (hbr : BR (ρ.with nx rf) (w.heap.push ob) rf b) (hv : VR (ρ.with nx rf) v u) (hk : k v (insP (at_ nx) H (some b)) (nx + 1) = some r) (hs : s.run P w = .ok (.value u) w') : Good P w ρ H nx r k s := by
  refine ⟨v, _, _, u, w', ρ.with nx rf, hk, .inl hs, hv, ?_, ⟨hH.ext_with _, fun j hj => ?_, fun j hj _ => ?_, by rw [hh]; simp, hos, ht, hout⟩, Nat.le_succ _, fun b hb => Rho.with_ne _ _ (by omega)⟩
  · rw [hh]
    refine hH.make (fun c x s' hc hs' => ?_) hbr
    obtain ⟨q, hq, hbq⟩ := hH.blk c x hc
    rw [hs'] at hq; cases hq
    have := hbq.lt
    refine ⟨?_, by omega⟩
    rw [Array.getElem?_push]
    rw [if_neg (by omega)]
  · rcases Own.of_make hj with h | h
    · exact .inr (by omega)
    · exact .inl h
  · rw [hh, Array.getElem?_push, if_neg (by omega)]

theorem Good.made {w' : World} {cs : List Value} {cs' : Array Value} {e : TypeId} {v u : Value} {s : Sem Next} (hH : HR ρ H nx w.heap) (hh : w'.heap = w.heap.push (.cells cs' e (0, 0))) (hos : w'.os = w.os) (ht : w'.tape = w.tape) (hout : w'.output = w.output)
    (hr : ∀ (i : Nat) (x : Value), cs[i]? = some x → ∃ y, cs'[i]? = some y ∧ VR ρ x y) (hv : VR (ρ.with nx ⟨w.heap.size, 0, cs'.size⟩) v u) (hk : k v (insP (at_ nx) H (some (.cells cs))) (nx + 1) = some r) (hs : s.run P w = .ok (.value u) w') : Good P w ρ H nx r k s := by
  refine .madeB (b := .cells cs) (rf := ⟨w.heap.size, 0, cs'.size⟩) hH hh hos ht hout rfl ⟨cs', e, by simp, rfl, fun i x hx => ?_⟩ hv hk hs
  obtain ⟨y, hy, hxy⟩ := hr i x hx
  exact ⟨y, by simpa using hy, hxy.mono (hH.ext_with _)⟩

theorem fresh_eq {v : Value} {cs : List Value} : fresh H nx v k cs = k v (insP (at_ nx) H (some (.cells cs))) (nx + 1) := by
  unfold fresh
  rw [setP_eq]

theorem VR.fresh {n : Nat} {sz : Nat} : VR (ρ.with nx ⟨n, 0, sz⟩) (ptrTo nx) (.pointer (some ⟨n, 0, none⟩)) := by
  have := VR.ptr (ρ := ρ.with nx ⟨n, 0, sz⟩) (b := nx) (o := 0) (Rho.with_self _ _ _)
  simpa [ptrTo] using this

theorem exact_succ (n : Nat) : sureCap (Nat.succ (Nat.mul 2 n)) = n := by
  show (2 * n + 1) / 2 = n
  omega

theorem VR.freshSl {n z len c : Nat} (h : len ≤ c ∧ c ≤ capMax) : VR (ρ.with nx ⟨n, 0, c * z⟩) (slTo nx z len (Nat.succ (Nat.mul 2 c))) (.slice (some ⟨n, 0, none⟩) len c) := by
  refine .sl (r := ⟨n, 0, c * z⟩) (Rho.with_self _ _ _) h (by rw [exact_succ]; exact Nat.le_refl _) (fun _ => (exact_succ c).symm) (.inr ⟨rfl, ?_⟩)
  simp

theorem VRs.getA {cs : List Value} {a : Array Value} (h : VRs ρ cs a.toList) : ∀ (i : Nat) (x : Value), cs[i]? = some x → ∃ y, a[i]? = some y ∧ VR ρ x y := by
  intro i x hx
  obtain ⟨y, hy, hv⟩ := h.get hx
  exact ⟨y, by simpa using hy, hv⟩

theorem box_sound {t : TypeId} {x : Operand} {a : AOp Operand} (ho : o.op = .box t x) (hc : compileOp P ins o = some a) (ha : a.all fun x => VR ρ (ρa x) (ρc x)) (hH : HR ρ H nx w.heap)
    (h : actT (a.map (Av ρa)) P T L H nx k = some r) : Good P w ρ H nx r k (execOp ρc o) := by
  have he : execOp ρc o = (do pure (.value (← Instr.box t (ρc x)))) := by simp only [execOp, ho]
  simp only [compileOp, ho] at hc
  cases hc
  have h' : fresh H nx (ptrTo nx) k (cellsOf (ρa x)) = some r := h
  rw [fresh_eq] at h'
  rw [he]
  exact .made (w' := { w with heap := w.heap.push (.cells (ρc x).cells t (0, 0)) }) hH rfl rfl rfl rfl (VRs.getA (VR.cells ha)) .fresh h' rfl

theorem alloc_sound {t : TypeId} {a : AOp Operand} (ho : o.op = .alloc t) (hc : compileOp P ins o = some a) (hH : HR ρ H nx w.heap)
    (h : actT (a.map (Av ρa)) P T L H nx k = some r) : Good P w ρ H nx r k (execOp ρc o) := by
  have he : execOp ρc o = (do pure (.value (← Instr.alloc t true (.tuple #[])))) := by simp only [execOp, ho]
  simp only [compileOp, ho, Option.map_eq_some_iff] at hc
  obtain ⟨zero, hz, rfl⟩ := hc
  have h' : fresh H nx (ptrTo nx) k zero = some r := h
  rw [fresh_eq] at h'
  obtain ⟨v, hz1, hz2⟩ := zeroCells_some hz
  have hzr := (zeroCells_of (ρ := ρ) hz hz1).2
  obtain ⟨hzr1, _⟩ := run_zero (w := w) hz1
  rw [he]
  refine .made (w' := { w with heap := w.heap.push (.cells v.cells t (0, 0)) }) hH rfl rfl rfl rfl (VRs.getA (by rw [← hz2]; exact hzr)) .fresh h' ?_
  simp only [Instr.alloc, Sem.run_bind, hzr1, Result.andThen_ok]
  rfl

theorem makeMap_sound {t : TypeId} {x : Option Operand} {a : AOp Operand} (ho : o.op = .makeMap t x) (hc : compileOp P ins o = some a) (ha : a.all fun x => VR ρ (ρa x) (ρc x)) (hH : HR ρ H nx w.heap)
    (h : actT (a.map (Av ρa)) P T L H nx k = some r) : Good P w ρ H nx r k (execOp ρc o) := by
  have he : execOp ρc o = (do pure (.value (← Instr.makeMap t (x.map ρc)))) := by simp only [execOp, ho]
  simp only [compileOp, ho] at hc
  split at hc
  · rename_i kt e hu
    cases hc
    have h' : optK T L ((x.map ρa).map Od.cst) 0 (fun _ => setP (at_ nx) H (some (.map [] 0)) fun H => k (.map (some nx)) H (Nat.succ nx)) = some r := by
      rw [Option.map_map]; exact h
    obtain ⟨n, h1, hx⟩ := optK_cst h'
    rw [setP_eq] at h1
    rw [he]
    refine .madeB (b := .map [] 0) (rf := ⟨w.heap.size, 0, 0⟩) (w' := { w with heap := w.heap.push (.map #[] 0) }) hH rfl rfl rfl rfl rfl ⟨#[], by simp, .nil⟩ (.map (r := ⟨w.heap.size, 0, 0⟩) (Rho.with_self _ _ _)) h1 ?_
    rcases hx with ⟨hx, _⟩ | ⟨ki, hx⟩
    · cases x with
      | none => rfl
      | some x => simp at hx
    · cases x with
      | none => simp at hx
      | some x =>
        simp only [Option.map_some, Option.some.injEq] at hx
        have hv : VR ρ (ρa x) (ρc x) := ha x rfl
        rw [hx] at hv
        have := hv.int_inv
        simp only [Instr.makeMap, Option.map_some, this, Sem.run_bind, run_underlying hu, Result.andThen_ok]
        rfl
  · cases hc

theorem wrap_nat {n : Nat} (h : n ≤ small) : IntKind.i64.wrap (n : Int) = n := by
  unfold IntKind.wrap IntKind.bits IntKind.signed
  unfold small at h
  have h1 : (n : Int) % (2 ^ 64 : Int) = n := by omega
  simp only [h1]
  rw [if_neg]
  simp
  omega

theorem zeros_run {e : TypeId} {z c : Nat} {zero : List Value} (hz : zeroCells P e = some zero) (hl : zero.length = z) :
    ∃ zr : Array Value, (∀ K : Array Value → Sem Value, (if c * z = 0 then (do let zero ← pure #[]; K zero) else (do let v ← zeroValue e; let zero ← pure v.cells; K zero) : Sem Value).run P w = (K zr).run P w) ∧
      (Array.range (c * z)).map (zr[· % zr.size]!) = (repeatN zero c).toArray := by
  obtain ⟨v, hz1, hz2⟩ := zeroCells_some hz
  obtain ⟨hzr1, _⟩ := run_zero (w := w) hz1
  subst hl
  by_cases h0 : c * zero.length = 0
  · refine ⟨#[], fun K => by simp only [h0, if_true, Sem.run_pure, Sem.run_bind, Result.andThen_ok], ?_⟩
    have : repeatN zero c = [] := by
      apply List.eq_nil_of_length_eq_zero
      rw [repeatN_length, h0]
    rw [this, h0]
    simp
  · refine ⟨v.cells, fun K => by simp only [if_neg h0, Sem.run_bind, Sem.run_pure, Result.andThen_ok, hzr1], ?_⟩
    have e1 : v.cells = zero.toArray := by rw [hz2]
    apply Array.ext'
    rw [e1]
    simp only [Array.toList_map, Array.toList_range, List.size_toArray]
    exact rep_eq zero c

theorem asInt_run {k : IntKind} {n : Int} : (asInt (.int k n)).run P w = .ok n w := rfl

theorem zeros_VR {e : TypeId} {zero : List Value} (hz : zeroCells P e = some zero) (c : Nat) : VRs ρ (repeatN zero c) (repeatN zero c) := by
  obtain ⟨v, hz1, hz2⟩ := zeroCells_some hz
  exact ((zeroCells_of (ρ := ρ) hz hz1).2).rep c

theorem makeSlice_sound {t : TypeId} {x y : Operand} {a : AOp Operand} (ho : o.op = .makeSlice t x y) (hc : compileOp P ins o = some a) (ha : a.all fun x => VR ρ (ρa x) (ρc x)) (hH : HR ρ H nx w.heap)
    (h : actT (a.map (Av ρa)) P T L H nx k = some r) : Good P w ρ H nx r k (execOp ρc o) := by
  have he : execOp ρc o = (do pure (.value (← Instr.makeSlice t (ρc x) (ρc y)))) := by simp only [execOp, ho]
  simp only [compileOp, ho] at hc
  split at hc
  · rename_i e hu
    split at hc
    · rename_i z bytes zero hz hb hzc
      cases hl : Nat.beq zero.length z with
      | false => rw [hl] at hc; cases hc
      | true =>
        rw [hl] at hc
        cases hc
        have hl' := Nat.eq_of_beq_eq_true hl
        have h' : onNat (ρa x) (fun l => onNat (ρa y) fun c => mksV z bytes zero H nx l c k) = some r := h
        obtain ⟨k1, l, e1, h1⟩ := onNat_some h'
        obtain ⟨k2, c, e2, h2⟩ := onNat_some h1
        obtain ⟨hcc, h3⟩ := cond_some h2
        simp only [Bool.and_eq_true] at hcc
        obtain ⟨c1, c2, c3, c4⟩ := hcc
        have hlc : l ≤ c := Nat.le_of_ble_eq_true c1
        have hcb : c * bytes ≤ small := Nat.le_of_ble_eq_true c2
        have hcs : c ≤ small := Nat.le_of_ble_eq_true c3
        rw [fresh_eq] at h3
        obtain ⟨hx, hy⟩ := ha
        have hx' : ρc x = .int k1 (.ofNat l) := by rw [e1] at hx; exact hx.int_inv
        have hy' : ρc y = .int k2 (.ofNat c) := by rw [e2] at hy; exact hy.int_inv
        obtain ⟨i, hi, hib⟩ := run_bytes (w := w) hb
        obtain ⟨zr, hz1, hz2⟩ := zeros_run (w := w) (c := c) hzc hl'
        rw [he]
        have hsz : (repeatN zero c).toArray.size = c * z := by rw [List.size_toArray, repeatN_length, hl']
        refine .made (w' := { w with heap := w.heap.push (.cells (repeatN zero c).toArray e (0, 0)) }) (cs' := (repeatN zero c).toArray) hH rfl rfl rfl rfl (VRs.getA (zeros_VR hzc c)) (by rw [hsz]; exact .freshSl ⟨hlc, by unfold small at hcs; unfold capMax; omega⟩) h3 ?_
        have w1 : IntKind.i64.wrap (Int.ofNat l) = (l : Int) := wrap_nat (by omega)
        have w2 : IntKind.i64.wrap (Int.ofNat c) = (c : Int) := wrap_nat hcs
        have hsmall : small = 1099511627776 := rfl
        have hbi : ((i.bytes : Int) * (c : Int)) ≤ 1099511627776 := by
          rw [hib, Int.mul_comm]
          have : ((c * bytes : Nat) : Int) ≤ 1099511627776 := by rw [hsmall] at hcb; omega
          simpa using this
        have hcond : ((decide ((c : Int) < 0) || decide ((i.bytes : Int) * (c : Int) > 2 ^ 48) || decide ((l : Int) < 0) || decide ((l : Int) > (c : Int))) = true) ↔ False := by
          simp only [Bool.or_eq_true, decide_eq_true_eq, iff_false]
          omega
        simp only [Instr.makeSlice, Sem.run_bind, run_underlying hu, Result.andThen_ok, hx', hy', asInt_run, Sem.run_pure, hi, w1, w2]
        rw [if_neg (by rw [hcond]; exact fun h => h)]
        simp only [Sem.run_bind, run_askRoom, Result.andThen_ok, run_size hz, Int.toNat_natCast]
        rw [hz1]
        simp only [hz2, newRow, Sem.run_bind, run_newObj, Sem.run_pure, Result.andThen_ok]
    · cases hc
  · cases hc

theorem buildSlice_sound {t : TypeId} {len : Nat} {xs : Array (Nat × Operand)} {a : AOp Operand} (ho : o.op = .buildSlice t len xs) (hc : compileOp P ins o = some a) (ha : a.all fun x => VR ρ (ρa x) (ρc x)) (hH : HR ρ H nx w.heap)
    (h : actT (a.map (Av ρa)) P T L H nx k = some r) : Good P w ρ H nx r k (execOp ρc o) := by
  have he : execOp ρc o = (do pure (.value (← Instr.buildSlice t len (xs.map fun (i, x) => (i, ρc x))))) := by simp only [execOp, ho]
  have hq : (xs.map fun (i, x) => (i, ρc x)) = (xs.toList.map fun x => (x.1, ρc x.2)).toArray := by
    apply Array.ext'; simp
  rw [hq] at he
  simp only [compileOp, ho] at hc
  split at hc
  · rename_i e hu
    split at hc
    · rename_i z zero hz hzc
      cases hl : (Nat.ble (len * z) 16777216 && Nat.beq zero.length z) with
      | false => rw [hl] at hc; cases hc
      | true =>
        rw [hl] at hc
        cases hc
        simp only [Bool.and_eq_true] at hl
        have hlz : len * z ≤ 16777216 := Nat.le_of_ble_eq_true hl.1
        have hl' := Nat.eq_of_beq_eq_true hl.2
        obtain ⟨h1, h2⟩ := placesA_get (z := z) xs.toList
        have h' : partsK T L (((placesA z xs.toList).map fun x => (x.1, x.2.1, ρa x.2.2)).map fun x => (x.1, x.2.1, Od.cst x.2.2)) (fun ps => bd (fillIn (repeatN zero len) ps) fun cs =>
            cond (Nat.blt 0 z) (fresh H nx (slTo nx z len (Nat.succ (Nat.mul 2 len))) k cs) none) = some r := by
          rw [List.map_map]; exact h
        rw [partsK_cst] at h'
        obtain ⟨cs, hf, h4⟩ := bd_eq h'
        obtain ⟨hz0, hk⟩ := cond_some h4
        rw [fresh_eq] at hk
        have hlm : len ≤ capMax := by
          have h0 : 0 < z := by simpa [Nat.blt_eq] using hz0
          have : len * 1 ≤ len * z := Nat.mul_le_mul_left _ h0
          unfold capMax; omega
        obtain ⟨zr, hz1, hz2⟩ := zeros_run (w := w) (c := len) hzc hl'
        obtain ⟨c, hc1, hc2⟩ := fill_sound (ρ := ρ) (fun i => some (i * z, z)) ((placesA z xs.toList).map fun x => (x.1, x.2.1, ρa x.2.2)) (xs.toList.map fun x => (x.1, ρc x.2)) (repeatN zero len) cs (repeatN zero len).toArray (by simp [h1]) (fun i p q hpi hqi => by
          simp only [List.getElem?_map, Option.map_eq_some_iff] at hpi hqi
          obtain ⟨p', hp', rfl⟩ := hpi
          obtain ⟨q', hq', rfl⟩ := hqi
          have := h2 i p' q' hp' hq'
          subst this
          exact ⟨rfl, ha _ (List.mem_of_getElem? hp')⟩) (zeros_VR hzc len) hf
        have hcl : c.size = len * z := by
          have g1 := hc2.length
          have g2 : ∀ (ps : List (Nat × Nat × Value)) (a b : List Value), fillIn a ps = some b → b.length = a.length := by
            intro ps
            induction ps with
            | nil => intro a b hab; simp [fillIn] at hab; rw [hab]
            | cons p ps ih =>
              intro a b hab
              obtain ⟨p1, p2, p3⟩ := p
              unfold fillIn at hab
              cases hb : Nat.beq (cellsOf p3).length p2 with
              | false => rw [hb] at hab; cases hab
              | true =>
                rw [hb] at hab
                simp only [cond_true] at hab
                cases hov : over a p1 (cellsOf p3) with
                | none => simp [hov] at hab
                | some a1 =>
                  simp [hov] at hab
                  rw [ih a1 b hab, (over_get _ _ _ _ hov).1]
          have g3 := g2 _ _ _ hf
          rw [repeatN_length, hl'] at g3
          simp only [Array.length_toList] at g1
          omega
        rw [he]
        refine .made (w' := { w with heap := w.heap.push (.cells c e (0, 0)) }) (cs' := c) hH rfl rfl rfl rfl (VRs.getA hc2) (by rw [hcl]; exact .freshSl ⟨Nat.le_refl _, hlm⟩) hk ?_
        have hng : ¬ (len * z > 2 ^ 24) := by omega
        simp only [Instr.buildSlice, Sem.run_bind, run_underlying hu, Result.andThen_ok, run_size hz, if_neg hng]
        rw [hz1]
        simp only [hz2, hc1, newRow, Sem.run_bind, run_newObj, Sem.run_pure, Result.andThen_ok]
    · cases hc
  · cases hc
end Go.Eng
/- The engine: operations that write. -/
namespace Go.Eng
variable {P : Program} {w : World} {ρ : Rho} {H : Heap} {nx : Nat} {r : Ex × St} {T : Tr Value} {L : List Value} {ρa ρc : Operand → Value} {o : Oper} {k : KA} {ins : List Nat}

theorem VR.one {v u : Value} (h : VR ρ v u) (h1 : oneC v = true) : u.oneCell' = true := by
  cases h with
  | sc h => cases v <;> first | rfl | (simp [oneC] at h1)
  | agg h => simp [oneC] at h1
  | tuple h => simp [oneC] at h1
  | _ => rfl

theorem VRs.one {a a' : List Value} (h : VRs ρ a a') : allOne a = true → ∀ u ∈ a', u.oneCell' = true := by
  induction a generalizing a' with
  | nil => cases h; intro _ u hu; simp at hu
  | cons v a ih =>
    cases h with
    | cons h hr =>
      intro h1 u hu
      have h2 : cond (oneC v) (allOne a) false = true := h1
      cases hv : oneC v with
      | false => rw [hv] at h2; cases h2
      | true =>
        rw [hv] at h2
        rcases List.mem_cons.1 hu with rfl | hu
        · exact h.one hv
        · exact ih hr h2 u hu

theorem put1_eq {b : Nat} {v : Value} {cs : List Value} : put1 H nx b v k cs = k v (insP (at_ b) H (some (.cells cs))) nx := by
  unfold put1
  rw [setP_eq]

theorem putNth_some {K : List Value → R0} : ∀ (old : List Value) (o : Nat) (c : Value) (K : List Value → R0), putNth old o c K = some r → ∃ l, over old o [c] = some l ∧ K l = some r := by
  intro old
  induction old with
  | nil => intro o c K h; cases h
  | cons x old ih =>
    intro o c K h
    cases o with
    | zero =>
      refine ⟨c :: old, ?_, h⟩
      show overAll (x :: old) [c] = some (c :: old)
      simp [overAll]
    | succ o =>
      obtain ⟨l, h1, h2⟩ := ih o c (fun l => K (x :: l)) h
      refine ⟨x :: l, ?_, h2⟩
      show (Option.rec none (fun r => some (x :: r)) (over old o [c]) : Option (List Value)) = some (x :: l)
      rw [h1]

theorem store_sound {b off : Nat} {s : Ref} {old new new' l : List Value} (hH : HR ρ H nx w.heap) (hb : getP H (at_ b) = some (.cells old)) (hs : ρ b = some s) (hov : over old off new = some l) (hn : VRs ρ new new') (h1 : allOne new = true) :
    ∃ w', (storeCells ⟨s.blk, s.sh + off, none⟩ new').run P w = .ok () w' ∧ HR ρ (insP (at_ b) H (some (.cells l))) nx w'.heap ∧ Stp ρ H w ρ (insP (at_ b) H (some (.cells l))) w' := by
  obtain ⟨s', hs', a, e, ha, hsz, hcell⟩ := hH.blk b _ hb
  rw [hs] at hs'; cases hs'
  obtain ⟨g1, g2, g3⟩ := over_get off old new l hov
  have hnl := hn.length
  have hown : ∀ j, Own ρ (insP (at_ b) H (some (.cells l))) j → Own ρ H j := fun j hj => Own.of_write hb hj
  by_cases h0 : new = []
  · subst h0
    cases hn
    have hlo : l = old := by
      apply List.ext_getElem?
      intro i
      rw [g3 i, if_neg (by simp)]
    subst hlo
    refine ⟨w, rfl, ?_, .refl ρ, fun j hj => .inl (hown j hj), fun _ _ _ => rfl, Nat.le_refl _, rfl, rfl, rfl⟩
    exact hH.write hb hs (fun _ _ => rfl) ⟨a, e, ha, hsz, hcell⟩
  · have hpos : 0 < new.length := List.length_pos_iff.2 h0
    have hlast : s.sh + off + new'.length ≤ a.size := by
      have : off + new.length - 1 < old.length := by omega
      obtain ⟨y, hy, _⟩ := hcell (off + new.length - 1) old[off + new.length - 1] (by simp [this])
      have := (Array.getElem?_eq_some_iff.1 hy).1
      omega
    have hst := run_storeCells_at P s.blk (s.sh + off) e new' 0 a w ha (by simpa using hlast) (hn.one h1)
    refine ⟨_, hst, ?_, .refl ρ, fun j hj => .inl (hown j hj), fun j hj hno => ?_, by simp, rfl, rfl, rfl⟩
    · refine hH.write hb hs (fun j hj => setRow_other w s.blk j _ hj) ⟨_, e, setRow_heap w s.blk a _ e _ ha, ?_, fun i v hv => ?_⟩
      · simp; omega
      · rw [g3 i] at hv
        simp only [Nat.add_zero, List.getElem?_toArray]
        by_cases c1 : off ≤ i ∧ i < off + new.length
        · rw [if_pos c1] at hv
          obtain ⟨y, hy, hxy⟩ := hn.get hv
          refine ⟨y, ?_, hxy⟩
          rw [List.getElem?_append_left (by simp; omega), List.getElem?_append_right (by simp; omega)]
          simp only [List.length_take, Array.length_toList]
          rw [← hy]; congr 1; omega
        · rw [if_neg c1] at hv
          obtain ⟨y, hy, hxy⟩ := hcell i v hv
          refine ⟨y, ?_, hxy⟩
          have hlt := (Array.getElem?_eq_some_iff.1 hy).1
          by_cases c2 : i < off
          · rw [List.getElem?_append_left (by simp; omega), List.getElem?_append_left (by simp; omega), List.getElem?_take, if_pos (by omega)]
            simpa using hy
          · rw [List.getElem?_append_right (by simp; omega)]
            simp only [List.length_append, List.length_take, Array.length_toList, List.getElem?_drop]
            rw [← hy, Array.getElem?_toList]; congr 1; omega
    · refine setRow_other w s.blk j _ fun he => hno ⟨b, _, s, hb, hs, he.symm⟩

theorem storeAt_sound {t : TypeId} {x v : Operand} {a : AOp Operand} (ho : o.op = .store t x v) (hc : compileOp P ins o = some a) (ha : a.all fun x => VR ρ (ρa x) (ρc x)) (hH : HR ρ H nx w.heap)
    (h : actT (a.map (Av ρa)) P T L H nx k = some r) : Good P w ρ H nx r k (execOp ρc o) := by
  have he : execOp ρc o = (do Instr.storeAt t (ρc x) (ρc v); pure .skip) := by simp only [execOp, ho]
  simp only [compileOp, ho, Option.map_eq_some_iff] at hc
  obtain ⟨n, hn, rfl⟩ := hc
  obtain ⟨hx, hv⟩ := ha
  have h' : onPtr (ρa x) (stoV H nx n (cellsOf (ρa v)) k) = some r := h
  obtain ⟨b, off, e1, h1⟩ := onPtr_some h'
  obtain ⟨hcc, h2⟩ := cond_some h1
  simp only [Bool.and_eq_true] at hcc
  have hlen := Nat.eq_of_beq_eq_true hcc.1
  obtain ⟨old, hb, h3⟩ := cellsK_some h2
  rw [e1] at hx
  obtain ⟨s, hs, e2⟩ := hx.ptr_inv
  have hcells := hv.cells
  have hk : ∃ l, over old off (cellsOf (ρa v)) = some l ∧ k undef (insP (at_ b) H (some (.cells l))) nx = some r := by
    revert h3
    generalize cellsOf (ρa v) = cs
    intro h3
    match cs, h3 with
    | [], h3 => cases h3
    | [c], h3 =>
      obtain ⟨l, g1, g2⟩ := putNth_some (K := put1 H nx b undef k) old off c (put1 H nx b undef k) h3
      rw [put1_eq] at g2
      exact ⟨l, g1, g2⟩
    | c :: c' :: cs, h3 =>
      have h4 : bd (over old off (c :: c' :: cs)) (put1 H nx b undef k) = some r := h3
      obtain ⟨l, g1, g2⟩ := bd_eq h4
      rw [put1_eq] at g2
      exact ⟨l, g1, g2⟩
  obtain ⟨l, hov, hk⟩ := hk
  obtain ⟨w', g1, g2, g3⟩ := store_sound (P := P) hH hb hs hov hcells hcc.2
  have hsz : (ρc v).cells.size = n := by rw [← hlen, ← hcells.length]; simp
  rw [he]
  refine ⟨undef, _, nx, undef, w', ρ, hk, .inr ⟨?_, rfl⟩, .tuple .nil, g2, g3, Nat.le_refl _, fun _ _ => rfl⟩
  simp only [Instr.storeAt, e2, Instr.sureAddr, storeVar, Sem.run_bind, Sem.run_pure, Result.andThen_ok, run_size hn]
  rw [if_neg (by rw [hsz]; exact fun h => h rfl)]
  simp only [Sem.run_bind, Sem.run_pure, Result.andThen_ok, g1]

/-! ### cells that are read -/
theorem first_run {z m : Nat} {w' : World} {b p len c : Nat} {l : List Value} (hl : l.length = m * z) (h : ∀ i v, l[i]? = some v → w'.cell? ⟨b, p + i, none⟩ = some v) :
    (Builtin.firstCells z m (.slice (some ⟨b, p, none⟩) len c)).run P w' = .ok ⟨l⟩ w' := by
  unfold Builtin.firstCells
  exact run_loadCells hl h

theorem src_sound {z : Nat} {x u : Value} {K : Nat → List Value → R0} (hH : HR ρ H nx w.heap) (hv : VR ρ x u) (h : srcK H z K x = some r) :
    ∃ n cs, K n cs = some r ∧ cs.length = n * z ∧ (∃ base len c, u = .slice base len c ∧ len = n) ∧ ∀ m, m ≤ n → ∃ cs', VRs ρ (cs.take (m * z)) cs' ∧ ∀ w' : World, w'.heap = w.heap → (Builtin.firstCells z m u).run P w' = .ok ⟨cs'⟩ w' := by
  unfold srcK at h
  split at h
  · cases hv with
    | sc h => simp [scalar] at h
    | snil =>
      refine ⟨0, [], h, by simp, ⟨_, _, _, rfl, rfl⟩, fun m hm => ⟨[], by simp; exact .nil, fun w' _ => ?_⟩⟩
      simp [Builtin.firstCells, Sem.run_pure]
  · rename_i b off z' n c
    obtain ⟨hz, h1⟩ := cond_some h
    have hz' := Nat.eq_of_beq_eq_true hz
    subst hz'
    clear h
    cases hv with
    | sc h => simp [scalar] at h
    | @sl _ _ _ _ _ p c' s hs hl hsc he hp =>
      cases hn : Nat.beq n 0 with
      | true =>
        rw [hn] at h1
        have hn' := Nat.eq_of_beq_eq_true hn
        subst hn'
        refine ⟨0, [], h1, by simp, ⟨_, _, _, rfl, rfl⟩, fun m hm => ⟨[], by simp; exact .nil, fun w' _ => first_run ?_ ?_⟩⟩
        · have : m = 0 := by omega
          simp [this]
        · intro i v hi; simp at hi
      | false =>
        rw [hn] at h1
        have hn' := Nat.ne_of_beq_eq_false hn
        obtain ⟨cs0, hb, h2⟩ := cellsK_some h1
        obtain ⟨cs, ht, h3⟩ := bd_eq h2
        obtain ⟨t1, t2⟩ := take?_get ht
        have t1 : cs.length = n * z := t1
        have t2 : ∀ i, i < n * z → cs[i]? = (dropN cs0 off)[i]? := t2
        obtain ⟨s', hs', a, e, ha, hsz, hcell⟩ := hH.blk _ _ hb
        rw [hs] at hs'; cases hs'
        have hp' : p = s.sh + off := by rcases hp with h0 | h0 <;> omega
        refine ⟨n, cs, h3, t1, ⟨_, _, _, rfl, rfl⟩, fun m hm => ?_⟩
        have key : ∀ q, q ≤ n * z → ∃ cs' : List Value, cs'.length = q ∧ ∀ i, i < q → ∃ x y, cs[i]? = some x ∧ cs'[i]? = some y ∧ a[s.sh + off + i]? = some y ∧ VR ρ x y := by
          intro q
          induction q with
          | zero => intro _; exact ⟨[], rfl, fun i hi => by omega⟩
          | succ q ih =>
            intro hq
            obtain ⟨l', hl', hg⟩ := ih (by omega)
            have hx : cs[q]? = some cs[q] := List.getElem?_eq_getElem (by rw [t1]; exact hq)
            have hx' := t2 q hq
            rw [hx, dropN_eq, List.getElem?_drop] at hx'
            obtain ⟨y, hy, hxy⟩ := hcell (off + q) _ hx'.symm
            refine ⟨l' ++ [y], by simp [hl'], fun i hi => ?_⟩
            by_cases e : i = q
            · subst e
              exact ⟨_, y, hx, by simp [hl'], by rw [← hy]; congr 1; omega, hxy⟩
            · obtain ⟨x, z, q1, q2, q3, q4⟩ := hg i (by omega)
              exact ⟨x, z, q1, by rw [List.getElem?_append_left (by omega)]; exact q2, q3, q4⟩
        have hmz : m * z ≤ n * z := Nat.mul_le_mul_right _ hm
        obtain ⟨cs', hl', hg⟩ := key (m * z) hmz
        refine ⟨cs', .of_get (by simp; omega) fun i x hx => ?_, fun w' hw' => ?_⟩
        · have hlt : i < m * z := by
            have := (List.getElem?_eq_some_iff.1 hx).1
            simp at this; omega
          rw [List.getElem?_take, if_pos hlt] at hx
          obtain ⟨x', y, q1, q2, q3, q4⟩ := hg i hlt
          rw [hx] at q1; cases q1
          exact ⟨y, q2, q4⟩
        · refine first_run hl' fun i v hi => ?_
          have hlt : i < m * z := by rw [← hl']; exact (List.getElem?_eq_some_iff.1 hi).1
          obtain ⟨x', y, q1, q2, q3, q4⟩ := hg i hlt
          rw [hi] at q2; cases q2
          subst hp'
          exact cell_of w' hw' ha q3
  · cases h

theorem copy_sound {t ts : TypeId} {ty : TypeId} {e : TypeId} {z : Nat} {ats : Array TypeId} {x y u v : Value} (hat : ats[0]? = some t) (hu : P.underlying t = some (.slice e)) (hz : sizeAt P e = some z) (hH : HR ρ H nx w.heap)
    (hx : VR ρ x u) (hy : VR ρ y v) (h : srcK H z (cpyD z H nx k x) y = some r) : Good P w ρ H nx r k (do pure (.value (← Builtin.copy_ ats ty #[u, v]))) := by
  obtain ⟨n, cs, h1, hl, ⟨base, len, c, rfl, hlen⟩, hfirst⟩ := src_sound (P := P) hH hy h
  subst hlen
  have zero : ∀ (b : Option Addr) (dl dc : Nat), Nat.min len dl = 0 → u = .slice b dl dc → k (.int .i64 (.ofNat 0)) H nx = some r → Good P w ρ H nx r k (do pure (.value (← Builtin.copy_ ats ty #[u, .slice base len c]))) := by
    intro b dl dc hm hu' hk
    obtain ⟨cs', hr, hrun⟩ := hfirst 0 (Nat.zero_le _)
    have : cs' = [] := by
      have := hr.length
      simp at this
      exact this
    subst this
    refine .same hH (.sc rfl) hk ?_
    have hm' : Nat.min len dl = 0 := hm
    subst hu'
    simp only [Builtin.copy_, hat, List.getElem?_toArray, List.getElem?_cons_zero, List.getElem?_cons_succ, Sem.run_bind, run_underlying hu, Result.andThen_ok, Builtin.lenOf, Sem.run_pure, run_size hz, hm', hrun w rfl]
    cases b with
    | none => rfl
    | some a => rfl
  unfold cpyD at h1
  split at h1
  · cases hx with
    | sc h => simp [scalar] at h
    | snil => exact zero _ _ _ (Nat.min_zero _) rfl h1
  · obtain ⟨b, off, z', dl, dc, rfl, h2⟩ := onSl_some h1
    obtain ⟨hzz, h3⟩ := cond_some h2
    have hz' := Nat.eq_of_beq_eq_true hzz
    subst hz'
    cases hx with
    | sc h => simp [scalar] at h
    | @sl _ _ _ _ _ p c' s hs hl' hsc he hp =>
      cases hm : Nat.beq (Nat.min len dl) 0 with
      | true =>
        rw [hm] at h3
        exact zero _ _ _ (Nat.eq_of_beq_eq_true hm) rfl h3
      | false =>
        rw [hm] at h3
        have hm' := Nat.ne_of_beq_eq_false hm
        obtain ⟨cs1, ht, h4⟩ := bd_eq h3
        obtain ⟨h1c, h5⟩ := cond_some h4
        obtain ⟨old, hb, h6⟩ := cellsK_some h5
        obtain ⟨l, hov, h7⟩ := bd_eq h6
        rw [put1_eq] at h7
        obtain ⟨t1, t2⟩ := take?_eq _ _ _ ht
        obtain ⟨cs', hr, hrun⟩ := hfirst (Nat.min len dl) (Nat.min_le_left _ _)
        have t1' : cs1 = cs.take (Nat.min len dl * z) := t1
        rw [← t1'] at hr
        have hdl : dl ≠ 0 := by
          intro h0; subst h0
          exact hm' (Nat.min_zero _)
        have hp' : p = s.sh + off := by rcases hp with h0 | h0 <;> omega
        subst hp'
        obtain ⟨w', g1, g2, g3⟩ := store_sound (P := P) hH hb hs hov hr h1c
        refine ⟨_, _, nx, .int .i64 (.ofNat (Nat.min len dl)), w', ρ, h7, .inl ?_, .sc rfl, g2, g3, Nat.le_refl _, fun _ _ => rfl⟩
        simp only [Builtin.copy_, hat, List.getElem?_toArray, List.getElem?_cons_zero, List.getElem?_cons_succ, Sem.run_bind, run_underlying hu, Result.andThen_ok, Builtin.lenOf, Sem.run_pure, run_size hz, hrun w rfl, g1]
        rfl
end Go.Eng
/- The engine: operations that write: maps. -/
namespace Go.Eng
variable {P : Program} {w : World} {ρ : Rho} {H : Heap} {nx : Nat} {r : Ex × St} {T : Tr Value} {L : List Value} {ρa ρc : Operand → Value} {o : Oper} {k : KA} {ins : List Nat}

theorem mapK_some {v : Value} {K : Nat → List MapEntry → Nat → R0} (h : mapK H v K = some r) : ∃ b es c, v = .map (some b) ∧ getP H (at_ b) = some (.map es c) ∧ K b es c = some r := by
  unfold mapK at h
  split at h
  · obtain ⟨es, c, h1, h2⟩ := onMapB_some h
    exact ⟨_, es, c, rfl, h1, h2⟩
  · cases h

theorem ERs.append {a a' b b' : List MapEntry} (h : ERs ρ a a') (h' : ERs ρ b b') : ERs ρ (a ++ b) (a' ++ b') := by
  induction h with
  | nil => exact h'
  | cons hk hv hb _ ih => exact .cons hk hv hb ih

theorem ERs.set {f : MapEntry → MapEntry} {v u : Value} (hv : VR ρ v u) : ∀ {es es' : List MapEntry}, ERs ρ es es' → ∀ i : Nat, (∀ e', es'[i]? = some e' → (f e').key = e'.key ∧ (f e').val = u ∧ (f e').born = e'.born) → ERs ρ (setVal es i v) (es'.modify i f) := by
  intro es es' h
  induction h with
  | nil => intro i _; cases i <;> exact .nil
  | @cons e e' es es' hk hv' hb hr ih =>
    intro i hf
    cases i with
    | zero =>
      obtain ⟨f1, f2, f3⟩ := hf e' rfl
      show ERs ρ ({ e with val := v } :: es) (f e' :: es')
      exact .cons (by rw [f1]; exact hk) (by rw [f2]; exact hv) (by rw [f3]; exact hb) hr
    | succ i =>
      show ERs ρ (e :: setVal es i v) (e' :: es'.modify i f)
      exact .cons hk hv' hb (ih i fun e'' he => hf e'' (by simpa using he))

theorem ERs.touch {f : MapEntry → MapEntry} : ∀ {es es' : List MapEntry}, ERs ρ es es' → ∀ i : Nat, (∀ e', es'[i]? = some e' → (f e').key = e'.key ∧ (f e').val = e'.val ∧ (f e').born = e'.born) → ERs ρ es (es'.modify i f) := by
  intro es es' h
  induction h with
  | nil => intro i _; cases i <;> exact .nil
  | @cons e e' es es' hk hv' hb hr ih =>
    intro i hf
    cases i with
    | zero =>
      obtain ⟨f1, f2, f3⟩ := hf e' rfl
      exact .cons (by rw [f1]; exact hk) (by rw [f2]; exact hv') (by rw [f3]; exact hb) hr
    | succ i => exact .cons hk hv' hb (ih i fun e'' he => hf e'' (by simpa using he))

theorem setObj_run {b : Nat} {es : Array MapEntry} {c : Nat} (ob : Obj) (h : w.heap[b]? = some (.map es c)) : (setObj b ob).run P w = .ok () { w with heap := w.heap.setIfInBounds b ob } := by
  simp [setObj, Sem.run, h]

/-- a map's block is written -/
theorem Good.mapped {s : Sem Next} {b : Nat} {rf : Ref} {es es2 : List MapEntry} {c c2 : Nat} {es1 es' : Array MapEntry} {v u : Value} (hH : HR ρ H nx w.heap) (hb : getP H (at_ b) = some (.map es c)) (hs : ρ b = some rf) (he : w.heap[rf.blk]? = some (.map es1 c))
    (hr : ERs ρ es2 es'.toList) (hv : VR ρ v u) (hk : k v (insP (at_ b) H (some (.map es2 c2))) nx = some r)
    (hrun : s.run P w = .ok (.value u) { w with heap := w.heap.setIfInBounds rf.blk (.map es' c2) } ∨ (s.run P w = .ok .skip { w with heap := w.heap.setIfInBounds rf.blk (.map es' c2) } ∧ u = undef)) : Good P w ρ H nx r k s := by
  have hlt := (Array.getElem?_eq_some_iff.1 he).1
  refine ⟨v, _, nx, u, _, ρ, hk, hrun, hv, ?_, ⟨.refl ρ, fun j hj => .inl (Own.of_write hb hj), fun j hj hn => ?_, by simp, rfl, rfl, rfl⟩, Nat.le_refl _, fun _ _ => rfl⟩
  · refine hH.write hb hs (fun i hi => ?_) ⟨es', ?_, hr⟩
    · simp only
      rw [Array.getElem?_setIfInBounds, if_neg (fun e => hi e.symm)]
    · simp only
      rw [Array.getElem?_setIfInBounds, if_pos rfl, if_pos hlt]
  · have : rf.blk ≠ j := fun e => hn ⟨b, _, rf, hb, hs, e⟩
    simp only
    rw [Array.getElem?_setIfInBounds, if_neg this]

theorem stays_run {a b : Value} (h : Instr.sameBits 10000 a b = true) : (Instr.keyThatStays a b).run P w = .ok b w := by
  simp only [Instr.keyThatStays, h, if_true, Sem.run_pure]


theorem mapUpdate_sound {t : TypeId} {m q x : Operand} {a : AOp Operand} (ho : o.op = .mapUpdate t m q x ∨ o.op = .insert t m q x) (hc : compileOp P ins o = some a) (ha : a.all fun x => VR ρ (ρa x) (ρc x)) (hH : HR ρ H nx w.heap)
    (h : actT (a.map (Av ρa)) P T L H nx k = some r) : Good P w ρ H nx r k (execOp ρc o) := by
  have he : execOp ρc o = (do Instr.mapUpdate t (ρc m) (ρc q) (ρc x); pure .skip) := by rcases ho with ho | ho <;> simp only [execOp, ho]
  have hc' : ∃ kt e, P.underlying t = some (.map kt e) ∧ a = .mup m q x kt := by
    rcases ho with ho | ho
    all_goals
      simp only [compileOp, ho] at hc
      split at hc
      · rename_i kt e hu
        cases hc
        exact ⟨kt, e, hu, rfl⟩
      · cases hc
  obtain ⟨kt, e, hu, rfl⟩ := hc'
  obtain ⟨hm, hq, hx⟩ := ha
  have h' : mapK H (ρa m) (fun b es c => bd (findAt P false kt (ρa q) es) fun i => Option.rec (setP (at_ b) H (some (newEntry es c (ρa q) (ρa x))) fun H => k undef H nx) (fun i => setP (at_ b) H (some (.map (setVal es i (ρa x)) c)) fun H => k undef H nx) i) = some r := h
  obtain ⟨b, es, c, e1, hb, h1⟩ := mapK_some h'
  obtain ⟨i, hi, h2⟩ := bd_eq h1
  rw [e1] at hm
  generalize hmu : ρc m = mu at hm
  cases hm with
  | sc h => simp [scalar] at h
  | @map _ s hs =>
    obtain ⟨s', hs', es', hes, hr⟩ := hH.blk _ _ hb
    rw [hs] at hs'; cases hs'
    obtain ⟨hf, hck, hcase⟩ := findAt_sound (w := w) hi hr
    have hq' := hq.flat_eq hf
    rw [he]
    rcases hcase with ⟨rfl, hfk⟩ | ⟨j, e1, e2, rfl, g1, g2, g3, g4, g5, g6, g7, hfk⟩
    · have h3 : setP (at_ b) H (some (newEntry es c (ρa q) (ρa x))) (fun H => k undef H nx) = some r := h2
      rw [setP_eq] at h3
      refine .mapped (es' := es'.push { key := ρa q, val := ρc x, born := c }) (c2 := c + 1) hH hb hs hes ?_ (.tuple .nil) h3 (.inr ⟨?_, rfl⟩)
      · rw [Array.toList_push]
        exact hr.append (.cons (by rw [← hq'] at hq ⊢; rw [hq']; exact .of_flat hf) hx rfl .nil)
      · simp only [Instr.mapUpdate, Sem.run_bind, run_underlying hu, Result.andThen_ok, hmu, getObj_run w rfl hes, hq', hck, hfk, setObj_run _ hes, Sem.run_pure]
    · have h3 : setP (at_ b) H (some (.map (setVal es j (ρa x)) c)) (fun H => k undef H nx) = some r := h2
      rw [setP_eq] at h3
      have hget : es'[j]? = some e2 := by rw [← Array.getElem?_toList]; exact g2
      refine .mapped (es' := es'.modify j fun e => { e with key := ρa q, val := ρc x }) (c2 := c) hH hb hs hes ?_ (.tuple .nil) h3 (.inr ⟨?_, rfl⟩)
      · rw [Array.toList_modify]
        refine hr.set hx j fun e' he' => ⟨?_, rfl, rfl⟩
        rw [g2] at he'; cases he'
        exact g5.symm
      · simp only [Instr.mapUpdate, Sem.run_bind, run_underlying hu, Result.andThen_ok, hmu, getObj_run w rfl hes, hq', hck, hfk, hget, Option.map_some, Option.getD_some, stays_run g7, setObj_run _ hes, Sem.run_pure]

theorem mapEntry_sound {t : TypeId} {m q : Operand} {a : AOp Operand} (ho : o.op = .mapEntry t m q) (hc : compileOp P ins o = some a) (ha : a.all fun x => VR ρ (ρa x) (ρc x)) (hH : HR ρ H nx w.heap)
    (h : actT (a.map (Av ρa)) P T L H nx k = some r) : Good P w ρ H nx r k (execOp ρc o) := by
  have he : execOp ρc o = (do pure (.value (← Instr.mapEntry t (ρc m) (ρc q)))) := by simp only [execOp, ho]
  simp only [compileOp, ho] at hc
  split at hc
  · rename_i kt e hu
    simp only [Option.map_eq_some_iff] at hc
    obtain ⟨z, hz, rfl⟩ := hc
    obtain ⟨hz1, hz2⟩ := run_zero (w := w) hz
    obtain ⟨hm, hq⟩ := ha
    have h' : mapK H (ρa m) (fun b es c => bd (findAt P false kt (ρa q) es) fun i => Option.rec (setP (at_ b) H (some (newEntry es c (ρa q) z)) fun H => k (.tuple #[z, .int .i64 (.ofNat c)]) H nx)
      (fun i => bd (entryAt es i) fun e => k (.tuple #[e.val, .int .i64 (.ofNat e.born)]) H nx) i) = some r := h
    obtain ⟨b, es, c, e1, hb, h1⟩ := mapK_some h'
    obtain ⟨i, hi, h2⟩ := bd_eq h1
    rw [e1] at hm
    generalize hmu : ρc m = mu at hm
    cases hm with
    | sc h => simp [scalar] at h
    | @map _ s hs =>
      obtain ⟨s', hs', es', hes, hr⟩ := hH.blk _ _ hb
      rw [hs] at hs'; cases hs'
      obtain ⟨hf, hck, hcase⟩ := findAt_sound (w := w) hi hr
      have hq' := hq.flat_eq hf
      rw [he]
      rcases hcase with ⟨rfl, hfk⟩ | ⟨j, e1, e2, rfl, g1, g2, g3, g4, g5, g6, g7, hfk⟩
      · have h3 : setP (at_ b) H (some (newEntry es c (ρa q) z)) (fun H => k (.tuple #[z, .int .i64 (.ofNat c)]) H nx) = some r := h2
        rw [setP_eq] at h3
        refine .mapped (es' := es'.push { key := ρa q, val := z, born := c }) (c2 := c + 1) hH hb hs hes ?_ (.tuple (.cons (.of_const hz2) (.cons (.sc rfl) .nil))) h3 (.inl ?_)
        · rw [Array.toList_push]
          exact hr.append (.cons (.of_flat hf) (.of_const hz2) rfl .nil)
        · simp only [Instr.mapEntry, Sem.run_bind, run_underlying hu, Result.andThen_ok, hmu, getObj_run w rfl hes, hq', hck, hfk, hz1, setObj_run _ hes, Sem.run_pure]
          rfl
      · have h3 : bd (entryAt es j) (fun e => k (.tuple #[e.val, .int .i64 (.ofNat e.born)]) H nx) = some r := h2
        rw [entryAt_eq, g1] at h3
        have hget : es'[j]? = some e2 := by rw [← Array.getElem?_toList]; exact g2
        have hlt := (Array.getElem?_eq_some_iff.1 hes).1
        have hsame : es'.modify j (fun e => { e with key := ρa q }) = es' := by
          apply Array.ext'
          rw [Array.toList_modify]
          apply List.ext_getElem?
          intro i
          rw [List.getElem?_modify]
          by_cases hij : j = i
          · subst hij
            rw [g2]
            simp [← g5]
          · simp [hij]
        have hw : { w with heap := w.heap.setIfInBounds s.blk (.map es' c) } = w := by
          have : w.heap.setIfInBounds s.blk (.map es' c) = w.heap := by
            apply Array.ext_getElem?
            intro i
            rw [Array.getElem?_setIfInBounds]
            by_cases hij : s.blk = i
            · subst hij; rw [if_pos rfl, if_pos hlt, hes]
            · rw [if_neg hij]
          rw [this]
        refine .same hH (.tuple (.cons g3 (.cons (.sc rfl) .nil))) h3 ?_
        simp only [Instr.mapEntry, Sem.run_bind, run_underlying hu, Result.andThen_ok, hmu, getObj_run w rfl hes, hq', hck, hfk, hget, Option.map_some, Option.getD_some, stays_run g7, setObj_run _ hes, Sem.run_pure, hsame, hw, g4]
        rfl
  · cases hc

theorem bornAt_some : ∀ {es : List MapEntry} {b j i : Nat}, bornAt es b j = some i → ∃ q, i = j + q ∧ q < es.length ∧ (∀ e, es[q]? = some e → e.born = b) ∧ ∀ p, p < q → ∀ e, es[p]? = some e → e.born ≠ b := by
  intro es
  induction es with
  | nil => intro b j i h; cases h
  | cons e es ih =>
    intro b j i h
    unfold bornAt at h
    cases hb : Nat.beq e.born b with
    | true =>
      rw [hb] at h; cases h
      exact ⟨0, rfl, by simp, fun e' he => by simp at he; subst he; exact Nat.eq_of_beq_eq_true hb, fun p hp => by omega⟩
    | false =>
      rw [hb] at h
      obtain ⟨q, h1, h2, h3, h4⟩ := ih h
      refine ⟨q + 1, by omega, by simp; omega, fun e' he => h3 e' (by simpa using he), fun p hp e' he => ?_⟩
      cases p with
      | zero => simp at he; subst he; exact Nat.ne_of_beq_eq_false hb
      | succ p => exact h4 p (by omega) e' (by simpa using he)

theorem findIdx_born {es : Array MapEntry} {b q : Nat} (hq : q < es.size) (h1 : ∀ e, es[q]? = some e → e.born = b) (h2 : ∀ p, p < q → ∀ e, es[p]? = some e → e.born ≠ b) :
    es.findIdx? (fun e => (e.born : Int) == (b : Int)) = some q := by
  rw [Array.findIdx?_eq_some_iff_getElem]
  refine ⟨hq, ?_, fun j hj => ?_⟩
  · have := h1 es[q] (by simp [hq])
    simp [this]
  · have := h2 j hj es[j] (by simp)
    simpa using by omega

theorem entryStore_sound {t : TypeId} {m q x : Operand} {a : AOp Operand} (ho : o.op = .entryStore t m q x) (hc : compileOp P ins o = some a) (ha : a.all fun x => VR ρ (ρa x) (ρc x)) (hH : HR ρ H nx w.heap)
    (h : actT (a.map (Av ρa)) P T L H nx k = some r) : Good P w ρ H nx r k (execOp ρc o) := by
  have he : execOp ρc o = (do Instr.entryStore t (ρc m) (ρc q) (ρc x); pure .skip) := by simp only [execOp, ho]
  simp only [compileOp, ho] at hc
  cases hc
  obtain ⟨hm, hq, hx⟩ := ha
  have h' : onNat (ρa q) (fun b => mapK H (ρa m) fun r es c => bd (bornAt es b 0) fun i => setP (at_ r) H (some (.map (setVal es i (ρa x)) c)) fun H => k undef H nx) = some r := h
  obtain ⟨kq, n, e0, h0⟩ := onNat_some h'
  obtain ⟨b, es, c, e1, hb, h1⟩ := mapK_some h0
  obtain ⟨i, hi, h2⟩ := bd_eq h1
  rw [setP_eq] at h2
  rw [e1] at hm
  rw [e0] at hq
  have hq' := hq.int_inv
  generalize hmu : ρc m = mu at hm
  cases hm with
  | sc h => simp [scalar] at h
  | @map _ s hs =>
    obtain ⟨s', hs', es', hes, hr⟩ := hH.blk _ _ hb
    rw [hs] at hs'; cases hs'
    obtain ⟨j, g1, g2, g3, g4⟩ := bornAt_some hi
    have hij : i = j := by omega
    subst hij
    have hl := hr.length
    have hfi : es'.findIdx? (fun e => (e.born : Int) == (Int.ofNat n)) = some i := by
      refine findIdx_born (by simp at hl; omega) (fun e he => ?_) fun p hp e he => ?_
      · obtain ⟨e0, he0, _, _, hbn⟩ := hr.get (i := i) (e' := e) (by rw [Array.getElem?_toList]; exact he)
        rw [hbn]; exact g3 e0 he0
      · obtain ⟨e0, he0, _, _, hbn⟩ := hr.get (i := p) (e' := e) (by rw [Array.getElem?_toList]; exact he)
        rw [hbn]; exact g4 p hp e0 he0
    rw [he]
    refine .mapped (es' := es'.modify i fun e => { e with val := ρc x }) (c2 := c) hH hb hs hes ?_ (.tuple .nil) h2 (.inr ⟨?_, rfl⟩)
    · rw [Array.toList_modify]
      exact hr.set hx i fun e' he' => ⟨rfl, rfl, rfl⟩
    · simp only [Instr.entryStore, Sem.run_bind, Result.andThen_ok, hmu, getObj_run w rfl hes, hq', asInt_run, hfi, setObj_run _ hes, Sem.run_pure]
end Go.Eng
/- The engine: append. -/
namespace Go.Eng
variable {P : Program} {w : World} {ρ : Rho} {H : Heap} {nx : Nat} {r : Ex × St} {T : Tr Value} {L : List Value} {ρa ρc : Operand → Value} {o : Oper} {k : KA} {ins : List Nat}

theorem int_wrap {n : Nat} (h : n ≤ small) : IntKind.i64.wrap (Int.ofNat n) = (n : Int) := wrap_nat h

/-- what is appended, as the model reads it: another slice's first cells, or zeros -/
inductive Src (P : Program) (w : World) (e : TypeId) (z : Nat) (t2 : TypeId) : Value → Nat → List Value → Prop where
  | cells {e2 : TypeId} {b : Option Addr} {n c : Nat} {news : List Value} (ht : P.underlying t2 = some (.slice e2)) (hf : ∀ w' : World, w'.heap = w.heap → (Builtin.firstCells z n (.slice b n c)).run P w' = .ok ⟨news⟩ w') : Src P w e z t2 (.slice b n c) n news
  | zeros {ki kq : IntKind} {n : Nat} {i : TypeInfo} {zv : Value} (ht : P.underlying t2 = some (.int ki)) (hi : P.info? e = some i) (hz : i.zero = some zv) (hs : zv.cells.size = z) (h1 : n ≤ small) (h2 : n * i.bytes ≤ small) :
      Src P w e z t2 (.int kq (.ofNat n)) n (repeatN zv.cells.toList n)

theorem zeroCells_eq (zv : Value) (n : Nat) : Builtin.zeroCells zv.cells n = (repeatN zv.cells.toList n).toArray := by
  apply Array.ext'
  have h := rep_eq zv.cells.toList n
  simp only [Builtin.zeroCells, Array.toList_map, Array.toList_range]
  rw [← h]
  simp

variable {t t2 ty e : TypeId} {z : Nat} {i : TypeInfo}

theorem app_room {x : Value} {n : Nat} {news : List Value} {w' : World} {g p sLen sCap : Nat} (ht : P.underlying t = some (.slice e)) (hi : P.info? e = some i) (hz : i.size = z) (hx : Src P w e z t2 x n news) (hroom : sLen + n ≤ sCap)
    (hst : (storeCells ⟨g, p + sLen * z, none⟩ news).run P w = .ok () w') :
    (Builtin.append_ #[t, t2] ty #[.slice (some ⟨g, p, none⟩) sLen sCap, x]).run P w = .ok (.slice (some ⟨g, p, none⟩) (sLen + n) sCap) w' := by
  cases hx with
  | cells ht2 hf =>
    simp [Builtin.append_, run_underlying ht, run_underlying ht2, sizeOf, typeInfo, hi, hz, Builtin.lenOf, hroom, hf w rfl, Addr.add_lit, hst]
  | @zeros ki kq _ i' zv ht2 hi' hz' hs h1 h2 =>
    rw [hi] at hi'; cases hi'
    have hw : IntKind.i64.wrap (n : Int) = (n : Int) := wrap_nat h1
    have hsm : small = 1099511627776 := rfl
    have hb : ¬ ((281474976710656 : Int) < (n : Int) * (i.bytes : Int)) := by
      have : ((n * i.bytes : Nat) : Int) ≤ 1099511627776 := by rw [hsm] at h2; omega
      have h3 : (n : Int) * (i.bytes : Int) ≤ 1099511627776 := by simpa using this
      omega
    have hneg : ¬ ((n : Int) < 0) := by omega
    by_cases h0 : n * z = 0
    · have : repeatN zv.cells.toList n = [] := by
        apply List.eq_nil_of_length_eq_zero
        rw [repeatN_length]; simp [hs, h0]
      rw [this] at hst
      simp [Builtin.append_, run_underlying ht, run_underlying ht2, sizeOf, typeInfo, hi, hz, asInt_run, hw, hb, hneg, hroom, h0, Addr.add_lit, hst]
    · simp [Builtin.append_, run_underlying ht, run_underlying ht2, sizeOf, typeInfo, zeroValue, hi, hz, hz', asInt_run, hw, hb, hneg, hroom, h0, Addr.add_lit, zeroCells_eq, hst]

theorem app_none {x : Value} {news : List Value} {b : Option Addr} {sLen sCap : Nat} (ht : P.underlying t = some (.slice e)) (hi : P.info? e = some i) (hz : i.size = z) (hx : Src P w e z t2 x 0 news) (hn : news = []) (hroom : sLen ≤ sCap) :
    (Builtin.append_ #[t, t2] ty #[.slice b sLen sCap, x]).run P w = .ok (.slice b sLen sCap) w := by
  subst hn
  cases hx with
  | cells ht2 hf =>
    cases b <;> simp [Builtin.append_, run_underlying ht, run_underlying ht2, sizeOf, typeInfo, hi, hz, Builtin.lenOf, hroom, hf w rfl, storeCells, Sem.run_pure]
  | @zeros ki kq _ i' zv ht2 hi' hz' hs h1 h2 =>
    have hw : IntKind.i64.wrap (0 : Int) = (0 : Int) := rfl
    cases b <;> simp [Builtin.append_, run_underlying ht, run_underlying ht2, sizeOf, typeInfo, hi, hz, asInt_run, hw, hroom, storeCells, Sem.run_pure]

theorem app_grow {x : Value} {n : Nat} {news olds : List Value} {b : Option Addr} {sLen sCap : Nat} {zv : Value} (ht : P.underlying t = some (.slice e)) (hi : P.info? e = some i) (hz : i.size = z) (hzv : i.zero = some zv) (hx : Src P w e z t2 x n news)
    (ho : ∀ w' : World, w'.heap = w.heap → (Builtin.firstCells z sLen (.slice b sLen sCap)).run P w' = .ok ⟨olds⟩ w')
    (hg : sCap < sLen + n) (h63 : sLen + n ≤ small) (hby : (sLen + n) * i.bytes ≤ small) :
    (Builtin.append_ #[t, t2] ty #[.slice b sLen sCap, x]).run P w = .ok (.slice (some ⟨w.heap.size, 0, none⟩) (sLen + n) (grownCap w (sLen + n) sCap e))
      (w.drew.alloc (.cells (olds.toArray ++ news.toArray ++ Builtin.zeroCells zv.cells (grownCap w (sLen + n) sCap e - (sLen + n))) e)) := by
  have hsm : small = 1099511627776 := rfl
  rw [hsm] at h63 hby
  have hn : ¬ (sLen + n ≤ sCap) := by omega
  have h63' : ¬ (9223372036854775807 < ((sLen : Int) + (n : Int))) := by omega
  have hfit := growslice_fits (old := sCap) (need := sLen + n) (bytes := i.bytes) hg (by omega)
  have h48' : ¬ (281474976710656 < Builtin.nextslicecap (sLen + n) sCap * i.bytes) := by omega
  cases hx with
  | cells ht2 hf =>
    simp [Builtin.append_, run_underlying ht, run_underlying ht2, sizeOf, typeInfo, zeroValue, hi, hz, hzv, Builtin.lenOf, hn, h63', h48', Question.forced, hf w.drew rfl, ho w.drew rfl, newRow, grownCap]
    congr 2
    apply Array.ext'
    simp [List.append_assoc]
  | @zeros ki kq _ i' zv' ht2 hi' hz' hs h1 h2 =>
    rw [hi] at hi'; cases hi'
    rw [hzv] at hz'; cases hz'
    have hw : IntKind.i64.wrap (n : Int) = (n : Int) := wrap_nat h1
    have hb : ¬ ((281474976710656 : Int) < (n : Int) * (i.bytes : Int)) := by
      have : ((n * i.bytes : Nat) : Int) ≤ 1099511627776 := by rw [hsm] at h2; omega
      have h3 : (n : Int) * (i.bytes : Int) ≤ 1099511627776 := by simpa using this
      omega
    have hneg : ¬ ((n : Int) < 0) := by omega
    by_cases h0 : n * z = 0
    · have : repeatN zv.cells.toList n = [] := by
        apply List.eq_nil_of_length_eq_zero
        rw [repeatN_length]; simp [hs, h0]
      rw [this]
      simp [Builtin.append_, run_underlying ht, run_underlying ht2, sizeOf, typeInfo, zeroValue, hi, hz, hzv, asInt_run, hw, hb, hneg, hn, h63', h48', h0, Question.forced, ho w.drew rfl, newRow, grownCap]
    · simp [Builtin.append_, run_underlying ht, run_underlying ht2, sizeOf, typeInfo, zeroValue, hi, hz, hzv, asInt_run, hw, hb, hneg, hn, h63', h48', h0, Question.forced, ho w.drew rfl, zeroCells_eq, newRow, grownCap]
theorem appNew_some {bytes : Nat} {len n : Nat} {old new : List Value} (h : appNew z bytes H nx k len n old new = some r) :
    (len + n) * bytes ≤ small ∧ len + n ≤ small ∧ k (slTo nx z (len + n) (2 * (len + n))) (insP (at_ nx) H (some (.cells (old ++ new)))) (nx + 1) = some r := by
  unfold appNew at h
  obtain ⟨hc, h1⟩ := cond_some h
  simp only [Bool.and_eq_true] at hc
  rw [fresh_eq] at h1
  exact ⟨Nat.le_of_ble_eq_true hc.1, Nat.le_of_ble_eq_true hc.2, h1⟩

theorem slTo_VR {rf : Ref} {z len p c' : Nat} (h : len ≤ c' ∧ c' ≤ capMax) (hp : p = rf.sh ∧ p + c' * z ≤ rf.size) : VR (ρ.with nx rf) (slTo nx z len (2 * len)) (.slice (some ⟨rf.blk, p, none⟩) len c') := by
  have h1 := h.1
  refine .sl (Rho.with_self _ _ _) h ?_ (fun hx => ?_) (.inr ⟨by omega, hp.2⟩)
  · show 2 * len / 2 ≤ c'
    omega
  · rw [exact_iff] at hx
    omega

/-- append makes a new row -/
theorem grow_sound {bytes : Nat} {x : Value} {n len sCap : Nat} {b : Option Addr} {old new olds news : List Value} {zv : Value} (hH : HR ρ H nx w.heap) (ht : P.underlying t = some (.slice e)) (hi : P.info? e = some i) (hz : i.size = z) (hb : i.bytes = bytes) (hzv : i.zero = some zv) (hzs : zv.cells.size = z)
    (hx : Src P w e z t2 x n news) (ho : ∀ w' : World, w'.heap = w.heap → (Builtin.firstCells z len (.slice b len sCap)).run P w' = .ok ⟨olds⟩ w') (hro : VRs ρ old olds) (hrn : VRs ρ new news) (hol : old.length = len * z) (hnl : new.length = n * z) (hg : sCap < len + n)
    (h : appNew z bytes H nx k len n old new = some r) : Good P w ρ H nx r k (do pure (.value (← Builtin.append_ #[t, t2] ty #[.slice b len sCap, x]))) := by
  obtain ⟨h1, h2, hk⟩ := appNew_some h
  have hrun := app_grow (ty := ty) ht hi hz hzv hx ho hg h2 (by rw [hb]; exact h1)
  have hge := grownCap_ge w (len + n) sCap e
  have hmx : grownCap w (len + n) sCap e ≤ capMax := grownCap_le_maxLen w (len + n) sCap e (by unfold maxLen; unfold small at h2; omega)
  have hsz : (olds.toArray ++ news.toArray ++ Builtin.zeroCells zv.cells (grownCap w (len + n) sCap e - (len + n))).size = grownCap w (len + n) sCap e * z := by
    simp only [Array.size_append, List.size_toArray, size_zeroCells, hro.length, hrn.length, hol, hnl, hzs]
    rw [← Nat.add_mul, ← Nat.add_mul]
    congr 1
    omega
  refine .made (e := e) (w' := w.drew.alloc (.cells (olds.toArray ++ news.toArray ++ Builtin.zeroCells zv.cells (grownCap w (len + n) sCap e - (len + n))) e)) hH rfl rfl rfl rfl ?_ (slTo_VR (rf := ⟨w.heap.size, 0, _⟩) ⟨hge, hmx⟩ ⟨rfl, ?_⟩) hk ?_
  · intro j y hj
    obtain ⟨y', hy', hv⟩ := (hro.append hrn).get hj
    have hlt := (List.getElem?_eq_some_iff.1 hy').1
    refine ⟨y', ?_, hv⟩
    rw [Array.getElem?_append_left (by simpa using hlt)]
    simpa using hy'
  · rw [hsz]; simp
  · simp only [Sem.run_bind, hrun, Result.andThen_ok, Sem.run_pure]

/-- append writes behind what we know of the row: it is a new block to us -/
theorem inplace_sound {x : Value} {n off len c' bl : Nat} {s : Ref} {cs old new news : List Value} (hH : HR ρ H nx w.heap) (ht : P.underlying t = some (.slice e)) (hi : P.info? e = some i) (hz : i.size = z)
    (hb : getP H (at_ bl) = some (.cells cs)) (hs : ρ bl = some s) (hold : take? (len * z) (dropN cs off) = some old) (hx : Src P w e z t2 x n news) (hrn : VRs ρ new news) (hnl : new.length = n * z) (h1 : allOne new = true)
    (hroom : len + n ≤ c') (hcm : c' ≤ capMax) (hp : s.sh + off + c' * z ≤ s.size)
    (hk : k (slTo nx z (len + n) (2 * (len + n))) (insP (at_ nx) (insP (at_ bl) H none) (some (.cells (old ++ new)))) (nx + 1) = some r) :
    Good P w ρ H nx r k (do pure (.value (← Builtin.append_ #[t, t2] ty #[.slice (some ⟨s.blk, s.sh + off, none⟩) len c', x]))) := by
  obtain ⟨s', hs', a, et, ha, hsz, hcell⟩ := hH.blk bl _ hb
  rw [hs] at hs'; cases hs'
  obtain ⟨t1, t2'⟩ := take?_get hold
  have hnews := hrn.length
  have hmul : len * z + n * z ≤ c' * z := by rw [← Nat.add_mul]; exact Nat.mul_le_mul_right _ hroom
  have hst := run_storeCells_at P s.blk (s.sh + off + len * z) et news 0 a w ha (by simp; omega) (hrn.one h1)
  have hrun := app_room (ty := ty) ht hi hz hx hroom hst
  have hown : Own ρ H s.blk := ⟨bl, _, s, hb, hs, rfl⟩
  refine ⟨_, _, nx + 1, .slice (some ⟨s.blk, s.sh + off, none⟩) (len + n) c', w.setRow s.blk (a.toList.take (s.sh + off + len * z + 0) ++ news ++ a.toList.drop (s.sh + off + len * z + 0 + news.length)).toArray, ρ.with nx ⟨s.blk, s.sh + off, s.size⟩, hk, .inl (by simp only [Sem.run_bind, hrun, Result.andThen_ok, Sem.run_pure]), slTo_VR ⟨hroom, hcm⟩ ⟨rfl, hp⟩, ?_, ⟨hH.ext_with _, fun j hj => ?_, fun j hj hn => ?_, by simp, rfl, rfl, rfl⟩, Nat.le_succ _, fun b hb => Rho.with_ne _ _ (by omega)⟩
  · refine (hH.forget bl).make (r := ⟨s.blk, s.sh + off, s.size⟩) (fun b1 y s1 hb1 hs1 => ?_) ⟨_, et, setRow_heap w s.blk a _ et _ ha, ?_, fun j y hj => ?_⟩
    · have hne : b1 ≠ bl := by
        intro e'; subst e'
        rw [getP_insP] at hb1; cases hb1
      rw [getP_insP_ne _ _ _ _ (fun e' => hne (at_inj e'))] at hb1
      have hblk : s1.blk ≠ s.blk := fun e' => hne (hH.inj b1 bl y _ s1 s hb1 hb hs1 hs e')
      exact ⟨setRow_other w s.blk s1.blk _ hblk, hblk⟩
    · simp; omega
    · have ext := hH.ext_with ⟨s.blk, s.sh + off, s.size⟩
      simp only [Nat.add_zero, List.getElem?_toArray]
      by_cases c1 : j < len * z
      · rw [List.getElem?_append_left (by rw [t1]; exact c1), t2' j c1, dropN_eq, List.getElem?_drop] at hj
        obtain ⟨y', hy', hv⟩ := hcell _ _ hj
        refine ⟨y', ?_, hv.mono ext⟩
        have hlt := (Array.getElem?_eq_some_iff.1 hy').1
        rw [List.getElem?_append_left (by simp; omega), List.getElem?_append_left (by simp; omega), List.getElem?_take, if_pos (by omega)]
        rw [Array.getElem?_toList, ← hy']; congr 1; omega
      · have t1' : old.length = len * z := t1
        rw [List.getElem?_append_right (by omega)] at hj
        obtain ⟨y', hy', hv⟩ := hrn.get hj
        have hlt := (List.getElem?_eq_some_iff.1 hy').1
        refine ⟨y', ?_, hv.mono ext⟩
        rw [List.getElem?_append_left (by simp; omega), List.getElem?_append_right (by simp; omega)]
        simp only [List.length_take, Array.length_toList]
        rw [← hy']; congr 1; omega
  · rcases Own.of_make hj with h | h
    · have h' : j = s.blk := h
      subst h'
      exact .inl hown
    · exact .inl (Own.of_forget h)
  · exact setRow_other w s.blk j _ fun e' => hn (by rw [e']; exact hown)
end Go.Eng
/- The engine: append, joined; the calls of built-in functions. -/
namespace Go.Eng
variable {P : Program} {w : World} {ρ : Rho} {H : Heap} {nx : Nat} {r : Ex × St} {T : Tr Value} {L : List Value} {ρa ρc : Operand → Value} {o : Oper} {k : KA} {ins : List Nat}
variable {t t2 ty e : TypeId} {z : Nat} {i : TypeInfo}

theorem appSrc_sound {bytes : Nat} {zero : List Value} {zv : Value} {zeros : Bool} {x u : Value} {K : Nat → List Value → R0} (hi : P.info? e = some i) (hz : i.size = z) (hb : i.bytes = bytes) (hzv : i.zero = some zv) (hzero : zero = zv.cells.toList) (hzl : zero.length = z) (hzr : VRs ρ zero zero)
    (hty : (zeros = true ∧ ∃ ki, P.underlying t2 = some (.int ki)) ∨ (zeros = false ∧ ∃ e2, P.underlying t2 = some (.slice e2))) (hH : HR ρ H nx w.heap) (hv : VR ρ x u) (h : appSrc z bytes zero zeros H x K = some r) :
    ∃ n new news, K n new = some r ∧ new.length = n * z ∧ VRs ρ new news ∧ Src P w e z t2 u n news := by
  rcases hty with ⟨rfl, ki, ht⟩ | ⟨rfl, e2, ht⟩
  · have h' : onNat x (appZ bytes zero K) = some r := h
    obtain ⟨kq, n, rfl, h1⟩ := onNat_some h'
    obtain ⟨hc, h2⟩ := cond_some h1
    simp only [Bool.and_eq_true] at hc
    rw [hv.int_inv]
    refine ⟨n, repeatN zero n, repeatN zero n, h2, by rw [repeatN_length, hzl], hzr.rep n, ?_⟩
    rw [hzero]
    refine .zeros ht hi hzv ?_ (Nat.le_of_ble_eq_true hc.1) (by rw [hb]; exact Nat.le_of_ble_eq_true hc.2)
    rw [← hzl, hzero]; simp
  · have h' : srcK H z K x = some r := h
    obtain ⟨n, cs, h1, hl, ⟨base, len, c, rfl, hlen⟩, hfirst⟩ := src_sound (P := P) hH hv h'
    subst hlen
    obtain ⟨cs', hr, hrun⟩ := hfirst len (Nat.le_refl _)
    rw [List.take_of_length_le (by omega)] at hr
    exact ⟨len, cs, cs', h1, hl, hr, .cells ht hrun⟩

theorem append_sound {bytes : Nat} {zero : List Value} {zv : Value} {zeros : Bool} {s x u v : Value} (ht : P.underlying t = some (.slice e)) (hi : P.info? e = some i) (hz : i.size = z) (hb : i.bytes = bytes) (hzv : i.zero = some zv) (hzero : zero = zv.cells.toList) (hzl : zero.length = z) (hzr : VRs ρ zero zero)
    (hty : (zeros = true ∧ ∃ ki, P.underlying t2 = some (.int ki)) ∨ (zeros = false ∧ ∃ e2, P.underlying t2 = some (.slice e2))) (hH : HR ρ H nx w.heap) (hs : VR ρ s u) (hx : VR ρ x v)
    (h : appSrc z bytes zero zeros H x (appV z bytes H nx k s) = some r) : Good P w ρ H nx r k (do pure (.value (← Builtin.append_ #[t, t2] ty #[u, v]))) := by
  obtain ⟨n, new, news, h1, hnl, hrn, hsrc⟩ := appSrc_sound (w := w) hi hz hb hzv hzero hzl hzr hty hH hx h
  have hzs : zv.cells.size = z := by rw [← hzl, hzero]; simp
  have same : ∀ {b : Option Addr} {len cap : Nat}, n = 0 → u = .slice b len cap → len ≤ cap → k s H nx = some r → Good P w ρ H nx r k (do pure (.value (← Builtin.append_ #[t, t2] ty #[u, v]))) := by
    intro b len cap hn hu hle hk
    subst hn; subst hu
    have hnews : news = [] := by
      have := hrn.length
      apply List.eq_nil_of_length_eq_zero
      rw [this, hnl]; simp
    exact .same hH hs hk (by simp only [Sem.run_bind, app_none (ty := ty) ht hi hz hsrc hnews hle, Result.andThen_ok, Sem.run_pure])
  unfold appV at h1
  split at h1
  · cases hs with
    | sc h => simp [scalar] at h
    | snil =>
      cases hn : Nat.beq n 0 with
      | true =>
        rw [hn] at h1
        exact same (Nat.eq_of_beq_eq_true hn) rfl (Nat.le_refl _) h1
      | false =>
        rw [hn] at h1
        obtain ⟨_, h2⟩ := cond_some h1
        have hn' := Nat.ne_of_beq_eq_false hn
        exact grow_sound hH ht hi hz hb hzv hzs hsrc (olds := []) (old := []) (fun w' _ => by simp [Builtin.firstCells, Sem.run_pure]) .nil hrn (by simp) hnl (by omega) h2
  · rename_i b off z' len c
    obtain ⟨hc, h2⟩ := cond_some h1
    simp only [Bool.and_eq_true] at hc
    have hz' := Nat.eq_of_beq_eq_true hc.1
    subst hz'
    clear h1
    have h1c := hc.2.2
    cases hs with
    | sc h => simp [scalar] at h
    | @sl _ _ _ _ _ p c' rf hrf hl hsc he hp =>
      have hs : VR ρ (.slice (some ⟨b, off, some z⟩) len c) (.slice (some ⟨rf.blk, p, none⟩) len c') := .sl hrf hl hsc he hp
      cases hn : Nat.beq n 0 with
      | true =>
        rw [hn] at h2
        exact same (Nat.eq_of_beq_eq_true hn) rfl hl.1 h2
      | false =>
        rw [hn] at h2
        have hn' := Nat.ne_of_beq_eq_false hn
        cases hroom : Nat.ble (Nat.add len n) (sureCap c) with
        | true =>
          rw [hroom] at h2
          have hroom' : len + n ≤ sureCap c := Nat.le_of_ble_eq_true hroom
          have hp' : p = rf.sh + off ∧ p + c' * z ≤ rf.size := by
            rcases hp with h0 | h0
            · omega
            · exact h0
          have h3 : appIn z H nx k b off len c n new = some r := h2
          unfold appIn at h3
          obtain ⟨cs, hb', h4⟩ := cellsK_some h3
          obtain ⟨l, hov, h5⟩ := bd_eq h4
          rw [put1_eq] at h5
          have hov' : over cs (off + len * z) new = some l := hov
          obtain ⟨w', g1, g2, g3⟩ := store_sound (P := P) hH hb' hrf hov' hrn h1c
          have g1' : (storeCells ⟨rf.blk, p + len * z, none⟩ news).run P w = .ok () w' := by
            rw [hp'.1, Nat.add_assoc]; exact g1
          have hrun := app_room (ty := ty) ht hi hz hsrc (Nat.le_trans hroom' hsc) g1'
          refine ⟨_, _, nx, .slice (some ⟨rf.blk, p, none⟩) (len + n) c', w', ρ, h5, .inl (by simp only [Sem.run_bind, hrun, Result.andThen_ok, Sem.run_pure]), ?_, g2, g3, Nat.le_refl _, fun _ _ => rfl⟩
          exact .sl hrf ⟨(show len + n ≤ c' by omega), hl.2⟩ hsc he (.inr hp')
        | false =>
          rw [hroom] at h2
          have hnr : ¬ (len + n ≤ sureCap c) := fun hle => by
            have : Nat.ble (Nat.add len n) (sureCap c) = true := Nat.ble_eq_true_of_le hle
            rw [hroom] at this; cases this
          have h3 : appOff z bytes H nx k b off len c n new = some r := h2
          unfold appOff at h3
          obtain ⟨cs, hb', h4⟩ := cellsK_some h3
          obtain ⟨old, hold, h5⟩ := bd_eq h4
          have hold' : take? (len * z) (dropN cs off) = some old := hold
          obtain ⟨t1, t2'⟩ := take?_get hold'
          -- what is there already
          have hold2 : ∃ olds, VRs ρ old olds ∧ ∀ w' : World, w'.heap = w.heap → (Builtin.firstCells z len (.slice (some ⟨rf.blk, p, none⟩) len c')).run P w' = .ok ⟨olds⟩ w' := by
            have hsk : srcK H z (fun n1 cs1 => open Classical in if n1 = len ∧ cs1 = old then some r else none) (.slice (some ⟨b, off, some z⟩) len c) = some r := by
              unfold srcK
              have hzz : Nat.beq z z = true := by simp
              simp only [hzz, cond_true]
              cases h0 : Nat.beq len 0 with
              | true =>
                have := Nat.eq_of_beq_eq_true h0
                subst this
                have : old = [] := List.eq_nil_of_length_eq_zero (by rw [t1]; simp)
                subst this
                simp
              | false =>
                unfold cellsK onCells
                rw [hb']
                show bd (take? (Nat.mul len z) (dropN cs off)) (fun cs1 => open Classical in if len = len ∧ cs1 = old then some r else none) = some r
                have : take? (Nat.mul len z) (dropN cs off) = some old := hold
                rw [this]
                show (open Classical in if len = len ∧ old = old then some r else none) = some r
                simp
            obtain ⟨n1, cs1, q1, q2, _, q5⟩ := src_sound (P := P) hH hs hsk
            have q1' : n1 = len ∧ cs1 = old := by
              by_cases hq : n1 = len ∧ cs1 = old
              · exact hq
              · simp [hq] at q1
            obtain ⟨rfl, rfl⟩ := q1'
            obtain ⟨olds, g1, g2⟩ := q5 n1 (Nat.le_refl _)
            rw [List.take_of_length_le (by omega)] at g1
            exact ⟨olds, g1, g2⟩
          obtain ⟨olds, hro, ho⟩ := hold2
          cases hex : exact c with
          | true =>
            rw [hex] at h5
            have := he hex
            exact grow_sound hH ht hi hz hb hzv hzs hsrc ho hro hrn t1 hnl (by omega) h5
          | false =>
            rw [hex] at h5
            have h6 : appNew z bytes (insP (at_ b) H none) nx k len n old new = some r := by
              have h7 : setP (at_ b) H none (fun H => appNew z bytes H nx k len n old new) = some r := h5
              rwa [setP_eq] at h7
            by_cases hin : len + n ≤ c'
            · obtain ⟨_, _, hk⟩ := appNew_some h6
              have hp' : p = rf.sh + off ∧ p + c' * z ≤ rf.size := by
                rcases hp with h0 | h0
                · omega
                · exact h0
              rw [hp'.1]
              exact inplace_sound hH ht hi hz hb' hrf hold' hsrc hrn hnl h1c hin hl.2 (by rw [← hp'.1]; exact hp'.2) hk
            · exact (grow_sound (hH.forget b) ht hi hz hb hzv hzs hsrc ho hro hrn t1 hnl (by omega) h6).pre fun j hj => Own.of_forget hj
  · cases h1

theorem Good.congr {s s' : Sem Next} (e : s = s') (h : Good P w ρ H nx r k s') : Good P w ρ H nx r k s := e ▸ h

theorem len_ts {ts : Array TypeId} {u : Value} (h : ts[0]? = some t) : Builtin.len_ ts ty #[u] = Builtin.len_ #[t] ty #[u] := by
  simp [Builtin.len_, h]

theorem cap_ts {ts : Array TypeId} {u : Value} (h : ts[0]? = some t) : Builtin.cap_ ts ty #[u] = Builtin.cap_ #[t] ty #[u] := by
  simp [Builtin.cap_, h]

theorem builtin_op {b : Builtin} {d : Call} (ho : o.op = .call d) (hb : d.callee = .builtin b) : (execOp ρc o) = builtin b d.argTypes o.type (d.args.map fun | .const _ => true | _ => false) (d.args.map ρc) := by
  simp only [execOp, ho, resolve, hb]
  rfl

theorem args_eq {d : Call} {l : List Operand} (h : d.args.toList = l) : d.args.map ρc = (l.map ρc).toArray := by
  apply Array.ext'
  simp [h]

theorem ts_head {ts : Array TypeId} {l : List TypeId} (h : ts.toList = t :: l) : ts[0]? = some t := by
  rw [← Array.getElem?_toList, h]; rfl

theorem ts_two {ts : Array TypeId} (h : ts.toList = [t, t2]) : ts = #[t, t2] := by
  apply Array.ext'; rw [h]

theorem bytes_of {e : TypeId} {z n : Nat} {zero : List Value} (hz : sizeAt P e = some z) (hb : bytesAt P e = some n) (hzc : zeroCells P e = some zero) : ∃ i zv, P.info? e = some i ∧ i.size = z ∧ i.bytes = n ∧ i.zero = some zv ∧ zero = zv.cells.toList := by
  unfold sizeAt at hz
  unfold bytesAt at hb
  obtain ⟨zv, h1, h2⟩ := zeroCells_some hzc
  unfold zeroVal at h1
  cases hi : P.info? e with
  | none => rw [hi] at hz; cases hz
  | some i =>
    rw [hi] at hz hb h1
    simp at hz hb
    simp only at h1
    cases hzz : i.zero with
    | none => rw [hzz] at h1; cases h1
    | some zv' =>
      rw [hzz] at h1
      simp only at h1
      cases hc : constOk zv' with
      | false => rw [hc] at h1; cases h1
      | true =>
        rw [hc] at h1
        cases h1
        exact ⟨i, zv, rfl, hz, hb, hzz, h2⟩

theorem builtin_sound {b : Builtin} {d : Call} {a : AOp Operand} (ho : o.op = .call d) (hb : d.callee = .builtin b) (hr : b ≠ .recover) (hc : compileOp P ins o = some a) (ha : a.all fun x => VR ρ (ρa x) (ρc x)) (hH : HR ρ H nx w.heap)
    (h : actT (a.map (Av ρa)) P T L H nx k = some r) : Good P w ρ H nx r k (execOp ρc o) := by
  rw [builtin_op ho hb]
  simp only [compileOp, ho, hb] at hc
  unfold compileBuiltin at hc
  split at hc
  · -- append
    rename_i t t2 s x hts hargs
    rw [args_eq hargs, ts_two hts]
    split at hc
    · rename_i e hu
      have key : ∀ zeros z n zero, sizeAt P e = some z → bytesAt P e = some n → zeroCells P e = some zero → Nat.beq zero.length z = true → ((zeros = true ∧ ∃ ki, P.underlying t2 = some (.int ki)) ∨ (zeros = false ∧ ∃ e2, P.underlying t2 = some (.slice e2))) →
          a = .app z n zero s x zeros → Good P w ρ H nx r k (builtin .append #[t, t2] o.type (d.args.map fun | .const _ => true | _ => false) ([s, x].map ρc).toArray) := by
        intro zeros z n zero hz hn hzc hl hty e
        subst e
        obtain ⟨i, zv, g1, g2, g3, g4, g5⟩ := bytes_of hz hn hzc
        obtain ⟨zv', q1, q2⟩ := zeroCells_some hzc
        have hzr := (zeroCells_of (ρ := ρ) hzc q1).2
        exact append_sound hu g1 g2 g3 g4 g5 (Nat.eq_of_beq_eq_true hl) hzr hty hH ha.1 ha.2 h
      split at hc
      · rename_i z n zero ki hz hn hzc ht2
        cases hl : Nat.beq zero.length z with
        | false => rw [hl] at hc; cases hc
        | true => rw [hl] at hc; cases hc; exact key true z n zero hz hn hzc hl (.inl ⟨rfl, ki, ht2⟩) rfl
      · rename_i z n zero e2 hz hn hzc ht2
        cases hl : Nat.beq zero.length z with
        | false => rw [hl] at hc; cases hc
        | true => rw [hl] at hc; cases hc; exact key false z n zero hz hn hzc hl (.inr ⟨rfl, e2, ht2⟩) rfl
      · cases hc
    · cases hc
  · -- len
    rename_i t l x hts hargs
    rw [args_eq hargs]
    have hl : ∀ u : Value, Builtin.len_ d.argTypes o.type #[u] = Builtin.len_ #[t] o.type #[u] := fun u => len_ts (ts_head hts)
    split at hc
    · rename_i e hu
      cases hc
      exact .look (s := Builtin.len_ #[t] o.type #[ρc x]) (by rw [← hl]; rfl) hH (len_sound hu ha (show lenV (ρa x) (fun v => k v H nx) = some r from h))
    · rename_i hu
      cases hc
      exact .look (s := Builtin.len_ #[t] o.type #[ρc x]) (by rw [← hl]; rfl) hH (sln_sound hu ha (show slnV (ρa x) (fun v => k v H nx) = some r from h))
    · rename_i kt e hu
      cases hc
      exact .look (s := Builtin.len_ #[t] o.type #[ρc x]) (by rw [← hl]; rfl) hH (mln_sound hu hH ha (show mlnV H (ρa x) (fun v => k v H nx) = some r from h))
    · cases hc
  · -- cap
    rename_i t l x hts hargs
    rw [args_eq hargs]
    split at hc
    · rename_i e hu
      cases hc
      exact .look (s := Builtin.cap_ #[t] o.type #[ρc x]) (by rw [← cap_ts (ts_head hts)]; rfl) hH (cap_sound hu ha (show capV (ρa x) (fun v => k v H nx) = some r from h))
    · cases hc
  · -- copy
    rename_i t l x y hts hargs
    rw [args_eq hargs]
    split at hc
    · rename_i e hu
      split at hc
      · rename_i z hz
        cases hc
        exact copy_sound (ts := t) (ts_head hts) hu hz hH ha.1 ha.2 h
      · cases hc
    · cases hc
  · -- min
    cases hc
    have h' : evsK T L ((d.args.toList.map ρa).map Od.cst) (fun vs => bd (flatly P vs (Builtin.min_ #[] 0 vs.toArray)) fun v => k v H nx) = some r := by
      rw [List.map_map]; exact h
    rw [evsK_cst] at h'
    obtain ⟨e1, x, g1, g2, g3⟩ := flatly_sound (w := w) (.map fun x hx => ha x hx) h'
    refine .look (s := Builtin.min_ #[] 0 (d.args.toList.map ρc).toArray) (by rw [← args_eq rfl]; rfl) hH ⟨x, x, g1, ?_, g3⟩
    rw [e1]; exact g2
  · -- max
    cases hc
    have h' : evsK T L ((d.args.toList.map ρa).map Od.cst) (fun vs => bd (flatly P vs (Builtin.max_ #[] 0 vs.toArray)) fun v => k v H nx) = some r := by
      rw [List.map_map]; exact h
    rw [evsK_cst] at h'
    obtain ⟨e1, x, g1, g2, g3⟩ := flatly_sound (w := w) (.map fun x hx => ha x hx) h'
    refine .look (s := Builtin.max_ #[] 0 (d.args.toList.map ρc).toArray) (by rw [← args_eq rfl]; rfl) hH ⟨x, x, g1, ?_, g3⟩
    rw [e1]; exact g2
  · exact absurd rfl hr
  · cases hc
end Go.Eng
/- The engine: every operation but calls. -/
namespace Go.Eng
variable {P : Program} {w : World} {ρ : Rho} {H : Heap} {nx : Nat} {r : Ex × St} {T : Tr Value} {L : List Value} {ρa ρc : Operand → Value} {o : Oper} {k : KA} {ins : List Nat}

/-- no call, defer, panic, recover, and no 'insert' -/
def AOp.plain {α : Type} : AOp α → Bool
  | .call _ _ | .inv _ _ _ | .dfr _ _ | .pan _ | .rcv | .ins _ _ _ _ _ => false
  | _ => true

theorem act_sound {a : AOp Operand} (hc : compileOp P ins o = some a) (hp : a.plain = true) (ha : a.all fun x => VR ρ (ρa x) (ρc x)) (hH : HR ρ H nx w.heap)
    (h : actT (a.map (Av ρa)) P T L H nx k = some r) : Good P w ρ H nx r k (execOp ρc o) := by
  cases ho : o.op with
  | move x => exact move_sound (.inl ho) hc ha hH h
  | assign x => exact move_sound (.inr ho) hc ha hH h
  | pick c x y => exact pick_sound ho hc ha hH h
  | alloc t => exact alloc_sound ho hc hH h
  | box t x => exact box_sound ho hc ha hH h
  | build t xs => exact build_sound ho hc ha hH h
  | buildSlice t n xs => exact buildSlice_sound ho hc ha hH h
  | load t x => exact load_sound' ho hc ha hH h
  | store t x v => exact storeAt_sound ho hc ha hH h
  | nilCheck x => exact nilCheck_sound ho hc ha hH h
  | binOp op t x y q => exact binOp_sound (b := true) ⟨q, ho⟩ hc ha hH h
  | unOp op t x => exact unOp_sound ho hc ha hH h
  | convert s d x => exact convert_sound ho hc ha hH h
  | makeInterface t x => exact makeInterface_sound ho hc ha hH h
  | makeFunc fn xs ys => exact makeFunc_sound ho hc ha hH h
  | makeMap t x => exact makeMap_sound ho hc ha hH h
  | makeSlice t x y => exact makeSlice_sound ho hc ha hH h
  | slice t x lo hi mx => exact slice_sound ho hc ha hH h
  | fieldAddr s x f => exact fieldAddr_sound ho hc ha hH h
  | field s x f => exact field_sound ho hc ha hH h
  | indexAddr t x i => exact indexAddr_sound ho hc ha hH h
  | index t x i => exact index_sound ho hc ha hH h
  | lookup t x i ok => exact lookup_sound ho hc ha hH h
  | mapUpdate t m q x => exact mapUpdate_sound (.inl ho) hc ha hH h
  | insert t m q x => exact mapUpdate_sound (.inr ho) hc ha hH h
  | mapEntry t m q => exact mapEntry_sound ho hc ha hH h
  | entryStore t m q x => exact entryStore_sound ho hc ha hH h
  | typeAssert x xt t ok => exact typeAssert_sound ho hc ha hH h
  | extract x i => exact extract_sound ho hc ha hH h
  | call d =>
    cases hb : d.callee with
    | builtin b =>
      by_cases hr : b = .recover
      · subst hr
        simp only [compileOp, ho, hb] at hc
        cases hl : d.args.toList with
        | nil =>
          have : a = .rcv := by
            unfold compileBuiltin at hc
            rw [hl] at hc
            cases hts : d.argTypes.toList with
            | nil => rw [hts] at hc; cases hc; rfl
            | cons t l => rw [hts] at hc; cases l <;> (cases hc; rfl)
          subst this
          simp [AOp.plain] at hp
        | cons x l =>
          exfalso
          unfold compileBuiltin at hc
          rw [hl] at hc
          cases hts : d.argTypes.toList with
          | nil => rw [hts] at hc; cases hc
          | cons t l' => rw [hts] at hc; cases l' <;> cases hc
      · exact builtin_sound ho hb hr hc ha hH h
    | value f =>
      exfalso
      cases f with
      | func g =>
        simp only [compileOp, ho, hb] at hc
        cases hg : isIn ins g with
        | true =>
          rw [hg] at hc
          simp only [cond_true] at hc
          split at hc
          · split at hc
            · split at hc
              · cases hc; simp [AOp.plain] at hp
              · cases hc
            · cases hc
          · cases hc
        | false => rw [hg] at hc; cases hc; simp [AOp.plain] at hp
      | _ => simp only [compileOp, ho, hb] at hc; cases hc; simp [AOp.plain] at hp
    | invoke x name =>
      simp only [compileOp, ho, hb] at hc
      cases hc; simp [AOp.plain] at hp
  | defer d =>
    simp only [compileOp, ho] at hc
    split at hc
    · cases hc; simp [AOp.plain] at hp
    · cases hc
  | panic x => simp only [compileOp, ho] at hc; cases hc; simp [AOp.plain] at hp
  | _ => simp only [compileOp, ho] at hc; cases hc
end Go.Eng
/- The engine: what is known of the slots. -/
namespace Go.Eng
variable {P : Program} {ρ : Rho} {T : Tr Value} {L : List Value} {kept : List Nat} {n : Nat} {env : Env} {a : Act}

/-- the slots' values, as the engine has them -/
structure EnvR (ρ : Rho) (kept : List Nat) (n : Nat) (env : Env) (T : Tr Value) (L : List Value) (a : Act) : Prop where
  size : n ≤ a.tmps.size
  env : ∀ t od, find env t = some od → VR ρ ((valO T L od).getD undef) (a.tmps.getD t undef)
  kept : ∀ t, isIn kept t = true → VR ρ ((getP T (slotPath t)).getD undef) (a.tmps.getD t undef)

theorem VR.undef : VR ρ undef undef := .tuple .nil

theorem EnvR.mono {ρ' : Rho} (e : Ext ρ ρ') (h : EnvR ρ kept n env T L a) : EnvR ρ' kept n env T L a :=
  ⟨h.size, fun t od ht => (h.env t od ht).mono e, fun t ht => (h.kept t ht).mono e⟩

theorem cv_sound (h : EnvR ρ kept n env T L a) {x : Operand} {od : Od} (hc : cv kept n env x = some od) : VR ρ ((valO T L od).getD undef) (a.eval x) := by
  cases x with
  | tmp t =>
    simp only [cv] at hc
    cases hb : Nat.blt t n with
    | false => rw [hb] at hc; cases hc
    | true =>
      rw [hb] at hc
      simp only [cond_true] at hc
      cases hf : find env t with
      | some y => rw [hf] at hc; cases hc; exact h.env t _ hf
      | none =>
        rw [hf] at hc
        cases hk : isIn kept t with
        | false => rw [hk] at hc; cases hc
        | true => rw [hk] at hc; cases hc; exact h.kept t hk
  | const v =>
    simp only [cv] at hc
    cases hk : constOk v with
    | false => rw [hk] at hc; cases hc
    | true => rw [hk] at hc; cases hc; exact .of_const hk
  | func f => cases hc; exact .func .nil .nil
  | global g => cases hc

theorem isVar_iff {p : List Bool} {od : Od} : isVar p od = true ↔ od = .var p := by
  have same : ∀ p q : List Bool, samePath p q = true ↔ p = q := by
    intro p
    induction p with
    | nil => intro q; cases q <;> simp [samePath]
    | cons b p ih => intro q; cases q with
      | nil => cases b <;> simp [samePath]
      | cons c q => cases b <;> cases c <;> simp [samePath, ih]
  cases od with
  | var q =>
    unfold isVar
    rw [same]
    constructor
    · intro h; rw [h]
    · intro h; cases h; rfl
  | _ => simp [isVar]

theorem valO_shift (v : Value) (od : Od) : valO T (v :: L) (shift od) = valO T L od := by
  cases od <;> rfl

theorem find_shift : ∀ (env : Env) (t : Nat), find (shiftAll env) t = (find env t).map shift := by
  intro env
  induction env with
  | nil => intro t; rfl
  | cons p env ih =>
    intro t
    obtain ⟨u, x⟩ := p
    show (bif Nat.beq u t then some (shift x) else find (shiftAll env) t) = Option.map shift (bif Nat.beq u t then some x else find env t)
    cases Nat.beq u t with
    | true => rfl
    | false => exact ih t

theorem find_without : ∀ (env : Env) (d t : Nat), find (without env d) t = if t = d then none else find env t := by
  intro env
  induction env with
  | nil => intro d t; simp [without, find]
  | cons p env ih =>
    intro d t
    obtain ⟨u, x⟩ := p
    have ih' := ih d t
    unfold without at ih' ⊢
    rw [List.filter_cons]
    by_cases hu : u = d
    · subst hu
      simp only [Nat.beq_refl, Bool.not_true, Bool.false_eq_true, if_false]
      rw [ih']
      by_cases ht : t = u
      · simp [ht]
      · rw [if_neg ht, if_neg ht]
        show find env t = (bif Nat.beq u t then some x else find env t)
        have : Nat.beq u t = false := by
          cases hb : Nat.beq u t with
          | false => rfl
          | true => exact absurd (Nat.eq_of_beq_eq_true hb).symm ht
        rw [this]; rfl
    · have hb : (!(Nat.beq u d)) = true := by
        cases hb : Nat.beq u d with
        | false => rfl
        | true => exact absurd (Nat.eq_of_beq_eq_true hb) hu
      simp only [hb, if_true]
      show (bif Nat.beq u t then some x else find (env.filter fun p => !(Nat.beq p.1 d)) t) = if t = d then none else (bif Nat.beq u t then some x else find env t)
      cases hut : Nat.beq u t with
      | true =>
        have := Nat.eq_of_beq_eq_true hut
        subst this
        rw [if_neg hu]; rfl
      | false => exact ih'

/-- an operation's value is put away -/
theorem EnvR.put {v u : Value} {d : Nat} {keep : Option (List Bool)} {T' : Tr Value} (h : EnvR ρ kept n env T L a) (hv : VR ρ v u) (hd : d < n)
    (hT : (keep = none ∧ T' = T ∧ isIn kept d = false) ∨ (∃ p, keep = some p ∧ p = slotPath d ∧ T' = insP p T (some v) ∧ (shiftAll env).any (fun e => isVar p e.2) = false)) :
    EnvR ρ kept n ((d, .loc 0) :: without (shiftAll env) d) T' (v :: L) (a.put (some d) u) := by
  have hget : ∀ t, (a.put (some d) u).tmps.getD t undef = if t = d then u else a.tmps.getD t undef := by
    intro t
    have hds : d < a.tmps.size := Nat.lt_of_lt_of_le hd h.size
    show (a.tmps.setIfInBounds d u).getD t undef = _
    simp only [Array.getD_eq_getD_getElem?, Array.getElem?_setIfInBounds]
    by_cases ht : d = t
    · subst ht; simp [hds]
    · rw [if_neg ht, if_neg (fun e => ht e.symm)]
  refine ⟨by show n ≤ (a.tmps.setIfInBounds d u).size; simpa using h.size, fun t od ht => ?_, fun t ht => ?_⟩
  · rw [hget]
    by_cases htd : t = d
    · subst htd
      have : od = .loc 0 := by
        unfold find at ht
        simp at ht
        exact ht.symm
      subst this
      rw [if_pos rfl]
      exact hv
    · rw [if_neg htd]
      have hf : find (without (shiftAll env) d) t = some od := by
        have hb : Nat.beq d t = false := by
          cases hb : Nat.beq d t with
          | false => rfl
          | true => exact absurd (Nat.eq_of_beq_eq_true hb).symm htd
        simp only [find] at ht
        rw [hb] at ht
        exact ht
      rw [find_without, if_neg htd, find_shift] at hf
      cases he : find env t with
      | none => rw [he] at hf; cases hf
      | some x =>
        rw [he] at hf
        cases hf
        have h0 := h.env t x he
        have hval : valO T' (v :: L) (shift x) = valO T (v :: L) (shift x) := by
          rcases hT with ⟨_, rfl, _⟩ | ⟨p, _, _, rfl, hany⟩
          · rfl
          · cases x with
            | var q =>
              have hne : q ≠ p := by
                intro e; subst e
                have hmem : ∀ (env : Env) (t : Nat) (x : Od), find env t = some x → (t, x) ∈ env := by
                  intro env
                  induction env with
                  | nil => intro t x hx; cases hx
                  | cons y env ih =>
                    intro t x hx
                    obtain ⟨a, b⟩ := y
                    unfold find at hx
                    cases hb : Nat.beq a t with
                    | true =>
                      rw [hb] at hx; cases hx
                      have := Nat.eq_of_beq_eq_true hb
                      subst this
                      exact List.mem_cons_self
                    | false => rw [hb] at hx; exact List.mem_cons_of_mem _ (ih t x hx)
                have h1 := hmem _ _ _ he
                have h2 : (t, shift (.var q)) ∈ shiftAll env := List.mem_map.2 ⟨_, h1, rfl⟩
                have h3 := List.any_eq_false.1 hany _ h2
                exact h3 (isVar_iff.2 rfl)
              show getP (insP p T (some v)) q = getP T q
              exact getP_insP_ne _ _ _ _ hne
            | _ => rfl
        rw [hval, valO_shift]
        exact h0
  · rw [hget]
    rcases hT with ⟨_, rfl, hk⟩ | ⟨p, _, rfl, rfl, _⟩
    · have : t ≠ d := by intro e; subst e; rw [hk] at ht; cases ht
      rw [if_neg this]
      exact h.kept t ht
    · by_cases htd : t = d
      · subst htd
        rw [if_pos rfl, getP_insP]
        exact hv
      · rw [if_neg htd, getP_insP_ne _ _ _ _ (by rw [slotPath_eq, slotPath_eq]; exact fun e => htd (at_inj e))]
        exact h.kept t ht
end Go.Eng
/- The engine: what it means that a run is right. -/
namespace Go.Eng

inductive ChRs (ρ : Rho) : List PanicEntry → List PanicEntry → Prop
  | nil : ChRs ρ [] []
  | cons {e e' : PanicEntry} {l l' : List PanicEntry} (hv : VR ρ e.v e'.v) (hr : e'.recovered = e.recovered) (hg : e'.goexit = e.goexit) (h : ChRs ρ l l') : ChRs ρ (e :: l) (e' :: l')

theorem ChRs.mono {ρ ρ' : Rho} (e : Ext ρ ρ') {l l' : List PanicEntry} (h : ChRs ρ l l') : ChRs ρ' l l' := by
  induction h with
  | nil => exact .nil
  | cons hv hr hg _ ih => exact .cons (hv.mono e) hr hg ih

/-- a deferred call -/
def DfR (ρ : Rho) (x : Dfd) (d : Deferred) : Prop :=
  ∃ f a a' c c' vs, x.1 = .func (.func f) ⟨a⟩ ⟨c⟩ ∧ d = { target := .fn (.func f) ⟨c'⟩, args := ⟨a' ++ vs⟩ } ∧ VRs ρ a a' ∧ VRs ρ c c' ∧ VRs ρ x.2 vs

inductive DfRs (ρ : Rho) : List Dfd → List Deferred → Prop
  | nil : DfRs ρ [] []
  | cons {x : Dfd} {d : Deferred} {l : List Dfd} {l' : List Deferred} (hx : DfR ρ x d) (h : DfRs ρ l l') : DfRs ρ (x :: l) (d :: l')

theorem DfR.mono {ρ ρ' : Rho} (e : Ext ρ ρ') {x : Dfd} {d : Deferred} (h : DfR ρ x d) : DfR ρ' x d := by
  obtain ⟨f, a, a', c, c', vs, h1, h2, h3, h4, h5⟩ := h
  exact ⟨f, a, a', c, c', vs, h1, h2, h3.mono e, h4.mono e, h5.mono e⟩

theorem DfRs.mono {ρ ρ' : Rho} (e : Ext ρ ρ') {l : List Dfd} {l' : List Deferred} (h : DfRs ρ l l') : DfRs ρ' l l' := by
  induction h with
  | nil => exact .nil
  | cons hx _ ih => exact .cons (hx.mono e) ih

/-- from one state to another, with the numbers of the blocks that were made -/
structure Went (ρ : Rho) (H : Heap) (nx : Nat) (w : World) (ρ' : Rho) (H' : Heap) (nx' : Nat) (w' : World) : Prop where
  hr : HR ρ' H' nx' w'.heap
  stp : Stp ρ H w ρ' H' w'
  le : nx ≤ nx'
  low : ∀ b, b < nx → ρ' b = ρ b

theorem Went.refl {ρ : Rho} {H : Heap} {nx : Nat} {w : World} (h : HR ρ H nx w.heap) : Went ρ H nx w ρ H nx w := ⟨h, .refl ρ H w, Nat.le_refl _, fun _ _ => rfl⟩

theorem Went.trans {ρ ρ1 ρ2 : Rho} {H H1 H2 : Heap} {nx nx1 nx2 : Nat} {w w1 w2 : World} (h : Went ρ H nx w ρ1 H1 nx1 w1) (h' : Went ρ1 H1 nx1 w1 ρ2 H2 nx2 w2) : Went ρ H nx w ρ2 H2 nx2 w2 :=
  ⟨h'.hr, h.stp.trans h'.stp, Nat.le_trans h.le h'.le, fun b hb => (h'.low b (Nat.lt_of_lt_of_le hb h.le)).trans (h.low b hb)⟩

/-- how a call ends -/
def RetR (ρ : Rho) (H : Heap) (nx : Nat) (w : World) (c : CRet) (e : Ending) (w' : World) : Prop := match c with
  | .ok v H' nx' => ∃ u ρ', e = .returned u ∧ VR ρ' v u ∧ Went ρ H nx w ρ' H' nx' w'
  | .pan ch H' nx' => ∃ ch' ρ', e = .panicked ch' ∧ ChRs ρ' ch ch' ∧ Went ρ H nx w ρ' H' nx' w'

/-- a function that is entered when it is called -/
def Entered (P : Program) (g : FuncId) : Prop := ∃ fn, P.funcs[g]? = some fn ∧ fn.body.isNone = false ∧ (fn.name == "runtime.NumGoroutine") = false

theorem Entered.run {P : Program} {g : FuncId} {w : World} {args : Array Value} (h : Entered P g) : (callFunc g args).run P w = .ok (.enter g args) w := by
  obtain ⟨fn, h1, h2, h3⟩ := h
  have hp : (program).run P w = .ok P w := rfl
  simp only [callFunc, Sem.run_bind, hp, Result.andThen_ok, h1, h2, h3, Bool.false_eq_true, if_false, Sem.run_pure]

def CallOk (P : Program) (r : Run) : Prop := ∀ g vs H nx c, r.call g vs H nx = some c → Entered P g ∧ ∀ ρ us w, VRs ρ vs us → HR ρ H nx w.heap → Calls P g ⟨us⟩ w (RetR ρ H nx w c)

def ExR (ρ : Rho) : Ex → Exit → Prop
  | .normal, .normal => True
  | .exit i, .exit j => i = j
  | .ret, .ret => True
  | .panic ch, .panic ch' => ChRs ρ ch ch'
  | _, _ => False

/-- a function's slots and what it has deferred -/
structure ActR (ρ : Rho) (kept : List Nat) (n : Nat) (T : Tr Value) (D : List Dfd) (a : Act) : Prop where
  env : EnvR ρ kept n [] T [] a
  dfr : DfRs ρ D a.defers

def OutR (ρ : Rho) (H : Heap) (nx : Nat) (w : World) (kept : List Nat) (n : Nat) (o : Ex × St) (e : Exit) (a' : Act) (w' : World) : Prop :=
  ∃ ρ', Went ρ H nx w ρ' o.2.H o.2.nx w' ∧ ActR ρ' kept n o.2.T o.2.D a' ∧ ExR ρ' o.1 e

def CodeOk (P : Program) (ins kept : List Nat) (n : Nat) (f : RC) (c : Code) : Prop :=
  ∀ T D H nx o, f T D H nx = some o → ∀ ρ a w, HR ρ H nx w.heap → ActR ρ kept n T D a → c.wp P (OutR ρ H nx w kept n o) a w
end Go.Eng
/- The engine: code. -/
namespace Go.Eng
variable {P : Program} {ins kept : List Nat} {n : Nat}

theorem OutR.trans {ρ ρ1 : Rho} {H H1 : Heap} {nx nx1 : Nat} {w w1 : World} {o : Ex × St} {e : Exit} {a' : Act} {w' : World} (h : Went ρ H nx w ρ1 H1 nx1 w1) (h' : OutR ρ1 H1 nx1 w1 kept n o e a' w') : OutR ρ H nx w kept n o e a' w' := by
  obtain ⟨ρ', h1, h2, h3⟩ := h'
  exact ⟨ρ', h.trans h1, h2, h3⟩

theorem skip_ok : CodeOk P ins kept n cSkip .skip := by
  intro T D H nx o h ρ a w hH ha
  cases h
  exact wp_skip ⟨ρ, .refl hH, ha, trivial⟩

theorem exit_ok {id : Nat} : CodeOk P ins kept n (cExit id) (.exit id) := by
  intro T D H nx o h ρ a w hH ha
  cases h
  exact wp_exit ⟨ρ, .refl hH, ha, rfl⟩

theorem ret_ok : CodeOk P ins kept n cRet .ret := by
  intro T D H nx o h ρ a w hH ha
  cases h
  exact wp_ret ⟨ρ, .refl hH, ha, trivial⟩

/-- what comes after a part that ended as 'o1' says -/
theorem seq_after {k : RC} {Q : Exit → Act → World → Prop} {o1 o : Ex × St} {ρ : Rho} {H : Heap} {nx : Nat} {w : World} {N : Act → World → Prop} (h : seqK k o1 = some o)
    (hk : ∀ st : St, k st.T st.D st.H st.nx = some o → ∀ ρ1 a1 w1, Went ρ H nx w ρ1 st.H st.nx w1 → ActR ρ1 kept n st.T st.D a1 → N a1 w1) {e : Exit} {a1 : Act} {w1 : World} (hq : OutR ρ H nx w kept n o1 e a1 w1) :
    Exit.then N (OutR ρ H nx w kept n o) e a1 w1 := by
  obtain ⟨ex, st⟩ := o1
  obtain ⟨ρ1, g1, g2, g3⟩ := hq
  cases ex with
  | normal =>
    cases e with
    | normal => exact hk st h ρ1 a1 w1 g1 g2
    | _ => exact g3.elim
  | exit i =>
    cases e with
    | exit j => cases h; exact ⟨ρ1, g1, g2, g3⟩
    | _ => exact g3.elim
  | ret =>
    cases e with
    | ret => cases h; exact ⟨ρ1, g1, g2, g3⟩
    | _ => exact g3.elim
  | panic ch =>
    cases e with
    | panic ch' => cases h; exact ⟨ρ1, g1, g2, g3⟩
    | _ => exact g3.elim

theorem seq_ok {f g : RC} {x y : Code} (hf : CodeOk P ins kept n f x) (hg : CodeOk P ins kept n g y) : CodeOk P ins kept n (cSeq f g) (.seq x y) := by
  intro T D H nx o h ρ a w hH ha
  obtain ⟨o1, h1, h2⟩ := bd_eq h
  refine wp_seq (wp_mono (hf T D H nx o1 h1 ρ a w hH ha) fun e a1 w1 hq => ?_)
  exact seq_after (N := y.wp P (OutR ρ H nx w kept n o)) (Q := OutR ρ H nx w kept n o) h2 (fun st hst ρ1 a1 w1 g1 g2 => wp_mono (hg _ _ _ _ o hst ρ1 a1 w1 g1.hr g2) fun e a2 w2 hq => .trans g1 hq) hq

theorem cond_ok {f g : RC} {x y : Code} {c : Operand} {od : Od} (hc : cv kept n ([] : Env) c = some od) (hf : CodeOk P ins kept n f x) (hg : CodeOk P ins kept n g y) : CodeOk P ins kept n (cCond od f g) (.cond c x y) := by
  intro T D H nx o h ρ a w hH ha
  have h' : evK T [] od (fun v => onBool v (f T D H nx) (g T D H nx)) = some o := h
  rw [evK_eq] at h'
  obtain ⟨v, hv, h1⟩ := bd_eq h'
  have hr := cv_sound ha.env hc
  rw [hv] at hr
  rcases onBool_some h1 with ⟨e, h2⟩ | ⟨e, h2⟩
  · subst e
    exact wp_cond_true hr.bool_inv (hf T D H nx o h2 ρ a w hH ha)
  · subst e
    exact wp_cond_false hr.bool_inv (hg T D H nx o h2 ρ a w hH ha)

theorem block_ok {f : RC} {x : Code} {id : Nat} (hf : CodeOk P ins kept n f x) : CodeOk P ins kept n (cBlock id f) (.block id x) := by
  intro T D H nx o h ρ a w hH ha
  obtain ⟨o1, h1, h2⟩ := bd_eq h
  refine wp_block (wp_mono (hf T D H nx o1 h1 ρ a w hH ha) fun e a1 w1 hq => ?_)
  obtain ⟨ex, st⟩ := o1
  obtain ⟨ρ1, g1, g2, g3⟩ := hq
  cases ex with
  | normal =>
    cases e with
    | normal => cases h2; exact ⟨ρ1, g1, g2, trivial⟩
    | _ => exact g3.elim
  | exit i =>
    cases e with
    | exit j =>
      have hij : i = j := g3
      subst hij
      have h3 : cond (Nat.beq i id) (stay .normal st) (stay (.exit i) st) = some o := by
        have h4 : (cond (Nat.beq i id) (stay .normal) (stay (.exit i))) st = some o := h2
        cases hb : Nat.beq i id <;> (rw [hb] at h4; exact h4)
      show (if i = id then OutR ρ H nx w kept n o .normal a1 w1 else OutR ρ H nx w kept n o (.exit i) a1 w1)
      cases hb : Nat.beq i id with
      | true =>
        rw [hb] at h3
        rw [if_pos (Nat.eq_of_beq_eq_true hb)]
        cases h3; exact ⟨ρ1, g1, g2, trivial⟩
      | false =>
        rw [hb] at h3
        rw [if_neg (Nat.ne_of_beq_eq_false hb)]
        cases h3; exact ⟨ρ1, g1, g2, rfl⟩
    | _ => exact g3.elim
  | ret =>
    cases e with
    | ret => cases h2; exact ⟨ρ1, g1, g2, trivial⟩
    | _ => exact g3.elim
  | panic ch =>
    cases e with
    | panic ch' => cases h2; exact ⟨ρ1, g1, g2, g3⟩
    | _ => exact g3.elim

/-- a loop's rounds -/
def RoundsOk (P : Program) (kept : List Nat) (n : Nat) (f : RC) (m : Nat) (c : Code) : Prop :=
  ∀ T D H nx o, f T D H nx = some o → ∀ ρ a w, HR ρ H nx w.heap → ActR ρ kept n T D a → Code.rounds P c (OutR ρ H nx w kept n o) m a w

theorem rounds_mono {c : Code} {Q Q' : Exit → Act → World → Prop} (hq : ∀ e a w, Q e a w → Q' e a w) : ∀ m a w, Code.rounds P c Q m a w → Code.rounds P c Q' m a w := by
  intro m
  induction m with
  | zero => intro a w h; exact h
  | succ m ih =>
    intro a w h
    refine wp_mono (show c.wp P (Exit.then (Code.rounds P c Q m) Q) a w from h) fun e a1 w1 h1 => ?_
    cases e <;> first | exact ih _ _ h1 | exact hq _ _ _ h1

theorem loop_rounds {r : Run} {ac : ACode} {f : RC} {x : Code} {m : Nat} (hf : CodeOk P ins kept n f x) (hr : RoundsOk P kept n (r.code (.loop ac)) m x) : RoundsOk P kept n (cLoop r ac f) (m + 1) x := by
  intro T D H nx o h ρ a w hH ha
  obtain ⟨o1, h1, h2⟩ := bd_eq h
  refine wp_mono (hf T D H nx o1 h1 ρ a w hH ha) fun e a1 w1 hq => ?_
  exact seq_after (Q := OutR ρ H nx w kept n o) h2 (fun st hst ρ1 a1 w1 g1 g2 => rounds_mono (fun e a2 w2 hq => .trans g1 hq) _ _ _ (hr _ _ _ _ o hst ρ1 a1 w1 g1.hr g2)) hq

theorem loop_ok {f : RC} {x : Code} {m : Nat} (h : RoundsOk P kept n f m x) : CodeOk P ins kept n f (.loop x) := by
  intro T D H nx o hf ρ a w hH ha
  exact wp_loop_rounds m (h T D H nx o hf ρ a w hH ha)
end Go.Eng
/- The engine: regions whose order is given. -/
namespace Go.Eng
variable {P : Program} {ins kept : List Nat} {n : Nat} {A : AProg} {rn : Run}

theorem keepK_eq {T : Tr Value} {p : Option (List Bool)} {v : Value} {k : Tr Value → R0} : keepK T p v k = k (match p with | none => T | some p => insP p T (some v)) := by
  cases p with
  | none => rfl
  | some p => exact setP_eq p T (some v) k

theorem contO_nil {p : Option (List Bool)} {k : RL} {T : Tr Value} {L : List Value} {D : List Dfd} {v : Value} {H : Heap} {nx : Nat} :
    contO P p [] k T L D v H nx = k (match p with | none => T | some p => insP p T (some v)) (v :: L) D H nx := by
  unfold contO
  rw [keepK_eq]
  rfl

theorem runOps_cons {o : AO} {ag : List Again} {l : List (AO × List Again)} : runOps A rn ((o, ag) :: l) = opG A rn o ag (runOps A rn l) := rfl

/-- no load needs a second look where the order is given -/
theorem agains_all {ops : List Oper} {bef : List Nat} {done : Nat} {env : Env} {bh : Nat} : ∀ {l : List Nat}, (∀ j ∈ l, Nat.testBit bh j = true) → againsC P kept n ops bef done env bh l = some [] := by
  intro l
  induction l with
  | nil => intro _; rfl
  | cons j l ih =>
    intro h
    unfold againsC
    rw [ih fun i hi => h i (List.mem_cons_of_mem _ hi), h j List.mem_cons_self]
    rfl
theorem map_map {α β γ : Type} (f : α → β) (g : β → γ) (a : AOp α) : (a.map f).map g = a.map (fun x => g (f x)) := by
  cases a <;> simp only [AOp.map, List.map_map, Option.map_map] <;> rfl

/-- the operation as it was compiled, over the values of its operands -/
theorem trav_cst {env : Env} {T : Tr Value} {L : List Value} {a : AOp Operand} {b : AOp Od} (h : a.trav (cv kept n env) = some b) :
    b.map (cstv T L) = a.map (Av fun x => (valO T L ((cv kept n env x).getD (.loc 0))).getD undef) := by
  obtain ⟨h1, _⟩ := trav_sound (.loc 0) h
  rw [h1, map_map]
  rfl

theorem trav_VR {ρ : Rho} {env : Env} {T : Tr Value} {L : List Value} {a : AOp Operand} {b : AOp Od} {c : Act} (h : a.trav (cv kept n env) = some b) (he : EnvR ρ kept n env T L c) :
    a.all fun x => VR ρ ((valO T L ((cv kept n env x).getD (.loc 0))).getD undef) (c.eval x) := by
  obtain ⟨_, h2⟩ := trav_sound (.loc 0) h
  refine all_mono (fun x hx => ?_) h2
  obtain ⟨y, hy⟩ := hx
  rw [hy]
  exact cv_sound he hy

/-- an operation that calls nothing, run -/
theorem plain_run {ρ : Rho} {env : Env} {T : Tr Value} {L : List Value} {H : Heap} {nx : Nat} {w : World} {o : Oper} {a : AOp Operand} {b : AOp Od} {c : Act} {r : Ex × St} {k : KA} (hc : compileOp P ins o = some a) (hp : a.plain = true) (h : a.trav (cv kept n env) = some b) (he : EnvR ρ kept n env T L c)
    (hH : HR ρ H nx w.heap) (hr : actT b P T L H nx k = some r) : Good P w ρ H nx r k (execOp c.eval o) := by
  have h1 := actT_to (T' := T) (L' := L) hr
  rw [trav_cst h] at h1
  exact act_sound hc hp (trav_VR h he) hH h1
/-- the guard, as both see it -/
theorem guard_same {ρ : Rho} {env : Env} {T : Tr Value} {L : List Value} {c : Act} {ops : List Oper} {o : Oper} {g : Option (Nat × Bool)} (h : guardC ops env o.guard = some g) (he : EnvR ρ kept n env T L c) :
    Region.wanted o (yielded ops.toArray c.tmps) = wanted L g := by
  unfold Region.wanted
  cases hg : o.guard with
  | none => rw [hg] at h; cases h; rfl
  | some p =>
    obtain ⟨j, want⟩ := p
    rw [hg] at h
    simp only [guardC] at h
    cases hj : ops[j]? with
    | none => rw [hj] at h; cases h
    | some q =>
      rw [hj] at h
      simp only at h
      cases hd : q.dst with
      | none => rw [hd] at h; cases h
      | some t =>
        rw [hd] at h
        simp only at h
        cases hf : find env t with
        | none => rw [hf] at h; cases h
        | some x =>
          rw [hf] at h
          simp only [Option.map_eq_some_iff] at h
          obtain ⟨d, hx, rfl⟩ := h
          have hx' : x = .loc d := by cases x <;> simp [locOf] at hx; rw [hx]
          subst hx'
          have hv := he.env t _ hf
          show (yielded ops.toArray c.tmps j == some want) = wantO want (nthO L d)
          rw [nthO_eq]
          have hval : valO T L (.loc d) = L[d]? := rfl
          rw [hval] at hv
          have hy : yielded ops.toArray c.tmps j = match c.tmps.getD t undef with | .bool b => some b | _ => none := by
            unfold yielded
            simp only [List.getElem?_toArray, hj, Option.bind_some, hd, Array.getD_eq_getD_getElem?]
            cases c.tmps[t]? with
            | none => rfl
            | some v => cases v <;> rfl
          rw [hy]
          generalize c.tmps.getD t undef = u at hv
          cases hL : L[d]? with
          | none =>
            rw [hL] at hv
            have : u = undef := by
              cases hv with
              | sc h => rfl
              | tuple h => cases h; rfl
            subst this
            rfl
          | some v =>
            rw [hL] at hv
            have hv' : VR ρ v u := hv
            show _ = wantB want v
            cases hv' with
            | sc h => cases u <;> first | rfl | (rename_i b; cases b <;> cases want <;> rfl) | (simp [scalar] at h)
            | _ => rfl
end Go.Eng
