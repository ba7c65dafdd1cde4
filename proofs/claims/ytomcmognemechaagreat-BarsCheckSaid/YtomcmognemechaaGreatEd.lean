/- An interpreter of the model's code that follows one order and is proved right for all: part 4. -/
import Derived.Test.YtomcmognemechaaGreatEc
/- The engine: words on calls that are kept for later. -/
namespace Go.Eng
noncomputable section
variable {P : Program} {ins : List Nat} {A : AProg}

/-- what is said of a call in a small heap holds in a greater one -/
theorem SaysOk.frame {g : FuncId} {vs : List Value} {Hs H2 H G : Heap} {nx nx2 : Nat} {v : Value} (h : SaysOk P g vs Hs nx (.ok v H2 nx2)) (h1 : ∀ b k, getP Hs (at_ b) = some k → getP H (at_ b) = some k)
    (h2 : ∀ b k, getP G (at_ b) = some k → getP H2 (at_ b) = some k ∨ (getP Hs (at_ b) = none ∧ getP H (at_ b) = some k)) : SaysOk P g vs H nx (.ok v G nx2) := by
  obtain ⟨e1, e2, e3⟩ := h
  refine ⟨e1, e2, fun ρ us w hv hH => ?_⟩
  have hHs : HR ρ Hs nx w.heap := ⟨fun b k hb => hH.blk b k (h1 b k hb), fun b c k l r s hb hc => hH.inj b c k l r s (h1 _ _ hb) (h1 _ _ hc), hH.new⟩
  have hown : ∀ k, Own ρ Hs k → Own ρ H k := fun k ⟨b, x, r, g1, gm, g2, g3⟩ => ⟨b, x, r, h1 b x g1, gm, g2, g3⟩
  refine (e3 ρ us w hv hHs).mono fun e w' hr => ?_
  obtain ⟨u, ρ', g1, g2, g3⟩ := hr
  -- a block of the greater heap
  have hside : ∀ b k, getP Hs (at_ b) = none → getP H (at_ b) = some k → ∃ r, ρ b = some r ∧ ρ' b = some r ∧ BR ρ w.heap r k ∧ ¬ Own ρ Hs r.blk := by
    intro b k hn hb
    obtain ⟨r, q1, q2⟩ := hH.blk b k hb
    refine ⟨r, q1, g3.stp.ext _ _ q1, q2, ?_⟩
    rintro ⟨b2, x, r2, p1, pm, p2, p3⟩
    have := hH.inj b2 b x k r2 r (h1 _ _ p1) hb pm p2 q1 p3
    subst this
    rw [hn] at p1
    cases p1
  have hmix : ∀ b b' k k' r r', getP H2 (at_ b) = some k → getP Hs (at_ b') = none → getP H (at_ b') = some k' → (k.mine = true ∨ k'.mine = true) → ρ' b = some r → ρ' b' = some r' → r.blk = r'.blk → False := by
    intro b b' k k' r r' hb hn hb' hmi hr hr' e
    obtain ⟨r2, q1, q2, q3, q4⟩ := hside b' k' hn hb'
    rw [hr'] at q2
    cases q2
    cases hkm : k.mine with
    | true =>
      rcases g3.stp.own r.blk ⟨b, k, r, hb, hkm, hr, rfl⟩ with ho | ho
      · exact q4 (e ▸ ho)
      · have := q3.lt
        omega
    | false =>
      have hold := g3.stp.ro b k hb hkm
      obtain ⟨r3, p1, p2⟩ := hH.blk b k (h1 _ _ hold)
      have := g3.stp.ext _ _ p1
      rw [hr] at this
      cases this
      have hk' : k'.mine = true := hmi.resolve_left (fun g => by rw [hkm] at g; cases g)
      have := hH.inj b' b k' k r' r hb' (h1 _ _ hold) hk' q1 p1 e.symm
      subst this
      rw [hn] at hold
      cases hold
  refine ⟨u, ρ', g1, g2, ⟨⟨fun b k hb => ?_, fun b c k l r s hb hc hmi hr hs e => ?_, g3.hr.new⟩, ⟨g3.stp.ext, fun k hk => ?_, fun b x hb hm => ?_, fun k hk hn => g3.stp.frame k hk fun ho => hn (hown k ho), g3.stp.size, g3.stp.os, g3.stp.tape, g3.stp.output⟩, g3.le, g3.low⟩⟩
  · rcases h2 b k hb with hb | ⟨hn, hb⟩
    · exact g3.hr.blk b k hb
    · obtain ⟨r, q1, q2, q3, q4⟩ := hside b k hn hb
      exact ⟨r, q2, (q3.mono g3.stp.ext).of_same (g3.stp.frame _ q3.lt q4)⟩
  · rcases h2 b k hb with hb | ⟨hnb, hb⟩
    · rcases h2 c l hc with hc | ⟨hnc, hc⟩
      · exact g3.hr.inj b c k l r s hb hc hmi hr hs e
      · exact (hmix b c k l r s hb hnc hc (.inl hmi) hr hs e).elim
    · rcases h2 c l hc with hc | ⟨hnc, hc⟩
      · exact (hmix c b l k s r hc hnb hb (.inr hmi) hs hr e.symm).elim
      · obtain ⟨r1, q1, q2, _⟩ := hside b k hnb hb
        obtain ⟨s1, p1, p2, _⟩ := hside c l hnc hc
        rw [hr] at q2
        rw [hs] at p2
        cases q2; cases p2
        exact hH.inj b c k l r s hb hc hmi q1 p1 e
  · obtain ⟨b, x, r, q1, qm, q2, q3⟩ := hk
    rcases h2 b x q1 with hb | ⟨hn, hb⟩
    · rcases g3.stp.own k ⟨b, x, r, hb, qm, q2, q3⟩ with ho | ho
      · exact .inl (hown k ho)
      · exact .inr ho
    · obtain ⟨r1, p1, p2, _⟩ := hside b x hn hb
      rw [q2] at p2
      cases p2
      exact .inl ⟨b, x, r, hb, qm, p1, q3⟩
  · rcases h2 b x hb with hb | ⟨_, hb⟩
    · exact h1 _ _ (g3.stp.ro b x hb hm)
    · exact hb

/-- the counter may be set higher -/
theorem SaysOk.high {g : FuncId} {vs : List Value} {H H2 : Heap} {nx nx2 nx3 : Nat} {v : Value} (h : SaysOk P g vs H nx (.ok v H2 nx2)) (hle : nx2 ≤ nx3) : SaysOk P g vs H nx (.ok v H2 nx3) := by
  obtain ⟨e1, e2, e3⟩ := h
  refine ⟨e1, Nat.le_trans e2 hle, fun ρ us w hv hH => (e3 ρ us w hv hH).mono fun e w' hr => ?_⟩
  obtain ⟨u, ρ', g1, g2, g3⟩ := hr
  exact ⟨u, ρ', g1, g2, ⟨g3.hr.blk, g3.hr.inj, fun b hb => g3.hr.new b (Nat.le_trans hle hb)⟩, g3.stp, Nat.le_trans g3.le hle, g3.low⟩

theorem run_says (hA : AOk P ins A) {m : Nat} {g : FuncId} {vs : List Value} {H : Heap} {nx : Nat} {c : CRet} (h : (run A m).call g vs H nx = some c) : SaysOk P g vs H nx c :=
  let ⟨h1, h2⟩ := (run_ok hA m).1 g vs H nx c h
  ⟨h1, (hA.up m).call g vs H nx c h, h2⟩

/-- a closed call that gives a number, and has no arguments: at any place -/
theorem SaysOk.anywhere {g : FuncId} {v : Value} {H2 : Heap} {nx2 : Nat} (h : SaysOk P g [] .e 0 (.ok v H2 nx2)) (hv : scalar v = true) (H : Heap) (nx : Nat) : SaysOk P g [] H nx (.ok v H nx) := by
  obtain ⟨e1, _, e3⟩ := h
  refine ⟨e1, Nat.le_refl _, fun ρ us w hvs hH => ?_⟩
  cases hvs
  have h0 : HR (fun _ => none) .e 0 w.heap := ⟨(fun b k hb => by cases hb), (fun b b' k k' s s' hb => by cases hb), fun _ _ => rfl⟩
  refine (e3 _ [] w .nil h0).mono fun e w' hr => ?_
  obtain ⟨u, ρ', g1, g2, g3⟩ := hr
  have hst : ∀ k, k < w.heap.size → w'.heap[k]? = w.heap[k]? := fun k hk => g3.stp.frame k hk (fun ⟨b, x, s, hb, _⟩ => by cases hb)
  refine ⟨u, ρ, g1, ?_, ⟨⟨fun b k hb => ?_, hH.inj, hH.new⟩, ⟨.refl ρ, fun _ hk => .inl hk, .refl H, fun k hk _ => hst k hk, g3.stp.size, g3.stp.os, g3.stp.tape, g3.stp.output⟩, Nat.le_refl _, fun _ _ => rfl⟩⟩
  · rw [g2.scalar_eq hv]; exact .sc hv
  · obtain ⟨r, q1, q2⟩ := hH.blk b k hb
    exact ⟨r, q1, q2.of_same (hst _ q2.lt)⟩

/-! ### small heaps, as lists -/
abbrev Cells := List (Nat × Blk)
def look : Cells → Nat → Option Blk
  | [], _ => none
  | (b, k) :: l, c => bif Nat.beq b c then some k else look l c
def heapOf : Cells → Heap
  | [] => .e
  | (b, k) :: l => insP (at_ b) (heapOf l) (some k)
def dropAll : Cells → Heap → Heap
  | [], H => H
  | (b, _) :: l, H => insP (at_ b) (dropAll l H) none
def addAll : Cells → Heap → Heap
  | [], H => H
  | (b, k) :: l, H => insP (at_ b) (addAll l H) (some k)

theorem get_heapOf : ∀ (l : Cells) (c : Nat), getP (heapOf l) (at_ c) = look l c := by
  intro l
  induction l with
  | nil => intro c; rfl
  | cons x l ih =>
    obtain ⟨b, k⟩ := x
    intro c
    show getP (insP (at_ b) (heapOf l) (some k)) (at_ c) = bif Nat.beq b c then some k else look l c
    cases hb : Nat.beq b c with
    | true =>
      have := Nat.eq_of_beq_eq_true hb
      subst this
      rw [getP_insP]; rfl
    | false => rw [getP_insP_ne _ _ _ _ (fun e => Nat.ne_of_beq_eq_false hb (at_inj e).symm), ih]; rfl

theorem get_addAll : ∀ (l : Cells) (H : Heap) (c : Nat), getP (addAll l H) (at_ c) = (match look l c with | some k => some k | none => getP H (at_ c)) := by
  intro l
  induction l with
  | nil => intro H c; rfl
  | cons x l ih =>
    obtain ⟨b, k⟩ := x
    intro H c
    show getP (insP (at_ b) (addAll l H) (some k)) (at_ c) = (match (bif Nat.beq b c then some k else look l c) with | some k => some k | none => getP H (at_ c))
    cases hb : Nat.beq b c with
    | true =>
      have := Nat.eq_of_beq_eq_true hb
      subst this
      rw [getP_insP]; rfl
    | false => rw [getP_insP_ne _ _ _ _ (fun e => Nat.ne_of_beq_eq_false hb (at_inj e).symm), ih]; rfl

theorem get_dropAll : ∀ (l : Cells) (H : Heap) (c : Nat), getP (dropAll l H) (at_ c) = (match look l c with | some _ => none | none => getP H (at_ c)) := by
  intro l
  induction l with
  | nil => intro H c; rfl
  | cons x l ih =>
    obtain ⟨b, k⟩ := x
    intro H c
    show getP (insP (at_ b) (dropAll l H) none) (at_ c) = (match (bif Nat.beq b c then some k else look l c) with | some _ => none | none => getP H (at_ c))
    cases hb : Nat.beq b c with
    | true =>
      have := Nat.eq_of_beq_eq_true hb
      subst this
      rw [getP_insP]; rfl
    | false => rw [getP_insP_ne _ _ _ _ (fun e => Nat.ne_of_beq_eq_false hb (at_inj e).symm), ih]; rfl

/-! ### the same value -/
def vEqs (f : Value → Value → Bool) : List Value → List Value → Bool
  | [], [] => true
  | a :: as, b :: bs => f a b && vEqs f as bs
  | _, _ => false
def vEq : Nat → Value → Value → Bool
  | 0, _, _ => false
  | n + 1, .agg a, .agg b => vEqs (vEq n) a.toList b.toList
  | n + 1, .tuple a, .tuple b => vEqs (vEq n) a.toList b.toList
  | _ + 1, .string a, .string b => decide (a = b)
  | _ + 1, .nilIface, .nilIface => true
  | _ + 1, .nilFunc, .nilFunc => true
  | _ + 1, a, b => veq1 a b

theorem vEq_sound : ∀ (n : Nat) {a b : Value}, vEq n a b = true → a = b := by
  intro n
  induction n with
  | zero => intro a b h; simp [vEq] at h
  | succ n ih =>
    have hs : ∀ {as bs : List Value}, vEqs (vEq n) as bs = true → as = bs := by
      intro as
      induction as with
      | nil => intro bs h; cases bs <;> first | rfl | simp [vEqs] at h
      | cons a as iha =>
        intro bs h
        cases bs with
        | nil => simp [vEqs] at h
        | cons b bs =>
          simp only [vEqs, Bool.and_eq_true] at h
          rw [ih h.1, iha h.2]
    intro a b h
    have key : ∀ x y : Array Value, vEqs (vEq n) x.toList y.toList = true → x = y := fun x y h => Array.ext' (hs h)
    unfold vEq at h
    split at h
    · cases h
    · rename_i m x y he
      cases he
      rw [key _ _ h]
    · rename_i m x y he
      cases he
      rw [key _ _ h]
    · simp at h; rw [h]
    · rfl
    · rfl
    · exact veq1_sound h

def vEqL : List Value → List Value → Bool
  | [], [] => true
  | a :: as, b :: bs => vEq 100 a b && vEqL as bs
  | _, _ => false
theorem vEqL_sound : ∀ {a b : List Value}, vEqL a b = true → a = b := by
  intro a
  induction a with
  | nil => intro b h; cases b <;> first | rfl | simp [vEqL] at h
  | cons x a ih =>
    intro b h
    cases b with
    | nil => simp [vEqL] at h
    | cons y b =>
      simp only [vEqL, Bool.and_eq_true] at h
      rw [vEq_sound _ h.1, ih h.2]

def eEqL : List MapEntry → List MapEntry → Bool
  | [], [] => true
  | a :: as, b :: bs => (vEq 100 a.key b.key && (vEq 100 a.val b.val && Nat.beq a.born b.born)) && eEqL as bs
  | _, _ => false
theorem eEqL_sound : ∀ {a b : List MapEntry}, eEqL a b = true → a = b := by
  intro a
  induction a with
  | nil => intro b h; cases b <;> first | rfl | simp [eEqL] at h
  | cons x a ih =>
    intro b h
    cases b with
    | nil => simp [eEqL] at h
    | cons y b =>
      simp only [eEqL, Bool.and_eq_true] at h
      obtain ⟨⟨h1, h2, h3⟩, h4⟩ := h
      rw [ih h4]
      cases x; cases y
      simp only at h1 h2 h3
      rw [vEq_sound _ h1, vEq_sound _ h2, Nat.eq_of_beq_eq_true h3]

def kEq : Option Blk → Blk → Bool
  | some (.cells a), .cells b => vEqL a b
  | some (.map a c), .map b d => eEqL a b && Nat.beq c d
  | some (.ro a), .ro b => vEqL a b
  | _, _ => false
theorem kEq_sound {a : Option Blk} {b : Blk} (h : kEq a b = true) : a = some b := by
  unfold kEq at h
  split at h
  · rw [vEqL_sound h]
  · rw [Bool.and_eq_true] at h
    rw [eEqL_sound h.1, Nat.eq_of_beq_eq_true h.2]
  · rw [vEqL_sound h]
  · cases h

def allIn (H : Heap) : Cells → Bool
  | [] => true
  | (b, k) :: l => kEq (getP H (at_ b)) k && allIn H l
theorem allIn_sound {H : Heap} : ∀ {l : Cells}, allIn H l = true → ∀ c k, look l c = some k → getP H (at_ c) = some k := by
  intro l
  induction l with
  | nil => intro _ c k h; cases h
  | cons x l ih =>
    obtain ⟨b, k0⟩ := x
    intro h c k hl
    simp only [allIn, Bool.and_eq_true] at h
    have hl' : (bif Nat.beq b c then some k0 else look l c) = some k := hl
    cases hb : Nat.beq b c with
    | true =>
      rw [hb] at hl'
      have := Nat.eq_of_beq_eq_true hb
      subst this
      cases hl'
      exact kEq_sound h.1
    | false => rw [hb] at hl'; exact ih h.2 c k hl'

/-- a call's outcome, kept -/
structure Fact where
  g : FuncId
  vs : List Value
  pre : Cells
  nx : Nat
  v : Value
  post : Cells
  nx' : Nat

/-- does the engine come to it? -/
def holdsFor (f : Fact) : Option CRet → Bool
  | some (.ok v H nx) => vEq 100 v f.v && (allIn H f.post && Nat.ble nx f.nx')
  | _ => false

def FactOk (P : Program) (f : Fact) : Prop := SaysOk P f.g f.vs (heapOf f.pre) f.nx (.ok f.v (heapOf f.post) f.nx')

theorem fact_of_run (hA : AOk P ins A) {m : Nat} (f : Fact) (h : holdsFor f ((run A m).call f.g f.vs (heapOf f.pre) f.nx) = true) : FactOk P f := by
  unfold holdsFor at h
  split at h
  · rename_i v H nx hc
    simp only [Bool.and_eq_true] at h
    obtain ⟨h1, h2, h3⟩ := h
    have hr := run_says hA hc
    rw [vEq_sound _ h1] at hr
    refine SaysOk.frame (hr.high (Nat.le_of_ble_eq_true h3)) (fun b k hb => hb) fun b k hb => .inl ?_
    rw [get_heapOf] at hb
    exact allIn_sound h2 b k hb
  · cases h

/-- a kept outcome, used -/
def useFact (f : Fact) (g : FuncId) (vs : List Value) (H : Heap) (nx : Nat) : Option CRet :=
  cond (Nat.beq g f.g) (cond (Nat.beq nx f.nx) (cond (vEqL vs f.vs) (cond (allIn H f.pre) (some (.ok f.v (addAll f.post (dropAll f.pre H)) f.nx')) none) none) none) none

theorem useFact_ok {f : Fact} (hf : FactOk P f) {g : FuncId} {vs : List Value} {H : Heap} {nx : Nat} {c : CRet} (h : useFact f g vs H nx = some c) : SaysOk P g vs H nx c := by
  unfold useFact at h
  cases h1 : Nat.beq g f.g with
  | false => rw [h1] at h; cases h
  | true =>
    cases h2 : Nat.beq nx f.nx with
    | false => rw [h1, h2] at h; cases h
    | true =>
      cases h3 : vEqL vs f.vs with
      | false => rw [h1, h2, h3] at h; cases h
      | true =>
        cases h4 : allIn H f.pre with
        | false => rw [h1, h2, h3, h4] at h; cases h
        | true =>
          rw [h1, h2, h3, h4] at h
          have hc : some (CRet.ok f.v (addAll f.post (dropAll f.pre H)) f.nx') = some c := h
          cases hc
          rw [Nat.eq_of_beq_eq_true h1, Nat.eq_of_beq_eq_true h2, vEqL_sound h3]
          refine SaysOk.frame hf (fun b k hb => ?_) fun b k hb => ?_
          · rw [get_heapOf] at hb
            exact allIn_sound h4 b k hb
          · rw [get_addAll] at hb
            rw [get_heapOf, get_heapOf]
            cases hp : look f.post b with
            | some k' =>
              rw [hp] at hb
              exact .inl hb
            | none =>
              rw [hp] at hb
              have hb' : getP (dropAll f.pre H) (at_ b) = some k := hb
              rw [get_dropAll] at hb'
              cases hq : look f.pre b with
              | some k' => rw [hq] at hb'; cases hb'
              | none => rw [hq] at hb'; exact .inr ⟨rfl, hb'⟩

def useFacts (l : List Fact) (g : FuncId) (vs : List Value) (H : Heap) (nx : Nat) : Option CRet :=
  List.rec none (fun f _ ih => Option.rec ih some (useFact f g vs H nx)) l

theorem useFacts_ok {l : List Fact} (hl : ∀ f ∈ l, FactOk P f) {g : FuncId} {vs : List Value} {H : Heap} {nx : Nat} {c : CRet} (h : useFacts l g vs H nx = some c) : SaysOk P g vs H nx c := by
  induction l with
  | nil => cases h
  | cons f l ih =>
    have h' : (Option.rec (useFacts l g vs H nx) some (useFact f g vs H nx) : Option CRet) = some c := h
    cases hf : useFact f g vs H nx with
    | some c' =>
      rw [hf] at h'
      cases h'
      exact useFact_ok (hl f List.mem_cons_self) hf
    | none =>
      rw [hf] at h'
      exact ih (fun f hf => hl f (List.mem_cons_of_mem _ hf)) h'
end
end Go.Eng
/- The engine: a program's functions, in a trie. -/
namespace Go.Eng

/-- this is what the function is compiled to -/
def FnOk (P : Program) (ins : List Nat) (g : Nat) (af : AFunc) : Prop :=
  ∃ fn kept, P.funcs[g]? = some fn ∧ fn.body.isNone = false ∧ (fn.name == "runtime.NumGoroutine") = false ∧ compileFunc P ins kept fn = some af

def AllT (Q : List Bool → AFunc → Prop) : Tr AFunc → Prop
  | .e => True
  | .n l v r => (∀ a, v = some a → Q [] a) ∧ AllT (fun p => Q (true :: p)) l ∧ AllT (fun p => Q (false :: p)) r

theorem AllT.get : ∀ {t : Tr AFunc} {Q : List Bool → AFunc → Prop} {p : List Bool} {a : AFunc}, AllT Q t → getP t p = some a → Q p a := by
  intro t
  induction t with
  | e => intro Q p a _ h; cases h
  | n l v r ihl ihr =>
    intro Q p a h hg
    cases p with
    | nil => exact h.1 a hg
    | cons b p =>
      have hg' : cond b (getP l p) (getP r p) = some a := hg
      cases b with
      | true => exact ihl (Q := fun p => Q (true :: p)) h.2.1 hg'
      | false => exact ihr (Q := fun p => Q (false :: p)) h.2.2 hg'

def At0 (P : Program) (ins : List Nat) (p : List Bool) (a : AFunc) : Prop := ∀ g, at_ g = p → FnOk P ins g a

theorem leaf {P : Program} {ins : List Nat} {i : Nat} {x : AFunc} {p : List Bool} (hp : at_ i = p) (h : FnOk P ins i x) : ∀ a, some x = some a → At0 P ins p a := by
  intro a ha g hg
  cases ha
  have : g = i := at_inj (hg.trans hp.symm)
  rw [this]
  exact h
theorem noLeaf {Q : AFunc → Prop} : ∀ a, (none : Option AFunc) = some a → Q a := by
  intro a h
  cases h

theorem table_ok {P : Program} {ins : List Nat} {t : Tr AFunc} (h : AllT (At0 P ins) t) (g : Nat) (af : AFunc) (hg : getP t (at_ g) = some af) : FnOk P ins g af := (h.get hg) g rfl
end Go.Eng
/- The engine: what it comes to with a little, it comes to with more. -/
namespace Go.Eng
variable {A : AProg} {rn rm : Run} {T : Tr Value} {L : List Value} {D : List Dfd} {H : Heap} {nx : Nat}

structure RunLe (r r' : Run) : Prop where
  code : ∀ c T D H nx o, r.code c T D H nx = some o → r'.code c T D H nx = some o
  call : ∀ g vs H nx c, r.call g vs H nx = some c → r'.call g vs H nx = some c
def KLe (k k' : RL) : Prop := ∀ T L D H nx o, k T L D H nx = some o → k' T L D H nx = some o

theorem againK_mono {P : Program} {X X' : R0} {o : Ex × St} (hx : X = some o → X' = some o) : ∀ {as : List Again}, againK P T L H as X = some o → againK P T L H as X' = some o := by
  intro as
  induction as with
  | nil => intro h; exact hx h
  | cons a as ih =>
    intro h
    have h' : cond (wanted L a.guard) (lookT a.op P T L H fun v => nthK L a.d fun u => cond (veq u v) (againK P T L H as X) none) (againK P T L H as X) = some o := h
    show cond (wanted L a.guard) (lookT a.op P T L H fun v => nthK L a.d fun u => cond (veq u v) (againK P T L H as X') none) (againK P T L H as X') = some o
    refine cond_to h' (fun g => ?_) (fun g => ih g)
    obtain ⟨x, g1, g2⟩ := lookT_det _ _ _ g
    refine (g2 _).trans ?_
    rw [nthK_eq] at g1 ⊢
    refine bd_to g1 fun u q => ?_
    exact cond_to q (fun q => ih q) (fun q => by cases q)

theorem contO_mono {P : Program} {p : Option (List Bool)} {ag : List Again} {k k' : RL} {v : Value} {o : Ex × St} (hk : KLe k k') (h : contO P p ag k T L D v H nx = some o) : contO P p ag k' T L D v H nx = some o := by
  unfold contO at h ⊢
  rw [keepK_put] at h ⊢
  exact againK_mono (hk _ _ _ _ _ _) h

theorem onRet_mono {P : Program} {p : Option (List Bool)} {ag : List Again} {k k' : RL} {c : CRet} {o : Ex × St} (hk : KLe k k') (h : onRet P p ag k T L D c = some o) : onRet P p ag k' T L D c = some o := by
  cases c with
  | ok v H' nx' => exact contO_mono hk h
  | pan ch H' nx' => exact h

theorem opT_mono {b : AOp Od} {p : Option (List Bool)} {ag : List Again} {k k' : RL} {o : Ex × St} (hr : RunLe rn rm) (hk : KLe k k') (h : opT b A rn p ag k b T L D H nx = some o) : opT b A rm p ag k' b T L D H nx = some o := by
  by_cases hp : b.plain = true
  · rw [opT_plain hp] at h ⊢
    have h' : actT b A.P T L H nx (uk fun x => contO A.P p ag k T L D x.1 x.2.1 x.2.2) = some o := h
    obtain ⟨x, h1, h2, h3⟩ := actT_detP b _ o h'
    show actT b A.P T L H nx (uk fun x => contO A.P p ag k' T L D x.1 x.2.1 x.2.2) = some o
    exact (h2 _).trans (contO_mono hk h1)
  · cases b with
    | call f args =>
      have h' : evK T L f (fun f => evsK T L args fun vs => targetK vs (fun g vs => bd (rn.call g vs H nx) (onRet A.P p ag k T L D)) f) = some o := h
      show evK T L f (fun f => evsK T L args fun vs => targetK vs (fun g vs => bd (rm.call g vs H nx) (onRet A.P p ag k' T L D)) f) = some o
      rw [evK_eq] at h' ⊢
      refine bd_to h' fun fv h1 => ?_
      rw [evsK_eq] at h1 ⊢
      refine bd_to h1 fun vs h2 => ?_
      unfold targetK at h2 ⊢
      split at h2
      · obtain ⟨c, g1, g2⟩ := bd_eq h2
        show bd (rm.call _ _ H nx) _ = _
        rw [hr.call _ _ _ _ _ g1]
        exact onRet_mono hk g2
      · cases h2
    | inv x name args =>
      have h' : evK T L x (fun x => evsK T L args fun vs => invV A.P name H (fun g v => bd (rn.call g (v :: vs) H nx) (onRet A.P p ag k T L D)) x) = some o := h
      show evK T L x (fun x => evsK T L args fun vs => invV A.P name H (fun g v => bd (rm.call g (v :: vs) H nx) (onRet A.P p ag k' T L D)) x) = some o
      rw [evK_eq] at h' ⊢
      refine bd_to h' fun fv h1 => ?_
      rw [evsK_eq] at h1 ⊢
      refine bd_to h1 fun vs h2 => ?_
      have hd : DetP (fun _ => True) fun k' : FuncId × Value → R0 => invV A.P name H (fun g v => k' (g, v)) fv := by
        unfold invV
        split
        · refine .bd fun m => ?_
          unfold recvK
          cases m.2 with
          | none => exact .ret _ trivial
          | some agg => exact .ptr fun _ _ => .cellsR fun _ => .bd fun _ => .ret _ trivial
        · exact .no
      obtain ⟨y, g1, g2⟩ := hd.det (fun y => bd (rn.call y.1 (y.2 :: vs) H nx) (onRet A.P p ag k T L D)) o h2
      show invV A.P name H (fun g v => (fun y : FuncId × Value => bd (rm.call y.1 (y.2 :: vs) H nx) (onRet A.P p ag k' T L D)) (g, v)) fv = some o
      refine (g2 fun y : FuncId × Value => bd (rm.call y.1 (y.2 :: vs) H nx) (onRet A.P p ag k' T L D)).trans ?_
      obtain ⟨c, k1, k2⟩ := bd_eq g1
      show bd (rm.call _ _ H nx) _ = _
      rw [hr.call _ _ _ _ _ k1]
      exact onRet_mono hk k2
    | dfr f args =>
      have h' : evK T L f (fun f => evsK T L args fun vs => onFn f (contO A.P p ag k T L ((f, vs) :: D) undef H nx)) = some o := h
      show evK T L f (fun f => evsK T L args fun vs => onFn f (contO A.P p ag k' T L ((f, vs) :: D) undef H nx)) = some o
      rw [evK_eq] at h' ⊢
      refine bd_to h' fun fv h1 => ?_
      rw [evsK_eq] at h1 ⊢
      refine bd_to h1 fun vs h2 => ?_
      unfold onFn at h2 ⊢
      split at h2
      · exact contO_mono hk h2
      · cases h2
    | pan x => exact h
    | rcv => cases h
    | ins z bytes s i v =>
      have h' : actT (.ins z bytes s i v) A.P T L H nx (uk fun x => contO A.P p ag k T L D x.1 x.2.1 x.2.2) = some o := h
      obtain ⟨x, h1, h2, h3⟩ := actT_detP _ _ o h'
      show actT (.ins z bytes s i v) A.P T L H nx (uk fun x => contO A.P p ag k' T L D x.1 x.2.1 x.2.2) = some o
      exact (h2 _).trans (contO_mono hk h1)
    | _ => exact absurd rfl hp

theorem runOps_mono (hr : RunLe rn rm) : ∀ l : List (AO × List Again), KLe (runOps A rn l) (runOps A rm l) := by
  intro l
  induction l with
  | nil => intro T L D H nx o h; exact h
  | cons x l ih =>
    obtain ⟨q, ag⟩ := x
    intro T L D H nx o h
    have h' : cond (wanted L q.guard) (opT q.op A rn q.keep ag (runOps A rn l) q.op T L D H nx) (contO A.P q.keep ag (runOps A rn l) T L D undef H nx) = some o := h
    show cond (wanted L q.guard) (opT q.op A rm q.keep ag (runOps A rm l) q.op T L D H nx) (contO A.P q.keep ag (runOps A rm l) T L D undef H nx) = some o
    exact cond_to h' (fun g => opT_mono hr ih g) (fun g => contO_mono ih g)

theorem seqK_mono {k k' : RC} (hk : ∀ T D H nx o, k T D H nx = some o → k' T D H nx = some o) {o1 o : Ex × St} (h : seqK k o1 = some o) : seqK k' o1 = some o := by
  obtain ⟨e, st⟩ := o1
  cases e with
  | normal => exact hk _ _ _ _ _ h
  | _ => exact h

theorem codeT_mono (hr : RunLe rn rm) : ∀ (c : ACode) (T : Tr Value) (D : List Dfd) (H : Heap) (nx : Nat) (o : Ex × St), codeT c A rn T D H nx = some o → codeT c A rm T D H nx = some o := by
  intro c
  induction c with
  | skip => intro T D H nx o h; exact h
  | reg dr ops =>
    cases dr with
    | false => intro T D H nx o h; exact runOps_mono hr ops T [] D H nx o h
    | true =>
      intro T D H nx o h
      show bd (runOps A rm ops T [] D H nx) drawK = some o
      obtain ⟨o1, h1, h2⟩ := bd_eq (show bd (runOps A rn ops T [] D H nx) drawK = some o from h)
      rw [runOps_mono hr ops _ _ _ _ _ _ h1]
      exact h2
  | seq a b iha ihb =>
    intro T D H nx o h
    show bd (codeT a A rm T D H nx) (seqK (codeT b A rm)) = some o
    obtain ⟨o1, h1, h2⟩ := bd_eq (show bd (codeT a A rn T D H nx) (seqK (codeT b A rn)) = some o from h)
    rw [iha _ _ _ _ _ h1]
    exact seqK_mono ihb h2
  | cond c a b iha ihb =>
    intro T D H nx o h
    have h' : evK T [] c (fun v => onBool v (codeT a A rn T D H nx) (codeT b A rn T D H nx)) = some o := h
    show evK T [] c (fun v => onBool v (codeT a A rm T D H nx) (codeT b A rm T D H nx)) = some o
    rw [evK_eq] at h' ⊢
    refine bd_to h' fun v h1 => ?_
    exact onBool_to h1 (fun g => iha _ _ _ _ _ g) (fun g => ihb _ _ _ _ _ g)
  | block id a iha =>
    intro T D H nx o h
    show bd (codeT a A rm T D H nx) (blockK id) = some o
    obtain ⟨o1, h1, h2⟩ := bd_eq (show bd (codeT a A rn T D H nx) (blockK id) = some o from h)
    rw [iha _ _ _ _ _ h1]
    exact h2
  | loop a iha =>
    intro T D H nx o h
    show bd (codeT a A rm T D H nx) (seqK (rm.code (.loop a))) = some o
    obtain ⟨o1, h1, h2⟩ := bd_eq (show bd (codeT a A rn T D H nx) (seqK (rn.code (.loop a))) = some o from h)
    rw [iha _ _ _ _ _ h1]
    exact seqK_mono (hr.code _) h2
  | exit id => intro T D H nx o h; exact h
  | ret => intro T D H nx o h; exact h

theorem deferredK_mono (hr : RunLe rn rm) {f : Value} {args : List Value} {u : FrameMode} {y : FrameMode × Heap × Nat} (h : deferredK A rn f args u H nx = some y) : deferredK A rm f args u H nx = some y := by
  unfold deferredK at h ⊢
  split at h
  · split at h
    · split at h
      · obtain ⟨o, h1, h2⟩ := bd_eq h
        rw [startT_eq, setP_eq] at h1
        rw [startT_eq, setP_eq, codeT_mono hr _ _ _ _ _ _ h1]
        exact h2
      · obtain ⟨o, h1, h2⟩ := bd_eq h
        rw [startT_eq] at h1
        rw [startT_eq, codeT_mono hr _ _ _ _ _ _ h1]
        exact h2
    · cases h
  · cases h

theorem unwindD_mono (hr : RunLe rn rm) : ∀ (D : List Dfd) (u : FrameMode) (H : Heap) (nx : Nat) (y : FrameMode × Heap × Nat), unwindD A rn D u H nx = some y → unwindD A rm D u H nx = some y := by
  intro D
  induction D with
  | nil => intro u H nx y h; exact h
  | cons d D ih =>
    obtain ⟨f, args⟩ := d
    intro u H nx y h
    unfold unwindD at h ⊢
    split at h
    · rename_i h1
      rw [deferredK_mono hr h1]
      exact ih _ _ _ _ h
    · cases h

theorem leaveF_mono (hr : RunLe rn rm) {af : AFunc} {u : FrameMode} {st : St} {c : CRet} (h : leaveF A rn af u st = some c) : leaveF A rm af u st = some c := by
  obtain ⟨T, D, H, nx⟩ := st
  show bd (unwindD A rm D u H nx) (leaveM af T) = some c
  obtain ⟨y, h1, h2⟩ := bd_eq (show bd (unwindD A rn D u H nx) (leaveM af T) = some c from h)
  rw [unwindD_mono hr _ _ _ _ _ h1]
  exact h2

theorem endF_mono (hr : RunLe rn rm) {af : AFunc} {o : Ex × St} {c : CRet} (h : endF A rn af o = some c) : endF A rm af o = some c := by
  obtain ⟨e, st⟩ := o
  cases e with
  | normal => exact leaveF_mono hr h
  | exit i => exact h
  | ret => exact leaveF_mono hr h
  | panic ch => exact leaveF_mono hr h

theorem run_succ_le (n : Nat) : RunLe (run A n) (run A (n + 1)) := by
  induction n with
  | zero => exact ⟨(fun c T D H nx o h => by cases h), (fun g vs H nx c h => by cases h)⟩
  | succ n ih =>
    refine ⟨fun c => codeT_mono ih c, fun g vs H nx c h => ?_⟩
    have h' : (Option.rec (bd (A.funcs g) (callF1 A (run A n) vs H nx)) some (A.hook g vs H nx) : Option CRet) = some c := h
    show (Option.rec (bd (A.funcs g) (callF1 A (run A (n + 1)) vs H nx)) some (A.hook g vs H nx) : Option CRet) = some c
    cases hh : A.hook g vs H nx with
    | some c' => rw [hh] at h'; exact h'
    | none =>
      rw [hh] at h'
      obtain ⟨af, h1, h2⟩ := bd_eq (show bd (A.funcs g) (callF1 A (run A n) vs H nx) = some c from h')
      obtain ⟨o, h3, h4⟩ := bd_eq (show bd (startT vs .e fun T => codeT af.body A (run A n) T [] H nx) (endF A (run A n) af) = some c from h2)
      rw [startT_eq] at h3
      show bd (A.funcs g) (callF1 A (run A (n + 1)) vs H nx) = some c
      rw [h1]
      show bd (startT vs .e fun T => codeT af.body A (run A (n + 1)) T [] H nx) (endF A (run A (n + 1)) af) = some c
      rw [startT_eq, codeT_mono ih _ _ _ _ _ _ h3]
      exact endF_mono ih h4

theorem RunLe.refl (r : Run) : RunLe r r := ⟨fun _ _ _ _ _ _ h => h, fun _ _ _ _ _ h => h⟩
theorem RunLe.trans {a b c : Run} (h : RunLe a b) (h' : RunLe b c) : RunLe a c := ⟨fun _ _ _ _ _ _ g => h'.code _ _ _ _ _ _ (h.code _ _ _ _ _ _ g), fun _ _ _ _ _ g => h'.call _ _ _ _ _ (h.call _ _ _ _ _ g)⟩
theorem run_le {m n : Nat} (h : m ≤ n) : RunLe (run A m) (run A n) := by
  induction h with
  | refl => exact .refl _
  | step _ ih => exact ih.trans (run_succ_le _)
end Go.Eng
/- The engine's runs, spoken of: slots by their paths, code by what holds behind it. -/
namespace Go.Eng
variable {A : AProg} {H H' : Heap} {nx nx' : Nat}

/-! ### slots -/
abbrev Slots := List (List Bool × Value)
def pEq : List Bool → List Bool → Bool
  | [], [] => true
  | true :: p, true :: q => pEq p q
  | false :: p, false :: q => pEq p q
  | _, _ => false
theorem pEq_eq : ∀ {p q : List Bool}, pEq p q = true → p = q := by
  intro p
  induction p with
  | nil => intro q h; cases q with
    | nil => rfl
    | cons b q => cases h
  | cons a p ih =>
    intro q h
    cases q with
    | nil => cases a <;> cases h
    | cons b q => cases a <;> cases b <;> first | (cases h; done) | rw [ih h]
theorem pEq_refl : ∀ p : List Bool, pEq p p = true := by
  intro p
  induction p with
  | nil => rfl
  | cons a p ih => cases a <;> exact ih
theorem pEq_ne {p q : List Bool} (h : pEq p q = false) : p ≠ q := by
  intro e
  rw [e, pEq_refl] at h
  cases h

def sl : Slots → List Bool → Option Value
  | [], _ => none
  | (q, v) :: σ, p => bif pEq q p then some v else sl σ p
def putS (p : Option (List Bool)) (v : Value) (σ : Slots) : Slots := match p with
  | none => σ
  | some p => (p, v) :: σ
def Has (T : Tr Value) (σ : Slots) : Prop := ∀ p v, sl σ p = some v → getP T p = some v
def SubS (σ' σ : Slots) : Prop := ∀ p v, sl σ' p = some v → sl σ p = some v

theorem Has.put {T : Tr Value} {σ : Slots} (h : Has T σ) (p : List Bool) (v : Value) : Has (insP p T (some v)) ((p, v) :: σ) := by
  intro q u hq
  have hq' : (bif pEq p q then some v else sl σ q) = some u := hq
  cases e : pEq p q with
  | true =>
    rw [e] at hq'
    have := pEq_eq e
    subst this
    rw [getP_insP]
    exact hq'
  | false =>
    rw [e] at hq'
    rw [getP_insP_ne _ _ _ _ (fun e' => pEq_ne e e'.symm)]
    exact h q u hq'
theorem Has.putS {T : Tr Value} {σ : Slots} (h : Has T σ) (p : Option (List Bool)) (v : Value) : Has (putT T p v) (putS p v σ) := by
  cases p with
  | none => exact h
  | some p => exact h.put p v
theorem Has.sub {T : Tr Value} {σ σ' : Slots} (h : Has T σ) (hs : SubS σ' σ) : Has T σ' := fun p v hp => h p v (hs p v hp)
theorem SubS.refl (σ : Slots) : SubS σ σ := fun _ _ h => h
theorem SubS.nil (σ : Slots) : SubS [] σ := fun _ _ h => by cases h
theorem SubS.cons {σ σ' : Slots} {p : List Bool} {v : Value} (h : sl σ p = some v) (hs : SubS σ' σ) : SubS ((p, v) :: σ') σ := by
  intro q u hq
  have hq' : (bif pEq p q then some v else sl σ' q) = some u := hq
  cases e : pEq p q with
  | true =>
    rw [e] at hq'
    have := pEq_eq e
    subst this
    rw [h]; exact hq'
  | false => rw [e] at hq'; exact hs q u hq'
theorem SubS.trans {a b c : Slots} (h : SubS a b) (h' : SubS b c) : SubS a c := fun p v hp => h' p v (h p v hp)

/-! ### operands -/
def ev (σ : Slots) (L : List Value) : Od → Option Value
  | .loc d => L[d]?
  | .var p => sl σ p
  | .cst v => some v
  | .fn f => some (.func (.func f) #[] #[])
def evs (σ : Slots) (L : List Value) : List Od → Option (List Value)
  | [] => some []
  | x :: xs => match ev σ L x, evs σ L xs with
    | some v, some vs => some (v :: vs)
    | _, _ => none
def evp (σ : Slots) (L : List Value) : List (Nat × Nat × Od) → Option (List (Nat × Nat × Value))
  | [] => some []
  | (i, j, x) :: xs => match ev σ L x, evp σ L xs with
    | some v, some vs => some ((i, j, v) :: vs)
    | _, _ => none

section eval
variable {T : Tr Value} {σ : Slots} {L : List Value}
theorem Has.ev (h : Has T σ) {x : Od} {v : Value} (hx : ev σ L x = some v) : valO T L x = some v := by
  cases x with
  | loc d => exact hx
  | var p => exact h p v hx
  | cst v => exact hx
  | fn f => exact hx
theorem Has.evK (h : Has T σ) {x : Od} {v : Value} (hx : Eng.ev σ L x = some v) (k : KV) : Eng.evK T L x k = k v := by rw [evK_eq, h.ev hx]; rfl
theorem Has.evs (h : Has T σ) : ∀ {xs : List Od} {vs : List Value}, evs σ L xs = some vs → valsO T L xs = some vs := by
  intro xs
  induction xs with
  | nil => intro vs hx; exact hx
  | cons x xs ih =>
    intro vs hx
    unfold Eng.evs at hx
    split at hx
    · rename_i v vs' h1 h2
      unfold valsO
      rw [h.ev h1, ih h2]
      exact hx
    · cases hx
theorem Has.evsK (h : Has T σ) {xs : List Od} {vs : List Value} (hx : Eng.evs σ L xs = some vs) (k : List Value → R0) : Eng.evsK T L xs k = k vs := by rw [evsK_eq, h.evs hx]; rfl
theorem Has.evp (h : Has T σ) : ∀ {xs : List (Nat × Nat × Od)} {vs : List (Nat × Nat × Value)}, evp σ L xs = some vs → valsP T L xs = some vs := by
  intro xs
  induction xs with
  | nil => intro vs hx; exact hx
  | cons x xs ih =>
    obtain ⟨i, j, x⟩ := x
    intro vs hx
    unfold Eng.evp at hx
    split at hx
    · rename_i v vs' h1 h2
      unfold valsP
      rw [h.ev h1, ih h2]
      exact hx
    · cases hx
theorem Has.partsK (h : Has T σ) {xs : List (Nat × Nat × Od)} {vs : List (Nat × Nat × Value)} (hx : Eng.evp σ L xs = some vs) (k : List (Nat × Nat × Value) → R0) : Eng.partsK T L xs k = k vs := by rw [partsK_eq, h.evp hx]; rfl
end eval

/-! ### what holds behind code -/
abbrev Post := Ex → Slots → Heap → Nat → Prop
structure WC (A : AProg) (c : ACode) (σ : Slots) (H : Heap) (nx : Nat) (Q : Post) : Prop where
  ends : ∀ T, Has T σ → ∃ m e T' H' nx', codeT c A (run A m) T [] H nx = some (e, ⟨T', [], H', nx'⟩) ∧ ∃ σ', Has T' σ' ∧ Q e σ' H' nx'
structure WO (A : AProg) (l : List (AO × List Again)) (σ : Slots) (L : List Value) (H : Heap) (nx : Nat) (Q : Post) : Prop where
  ends : ∀ T, Has T σ → ∃ m e T' H' nx', runOps A (run A m) l T L [] H nx = some (e, ⟨T', [], H', nx'⟩) ∧ ∃ σ', Has T' σ' ∧ Q e σ' H' nx'
structure WF (A : AProg) (g : FuncId) (vs : List Value) (H : Heap) (nx : Nat) (Q : Value → Heap → Nat → Prop) : Prop where
  out : ∃ m v H' nx', (run A m).call g vs H nx = some (.ok v H' nx') ∧ Q v H' nx'

def afterSeq (A : AProg) (b : ACode) (Q : Post) : Post
  | .normal, σ, H, nx => WC A b σ H nx Q
  | e, σ, H, nx => Q e σ H nx
/-- behind a region whose order is drawn -/
def afterDraw (Q : Post) : Post := fun e σ H nx => e = .normal ∧ Q .normal σ H nx
def afterBlock (id : Nat) (Q : Post) : Post
  | .normal, σ, H, nx => Q .normal σ H nx
  | .exit i, σ, H, nx => cond (Nat.beq i id) (Q .normal σ H nx) (Q (.exit i) σ H nx)
  | e, σ, H, nx => Q e σ H nx

section rules
variable {c a b : ACode} {σ : Slots} {Q Q' : Post}

theorem WC.mono (h : WC A c σ H nx Q) (hq : ∀ e σ H nx, Q e σ H nx → Q' e σ H nx) : WC A c σ H nx Q' := by
  refine ⟨fun T hT => ?_⟩
  obtain ⟨m, e, T', H', nx', h1, σ', h2, h3⟩ := h.ends T hT
  exact ⟨m, e, T', H', nx', h1, σ', h2, hq _ _ _ _ h3⟩
theorem WC.sub {σ' : Slots} (hs : SubS σ' σ) (h : WC A c σ' H nx Q) : WC A c σ H nx Q := ⟨fun T hT => h.ends T (hT.sub hs)⟩
theorem WC.skip (h : Q .normal σ H nx) : WC A .skip σ H nx Q := ⟨fun T hT => ⟨0, .normal, T, H, nx, rfl, σ, hT, h⟩⟩
theorem WC.ret (h : Q .ret σ H nx) : WC A .ret σ H nx Q := ⟨fun T hT => ⟨0, .ret, T, H, nx, rfl, σ, hT, h⟩⟩
theorem WC.exit {id : Nat} (h : Q (.exit id) σ H nx) : WC A (.exit id) σ H nx Q := ⟨fun T hT => ⟨0, .exit id, T, H, nx, rfl, σ, hT, h⟩⟩

theorem WC.seq (h : WC A a σ H nx (afterSeq A b Q)) : WC A (.seq a b) σ H nx Q := by
  refine ⟨fun T hT => ?_⟩
  obtain ⟨m, e, T', H', nx', h1, σ', h2, h3⟩ := h.ends T hT
  cases e with
  | normal =>
    obtain ⟨m2, e2, T2, H2, nx2, g1, σ2, g2, g3⟩ := (show WC A b σ' H' nx' Q from h3).ends T' h2
    refine ⟨max m m2, e2, T2, H2, nx2, ?_, σ2, g2, g3⟩
    show bd (codeT a A (run A (max m m2)) T [] H nx) (seqK (codeT b A (run A (max m m2)))) = _
    rw [codeT_mono (run_le (Nat.le_max_left m m2)) _ _ _ _ _ _ h1]
    exact codeT_mono (run_le (Nat.le_max_right m m2)) _ _ _ _ _ _ g1
  | _ =>
    refine ⟨m, _, T', H', nx', ?_, σ', h2, h3⟩
    show bd (codeT a A (run A m) T [] H nx) (seqK (codeT b A (run A m))) = _
    rw [h1]
    rfl

theorem WC.cond {x : Od} {t : Bool} (hx : ev σ [] x = some (.bool t)) (ha : t = true → WC A a σ H nx Q) (hb : t = false → WC A b σ H nx Q) : WC A (.cond x a b) σ H nx Q := by
  refine ⟨fun T hT => ?_⟩
  have key : ∀ m, codeT (.cond x a b) A (run A m) T [] H nx = Bool.rec (codeT b A (run A m) T [] H nx) (codeT a A (run A m) T [] H nx) t := by
    intro m
    show evK T [] x (fun v => onBool v (codeT a A (run A m) T [] H nx) (codeT b A (run A m) T [] H nx)) = _
    rw [hT.evK hx]
    cases t <;> rfl
  cases t with
  | true =>
    obtain ⟨m, e, T', H', nx', h1, h2⟩ := (ha rfl).ends T hT
    exact ⟨m, e, T', H', nx', (key m).trans h1, h2⟩
  | false =>
    obtain ⟨m, e, T', H', nx', h1, h2⟩ := (hb rfl).ends T hT
    exact ⟨m, e, T', H', nx', (key m).trans h1, h2⟩

theorem WC.block {id : Nat} (h : WC A a σ H nx (afterBlock id Q)) : WC A (.block id a) σ H nx Q := by
  refine ⟨fun T hT => ?_⟩
  obtain ⟨m, e, T', H', nx', h1, σ', h2, h3⟩ := h.ends T hT
  have key : codeT (.block id a) A (run A m) T [] H nx = blockK id (e, ⟨T', [], H', nx'⟩) := by
    show bd (codeT a A (run A m) T [] H nx) (blockK id) = _
    rw [h1]; rfl
  cases e with
  | normal => exact ⟨m, .normal, T', H', nx', key, σ', h2, h3⟩
  | exit i =>
    have h3' : _root_.cond (Nat.beq i id) (Q .normal σ' H' nx') (Q (.exit i) σ' H' nx') := h3
    have key' : codeT (.block id a) A (run A m) T [] H nx = (_root_.cond (Nat.beq i id) (stay .normal) (stay (.exit i))) ⟨T', [], H', nx'⟩ := key
    cases hb : Nat.beq i id with
    | true => rw [hb] at h3' key'; exact ⟨m, .normal, T', H', nx', key', σ', h2, h3'⟩
    | false => rw [hb] at h3' key'; exact ⟨m, .exit i, T', H', nx', key', σ', h2, h3'⟩
  | ret => exact ⟨m, .ret, T', H', nx', key, σ', h2, h3⟩
  | panic ch => exact ⟨m, .panic ch, T', H', nx', key, σ', h2, h3⟩

/-- a loop: a measure that falls -/
theorem WC.loop {α : Type} (S : α → Slots) (F : α → Heap → Nat → Prop) (μ : α → Nat)
    (step : ∀ x H nx, F x H nx → WC A c (S x) H nx fun e σ' H' nx' => match e with
      | .normal => ∃ y, μ y < μ x ∧ SubS (S y) σ' ∧ F y H' nx'
      | e => Q e σ' H' nx') (x : α) (hs : SubS (S x) σ) (h0 : F x H nx) : WC A (.loop c) σ H nx Q := by
  have key : ∀ n x σ H nx, μ x < n → SubS (S x) σ → F x H nx → WC A (.loop c) σ H nx Q := by
    intro n
    induction n with
    | zero => intro x σ H nx h; omega
    | succ n ih =>
      intro x σ H nx hn hs h0
      refine ⟨fun T hT => ?_⟩
      obtain ⟨m, e, T', H', nx', h1, σ', h2, h3⟩ := (step x H nx h0).ends T (hT.sub hs)
      cases e with
      | normal =>
        obtain ⟨y, g1, g2, g3⟩ := h3
        obtain ⟨m2, e2, T2, H2, nx2, q1, σ2, q2, q3⟩ := (ih y σ' H' nx' (by omega) g2 g3).ends T' h2
        refine ⟨max m (m2 + 1), e2, T2, H2, nx2, ?_, σ2, q2, q3⟩
        show bd (codeT c A (run A (max m (m2 + 1))) T [] H nx) (seqK ((run A (max m (m2 + 1))).code (.loop c))) = _
        rw [codeT_mono (run_le (Nat.le_max_left _ _)) _ _ _ _ _ _ h1]
        exact (run_le (Nat.le_max_right m (m2 + 1))).code _ _ _ _ _ _ q1
      | _ =>
        refine ⟨m, _, T', H', nx', ?_, σ', h2, h3⟩
        show bd (codeT c A (run A m) T [] H nx) (seqK ((run A m).code (.loop c))) = _
        rw [h1]
        rfl
  exact key _ x σ H nx (Nat.lt_succ_self _) hs h0

theorem WC.reg {ops : List (AO × List Again)} (h : WO A ops σ [] H nx Q) : WC A (.reg false ops) σ H nx Q := ⟨h.ends⟩
theorem WC.drawn {ops : List (AO × List Again)} (h : WO A ops σ [] H nx (afterDraw Q)) : WC A (.reg true ops) σ H nx Q := by
  refine ⟨fun T hT => ?_⟩
  obtain ⟨m, e, T', H', nx', h1, σ', h2, rfl, h3⟩ := h.ends T hT
  refine ⟨m, .normal, T', H', nx', ?_, σ', h2, h3⟩
  show bd (runOps A (run A m) ops T [] [] H nx) drawK = _
  rw [h1]
  rfl

/-! ### operations -/
variable {L : List Value} {l : List (AO × List Again)} {p : Option (List Bool)} {ag : List Again} {op : AOp Od}
theorem WO.nil (h : Q .normal σ H nx) : WO A [] σ L H nx Q := ⟨fun T hT => ⟨0, .normal, T, H, nx, rfl, σ, hT, h⟩⟩

/-- what a plain operation comes to -/
structure Act (A : AProg) (op : AOp Od) (σ : Slots) (L : List Value) (H : Heap) (nx : Nat) (v : Value) (H' : Heap) (nx' : Nat) : Prop where
  comes : ∀ T, Has T σ → ∀ k, actT op A.P T L H nx k = k v H' nx'
/-- the loads that are looked at again read the same -/
structure Agrees (A : AProg) (σ : Slots) (L : List Value) (H : Heap) (ag : List Again) : Prop where
  reads : ∀ T, Has T σ → ∀ X : R0, againK A.P T L H ag X = X
theorem Agrees.nil : Agrees A σ L H [] := ⟨fun _ _ _ => rfl⟩

theorem WO.act {v : Value} (hp : op.plain = true) (ha : Act A op σ L H nx v H' nx') (hag : Agrees A (putS p v σ) (v :: L) H' ag) (h : WO A l (putS p v σ) (v :: L) H' nx' Q) : WO A ((⟨p, none, op⟩, ag) :: l) σ L H nx Q := by
  refine ⟨fun T hT => ?_⟩
  have hT' := hT.putS p v
  obtain ⟨m, e, T2, H2, nx2, h1, h2⟩ := h.ends _ hT'
  refine ⟨m, e, T2, H2, nx2, ?_, h2⟩
  show opT op A (run A m) p ag (runOps A (run A m) l) op T L [] H nx = _
  rw [opT_plain hp]
  show actT op A.P T L H nx (contO A.P p ag (runOps A (run A m) l) T L []) = _
  rw [ha.comes T hT]
  unfold contO
  rw [keepK_put, hag.reads _ hT']
  exact h1

theorem WO.ins {z by_ : Nat} {s i x : Od} {v : Value} (ha : Act A (.ins z by_ s i x) σ L H nx v H' nx') (hag : Agrees A (putS p v σ) (v :: L) H' ag) (h : WO A l (putS p v σ) (v :: L) H' nx' Q) : WO A ((⟨p, none, .ins z by_ s i x⟩, ag) :: l) σ L H nx Q := by
  refine ⟨fun T hT => ?_⟩
  have hT' := hT.putS p v
  obtain ⟨m, e, T2, H2, nx2, h1, h2⟩ := h.ends _ hT'
  refine ⟨m, e, T2, H2, nx2, ?_, h2⟩
  show actT (.ins z by_ s i x) A.P T L H nx (contO A.P p ag (runOps A (run A m) l) T L []) = _
  rw [ha.comes T hT]
  unfold contO
  rw [keepK_put, hag.reads _ hT']
  exact h1

theorem WO.guard {g : Nat} {want t : Bool} (hg : L[g]? = some (.bool t)) (h1 : t = want → WO A ((⟨p, none, op⟩, ag) :: l) σ L H nx Q)
    (h2 : t = (!want) → Agrees A (putS p undef σ) (undef :: L) H ag ∧ WO A l (putS p undef σ) (undef :: L) H nx Q) : WO A ((⟨p, some (g, want), op⟩, ag) :: l) σ L H nx Q := by
  refine ⟨fun T hT => ?_⟩
  have hw : wanted L (some (g, want)) = (_root_.cond t want (!want)) := by
    show wantO want (nthO L g) = _
    rw [nthO_eq, hg]
    rfl
  by_cases ht : t = want
  · obtain ⟨m, e, T2, H2, nx2, g1, g2⟩ := (h1 ht).ends T hT
    refine ⟨m, e, T2, H2, nx2, ?_, g2⟩
    have hw' : wanted L (some (g, want)) = true := by rw [hw, ht]; cases want <;> rfl
    show _root_.cond (wanted L (some (g, want))) _ _ = _
    rw [hw']
    exact g1
  · have ht' : t = !want := by cases t <;> cases want <;> first | rfl | exact absurd rfl ht
    obtain ⟨q1, q2⟩ := h2 ht'
    have hT' := hT.putS p undef
    obtain ⟨m, e, T2, H2, nx2, g1, g2⟩ := q2.ends _ hT'
    refine ⟨m, e, T2, H2, nx2, ?_, g2⟩
    have hw' : wanted L (some (g, want)) = false := by rw [hw, ht']; cases want <;> rfl
    show _root_.cond (wanted L (some (g, want))) _ (contO A.P p ag (runOps A (run A m) l) T L [] undef H nx) = _
    rw [hw']
    show contO A.P p ag (runOps A (run A m) l) T L [] undef H nx = _
    unfold contO
    rw [keepK_put, q1.reads _ hT']
    exact g1

theorem WO.callV {f : Od} {args : List Od} {g : FuncId} {first cap vs : List Value} (hf : ev σ L f = some (.func (.func g) ⟨first⟩ ⟨cap⟩)) (ha : evs σ L args = some vs)
    (h : WF A g (first ++ vs ++ cap) H nx fun v H' nx' => Agrees A (putS p v σ) (v :: L) H' ag ∧ WO A l (putS p v σ) (v :: L) H' nx' Q) : WO A ((⟨p, none, .call f args⟩, ag) :: l) σ L H nx Q := by
  refine ⟨fun T hT => ?_⟩
  obtain ⟨m, v, H1, nx1, h1, hag, h2⟩ := h.out
  have hT' := hT.putS p v
  obtain ⟨m2, e, T2, H2, nx2, g1, g2⟩ := h2.ends _ hT'
  refine ⟨max m m2, e, T2, H2, nx2, ?_, g2⟩
  show evK T L f (fun f => evsK T L args fun vs => targetK vs (fun g vs => bd ((run A (max m m2)).call g vs H nx) (onRet A.P p ag (runOps A (run A (max m m2)) l) T L [])) f) = _
  rw [hT.evK hf, hT.evsK ha]
  show bd ((run A (max m m2)).call g (first ++ vs ++ cap) H nx) _ = _
  rw [(run_le (Nat.le_max_left m m2)).call _ _ _ _ _ h1]
  show contO A.P p ag (runOps A (run A (max m m2)) l) T L [] v H1 nx1 = _
  unfold contO
  rw [keepK_put, hag.reads _ hT']
  exact runOps_mono (run_le (Nat.le_max_right m m2)) _ _ _ _ _ _ _ g1

theorem WO.call {g : FuncId} {args : List Od} {vs : List Value} (ha : evs σ L args = some vs)
    (h : WF A g vs H nx fun v H' nx' => Agrees A (putS p v σ) (v :: L) H' ag ∧ WO A l (putS p v σ) (v :: L) H' nx' Q) : WO A ((⟨p, none, .call (.fn g) args⟩, ag) :: l) σ L H nx Q :=
  WO.callV (g := g) (first := []) (cap := []) (vs := vs) rfl ha (by simpa using h)
end rules

/-! ### functions -/
theorem WF.mono {g : FuncId} {vs : List Value} {Q Q' : Value → Heap → Nat → Prop} (h : WF A g vs H nx Q) (hq : ∀ v H nx, Q v H nx → Q' v H nx) : WF A g vs H nx Q' :=
  let ⟨m, v, H', nx', h1, h2⟩ := h.out
  ⟨⟨m, v, H', nx', h1, hq _ _ _ h2⟩⟩

def argS : List Value → Nat → Slots
  | [], _ => []
  | v :: vs, i => (at_ i, v) :: argS vs (i + 1)

theorem sl_argS : ∀ (vs : List Value) (i : Nat) (p : List Bool) (v : Value), sl (argS vs i) p = some v → ∃ j, p = at_ (i + j) ∧ vs[j]? = some v := by
  intro vs
  induction vs with
  | nil => intro i p v h; cases h
  | cons u vs ih =>
    intro i p v h
    have h' : (bif pEq (at_ i) p then some u else sl (argS vs (i + 1)) p) = some v := h
    cases e : pEq (at_ i) p with
    | true =>
      rw [e] at h'
      exact ⟨0, (pEq_eq e).symm, h'⟩
    | false =>
      rw [e] at h'
      obtain ⟨j, g1, g2⟩ := ih _ _ _ h'
      exact ⟨j + 1, by rw [g1]; congr 1; omega, g2⟩

theorem has_start (vs : List Value) : Has (startP vs 0 .e) (argS vs 0) := by
  intro p v h
  obtain ⟨j, rfl, hj⟩ := sl_argS vs 0 p v h
  have hlt := (List.getElem?_eq_some_iff.1 hj).1
  rw [Nat.zero_add, startP_get, if_pos ⟨Nat.zero_le _, by omega⟩]
  simpa using hj

/-- a result's variable -/
noncomputable def resS (σ : Slots) (H : Heap) (x : Od × Option (Option Nat)) : Option Value := match x with
  | (.var p, none) => sl σ p
  | (.var p, some agg) => match sl σ p with
    | some (.pointer (some ⟨b, o, none⟩)) => match getP H (at_ b) with
      | some (.cells cs) => partOf cs o agg
      | _ => none
    | _ => none
  | _ => none
noncomputable def ressS (σ : Slots) (H : Heap) : List (Od × Option (Option Nat)) → Option (List Value)
  | [] => some []
  | x :: xs => match resS σ H x, ressS σ H xs with
    | some v, some vs => some (v :: vs)
    | _, _ => none
theorem resK_of {T : Tr Value} {σ : Slots} (hT : Has T σ) {x : Od × Option (Option Nat)} {v : Value} (h : resS σ H x = some v) (k : Value → Option CRet) : resK T H x k = k v := by
  obtain ⟨od, ag⟩ := x
  cases od with
  | var p =>
    cases ag with
    | none =>
      show bd (getP T p) k = k v
      rw [hT _ _ h]; rfl
    | some agg =>
      have h' : (match sl σ p with
        | some (.pointer (some ⟨b, o, none⟩)) => match getP H (at_ b) with
          | some (.cells cs) => partOf cs o agg
          | _ => none
        | _ => none) = some v := h
      show (match getP T p with
        | some (.pointer (some ⟨b, o, none⟩)) => match getP H (at_ b) with
          | some (.cells cs) => bd (partOf cs o agg) k
          | _ => none
        | _ => none) = k v
      split at h'
      · rename_i hs
        rw [hT _ _ hs]
        split at h'
        · rename_i hg
          simp only [hg, h']
          rfl
        · cases h'
      · cases h'
  | loc d => cases h
  | cst c => cases h
  | fn f => cases h
theorem resultsK_of {T : Tr Value} {σ : Slots} (hT : Has T σ) : ∀ {xs : List (Od × Option (Option Nat))} {vs : List Value}, ressS σ H xs = some vs → ∀ k, resultsK T H xs k = k vs := by
  intro xs
  induction xs with
  | nil => intro vs h k; cases h; rfl
  | cons x xs ih =>
    intro vs h k
    unfold ressS at h
    split at h
    · rename_i h1 h2
      cases h
      unfold resultsK
      rw [resK_of hT h1, ih h2]
    · cases h

/-- behind a function's body -/
def afterBody (rs : List (Od × Option (Option Nat))) (Q : Value → Heap → Nat → Prop) : Post
  | .normal, σ, H, nx => ∃ vs, ressS σ H rs = some vs ∧ Q (oneOf vs) H nx
  | .ret, σ, H, nx => ∃ vs, ressS σ H rs = some vs ∧ Q (oneOf vs) H nx
  | _, _, _, _ => False

theorem WF.enter {g : FuncId} {vs : List Value} {rs : List (Od × Option (Option Nat))} {body : ACode} {Q : Value → Heap → Nat → Prop} (hh : A.hook g vs H nx = none) (hf : A.funcs g = some ⟨rs, body⟩) (h : WC A body (argS vs 0) H nx (afterBody rs Q)) : WF A g vs H nx Q := by
  generalize haf : (⟨rs, body⟩ : AFunc) = af at hf
  obtain rfl : af.results = rs := by rw [← haf]
  obtain rfl : af.body = body := by rw [← haf]
  obtain ⟨m, e, T', H', nx', h1, σ', h2, h3⟩ := h.ends _ (has_start vs)
  have fin : (∃ us, ressS σ' H' af.results = some us ∧ Q (oneOf us) H' nx') → endF A (run A m) af (e, ⟨T', [], H', nx'⟩) = leaveF A (run A m) af .returning ⟨T', [], H', nx'⟩ → WF A g vs H nx Q := by
    rintro ⟨us, q1, q2⟩ he
    refine ⟨⟨m + 1, oneOf us, H', nx', ?_, q2⟩⟩
    show (Option.rec (bd (A.funcs g) (callF1 A (run A m) vs H nx)) some (A.hook g vs H nx) : Option CRet) = _
    rw [hh, hf]
    show bd (startT vs .e fun T => codeT af.body A (run A m) T [] H nx) (endF A (run A m) af) = _
    rw [startT_eq, h1]
    show endF A (run A m) af (e, ⟨T', [], H', nx'⟩) = _
    rw [he]
    show leaveM af T' (.returning, H', nx') = _
    exact resultsK_of h2 q1 _
  cases e with
  | normal => exact fin h3 rfl
  | ret => exact fin h3 rfl
  | exit i => exact h3.elim
  | panic ch => exact h3.elim

theorem resS_sub {σ σ' : Slots} (hs : SubS σ' σ) {x : Od × Option (Option Nat)} {v : Value} (h : resS σ' H x = some v) : resS σ H x = some v := by
  obtain ⟨od, ag⟩ := x
  cases od with
  | var p =>
    cases ag with
    | none => exact hs _ _ h
    | some agg =>
      have h' : (match sl σ' p with
        | some (.pointer (some ⟨b, o, none⟩)) => match getP H (at_ b) with
          | some (.cells cs) => partOf cs o agg
          | _ => none
        | _ => none) = some v := h
      show (match sl σ p with
        | some (.pointer (some ⟨b, o, none⟩)) => match getP H (at_ b) with
          | some (.cells cs) => partOf cs o agg
          | _ => none
        | _ => none) = some v
      split at h'
      · rename_i hx
        rw [hs _ _ hx]
        exact h'
      · cases h'
  | loc d => cases h
  | cst c => cases h
  | fn f => cases h
theorem ressS_sub {σ σ' : Slots} (hs : SubS σ' σ) : ∀ {xs : List (Od × Option (Option Nat))} {vs : List Value}, ressS σ' H xs = some vs → ressS σ H xs = some vs := by
  intro xs
  induction xs with
  | nil => intro vs h; exact h
  | cons x xs ih =>
    intro vs h
    unfold ressS at h
    split at h
    · rename_i h1 h2
      unfold ressS
      rw [resS_sub hs h1, ih h2]
      exact h
    · cases h
theorem fin_ret' {rs : List (Od × Option (Option Nat))} {σ σ' : Slots} {vs : List Value} {Q : Value → Heap → Nat → Prop} (hs : SubS σ' σ) (h : ressS σ' H rs = some vs) (hq : Q (oneOf vs) H nx) : afterBody rs Q .ret σ H nx := ⟨vs, ressS_sub hs h, hq⟩
theorem fin_ret {rs : List (Od × Option (Option Nat))} {σ : Slots} {vs : List Value} {Q : Value → Heap → Nat → Prop} (h : ressS σ H rs = some vs) (hq : Q (oneOf vs) H nx) : afterBody rs Q .ret σ H nx := ⟨vs, h, hq⟩
theorem fin_normal {rs : List (Od × Option (Option Nat))} {σ : Slots} {vs : List Value} {Q : Value → Heap → Nat → Prop} (h : ressS σ H rs = some vs) (hq : Q (oneOf vs) H nx) : afterBody rs Q .normal σ H nx := ⟨vs, h, hq⟩

theorem WF.hooked {g : FuncId} {vs : List Value} {v : Value} {Q : Value → Heap → Nat → Prop} (hh : A.hook g vs H nx = some (.ok v H' nx')) (h : Q v H' nx') : WF A g vs H nx Q := by
  refine ⟨⟨1, v, H', nx', ?_, h⟩⟩
  show (Option.rec (bd (A.funcs g) (callF1 A (run A 0) vs H nx)) some (A.hook g vs H nx) : Option CRet) = _
  rw [hh]
end Go.Eng
/- The engine's operations, one by one, at values that are known in part. -/
namespace Go.Eng
variable {A : AProg} {H : Heap} {nx : Nat} {σ : Slots} {L : List Value}

theorem act_look {op : AOp Od} {v : Value} (h : ∀ T, Has T σ → ∀ k, lookT op A.P T L H k = k v) (he : ∀ T k, actT op A.P T L H nx k = lookT op A.P T L H fun v => k v H nx) : Act A op σ L H nx v H nx := by
  refine ⟨fun T hT k => ?_⟩
  rw [he, h T hT]

def i64 (n : Int) : Value := .int .i64 n

/-! ### without the heap -/
theorem Act.mov {x : Od} {v : Value} (hx : ev σ L x = some v) : Act A (.mov x) σ L H nx v H nx := ⟨fun _ hT k => hT.evK hx _⟩
theorem Act.pick {c x y : Od} {t : Bool} {v u : Value} (hc : ev σ L c = some (.bool t)) (hx : ev σ L x = some v) (hy : ev σ L y = some u) : Act A (.pick c x y) σ L H nx (cond t v u) H nx := by
  refine ⟨fun T hT k => ?_⟩
  show evK T L c (fun c => onBool c (evK T L x fun v => k v H nx) (evK T L y fun v => k v H nx)) = _
  rw [hT.evK hc, hT.evK hx, hT.evK hy]
  cases t <;> rfl
theorem Act.nilck {x : Od} {a : Addr} (hx : ev σ L x = some (.pointer (some a))) : Act A (.nilck x) σ L H nx (.pointer (some a)) H nx := ⟨fun _ hT k => (hT.evK hx _).trans rfl⟩
theorem Act.nilckF {x : Od} {f : FuncId} {a b : Array Value} (hx : ev σ L x = some (.func (.func f) a b)) : Act A (.nilck x) σ L H nx (.func (.func f) a b) H nx := ⟨fun _ hT k => (hT.evK hx _).trans rfl⟩
theorem Act.ext {x : Od} {i : Nat} {vs : List Value} {v : Value} (hx : ev σ L x = some (.tuple ⟨vs⟩)) (hv : vs[i]? = some v) : Act A (.ext x i) σ L H nx v H nx := by
  refine ⟨fun T hT k => ?_⟩
  show evK T L x (fun w => extV w i fun v => k v H nx) = _
  rw [hT.evK hx]
  show nthK vs i _ = _
  rw [nthK_eq, hv]; rfl
theorem Act.fld {x : Od} {off : Nat} {g : Option Nat} {cs : List Value} {v : Value} (hx : ev σ L x = some (.agg ⟨cs⟩)) (hv : partOf cs off g = some v) : Act A (.fld x off g) σ L H nx v H nx := by
  refine ⟨fun T hT k => ?_⟩
  show evK T L x (fun w => onAgg w fun cs => bd (partOf cs off g) fun v => k v H nx) = _
  rw [hT.evK hx]
  show bd (partOf cs off g) _ = _
  rw [hv]; rfl
theorem Act.fad {x : Od} {off b o : Nat} (hx : ev σ L x = some (.pointer (some ⟨b, o, none⟩))) : Act A (.fad x off) σ L H nx (.pointer (some ⟨b, o + off, none⟩)) H nx := ⟨fun _ hT k => (hT.evK hx _).trans rfl⟩
theorem Act.ixs {x i : Od} {z b o len c : Nat} {j : IntKind} {n : Nat} (hx : ev σ L x = some (.slice (some ⟨b, o, some z⟩) len c)) (hi : ev σ L i = some (.int j n)) (hn : n < len) : Act A (.ixs x i z) σ L H nx (.pointer (some ⟨b, o + n * z, none⟩)) H nx := by
  refine ⟨fun T hT k => ?_⟩
  show evK T L x (fun v => evK T L i fun i => onNat i fun n => onSl v (ixsV z n fun v => k v H nx)) = _
  rw [hT.evK hx, hT.evK hi]
  show cond (and (Nat.blt n len) (Nat.beq z z)) _ none = _
  have h1 : Nat.blt n len = true := by rw [Nat.blt_eq]; exact hn
  have h2 : Nat.beq z z = true := by simp
  rw [h1, h2]; rfl
theorem Act.ixsI {x i : Od} {z b o len c : Nat} {j : IntKind} {n : Int} (hx : ev σ L x = some (.slice (some ⟨b, o, some z⟩) len c)) (hi : ev σ L i = some (.int j n)) (h0 : 0 ≤ n) (hn : n < len) : Act A (.ixs x i z) σ L H nx (.pointer (some ⟨b, o + n.toNat * z, none⟩)) H nx :=
  .ixs (j := j) hx (by rw [hi, Int.toNat_of_nonneg h0]) (by omega)
theorem Act.ixa {x i : Od} {len z b o : Nat} {j : IntKind} {n : Nat} (hx : ev σ L x = some (.pointer (some ⟨b, o, none⟩))) (hi : ev σ L i = some (.int j n)) (hn : n < len) : Act A (.ixa x i len z) σ L H nx (.pointer (some ⟨b, o + n * z, none⟩)) H nx := by
  refine ⟨fun T hT k => ?_⟩
  show evK T L x (fun v => evK T L i fun i => onNat i fun n => onPtr v (ixaV n len z fun v => k v H nx)) = _
  rw [hT.evK hx, hT.evK hi]
  show cond (Nat.blt n len) _ none = _
  have h1 : Nat.blt n len = true := by rw [Nat.blt_eq]; exact hn
  rw [h1]; rfl
theorem Act.ix {x i : Od} {len z : Nat} {g : Option Nat} {cs : List Value} {j : IntKind} {n : Nat} {v : Value} (hx : ev σ L x = some (.agg ⟨cs⟩)) (hi : ev σ L i = some (.int j n)) (hn : n < len) (hv : partOf cs (n * z) g = some v) : Act A (.ix x i len z g) σ L H nx v H nx := by
  refine ⟨fun T hT k => ?_⟩
  show evK T L x (fun v => evK T L i fun i => onNat i fun n => onAgg v fun cs => cond (Nat.blt n len) (bd (partOf cs (Nat.mul n z) g) fun v => k v H nx) none) = _
  rw [hT.evK hx, hT.evK hi]
  show cond (Nat.blt n len) (bd (partOf cs (n * z) g) _) none = _
  have h1 : Nat.blt n len = true := by rw [Nat.blt_eq]; exact hn
  rw [h1, hv]; rfl

/-! numbers -/
theorem slow_of {P : Program} {op : BinOp} {t : TypeId} {x y v : Value} (hx : flat x = true) (hy : flat y = true) (hg : eqGuard op t (.const x) (.const y) x y = Sem.pure ()) (h : binOp op t x y = Sem.pure v) (hf : flat v = true) : slow P op t x y = some v := by
  unfold slow
  have h2 : (do eqGuard op t (.const x) (.const y) x y; binOp op t x y : Sem Value) = Sem.pure v := by rw [hg]; exact h
  simp only [hx, hy, Bool.and_self, cond_true, h2, quiet, hf]
theorem binV_of {P : Program} {op : BinOp} {t : TypeId} {x y v : Value} (hx : flat x = true) (hy : flat y = true) (hg : eqGuard op t (.const x) (.const y) x y = Sem.pure ()) (h : binOp op t x y = Sem.pure v) (hf : flat v = true) (k : KV) : binV P op t x y k = k v := by
  unfold binV
  cases hq : fast op x y with
  | none => rw [slow_of hx hy hg h hf]; rfl
  | some q =>
    have := (fast_sound (P := P) (w := default) (t := t) (x := .const x) (y := .const y) hq).1
    rw [hg] at this
    have h3 : (Sem.pure v : Sem Value).run P default = .ok q default := by rw [← h]; exact this
    have h4 : (Sem.pure v : Sem Value).run P default = .ok v default := Sem.run_pure ..
    rw [h4] at h3
    cases h3
    rfl
theorem guard_int {op : BinOp} {t : TypeId} {x y : Operand} {k k' : IntKind} {a b : Int} : eqGuard op t x y (.int k a) (.int k' b) = Sem.pure () := by cases op <;> rfl
theorem guard_bool {op : BinOp} {t : TypeId} {x y : Operand} {a b : Bool} : eqGuard op t x y (.bool a) (.bool b) = Sem.pure () := by cases op <;> rfl
theorem guard_str {op : BinOp} {t : TypeId} {x y : Operand} {a b : ByteArray} : eqGuard op t x y (.string a) (.string b) = Sem.pure () := by cases op <;> rfl

theorem Act.binV {op : BinOp} {t : TypeId} {x y : Od} {a b v : Value} (hx : ev σ L x = some a) (hy : ev σ L y = some b) (h : ∀ k, Eng.binV A.P op t a b k = k v) : Act A (.bin op t x y) σ L H nx v H nx := by
  refine ⟨fun T hT k => ?_⟩
  show evK T L x (fun a => evK T L y fun b => Eng.binV A.P op t a b fun v => k v H nx) = _
  rw [hT.evK hx, hT.evK hy, h]

section ints
variable {t : TypeId} {x y : Od} {j : IntKind} {a b : Int}
theorem Act.add' (hx : ev σ L x = some (.int j a)) (hy : ev σ L y = some (.int j b)) : Act A (.bin .add t x y) σ L H nx (.int j (j.wrap (a + b))) H nx :=
  .binV hx hy (binV_of rfl rfl guard_int (by simp [binOp, Op.intArith]; rfl) rfl)
theorem Act.sub' (hx : ev σ L x = some (.int j a)) (hy : ev σ L y = some (.int j b)) : Act A (.bin .sub t x y) σ L H nx (.int j (j.wrap (a - b))) H nx :=
  .binV hx hy (binV_of rfl rfl guard_int (by simp [binOp, Op.intArith]; rfl) rfl)
theorem Act.mul' (hx : ev σ L x = some (.int j a)) (hy : ev σ L y = some (.int j b)) : Act A (.bin .mul t x y) σ L H nx (.int j (j.wrap (a * b))) H nx :=
  .binV hx hy (binV_of rfl rfl guard_int (by simp [binOp, Op.intArith]; rfl) rfl)
theorem Act.quo' (hx : ev σ L x = some (.int j a)) (hy : ev σ L y = some (.int j b)) (h0 : b ≠ 0) : Act A (.bin .quo t x y) σ L H nx (.int j (j.wrap (a.tdiv b))) H nx :=
  .binV hx hy (binV_of rfl rfl guard_int (by simp [binOp, Op.intDiv, h0]; rfl) rfl)
theorem Act.rem' (hx : ev σ L x = some (.int j a)) (hy : ev σ L y = some (.int j b)) (h0 : b ≠ 0) : Act A (.bin .rem t x y) σ L H nx (.int j (a.tmod b)) H nx :=
  .binV hx hy (binV_of rfl rfl guard_int (by simp [binOp, Op.intDiv, h0]; rfl) rfl)
theorem Act.eqlI (hx : ev σ L x = some (.int j a)) (hy : ev σ L y = some (.int j b)) : Act A (.bin .eql t x y) σ L H nx (.bool (decide (a = b))) H nx :=
  .binV hx hy (binV_of rfl rfl guard_int (by simp [binOp, Op.intCmp]; rfl) rfl)
theorem Act.neqI (hx : ev σ L x = some (.int j a)) (hy : ev σ L y = some (.int j b)) : Act A (.bin .neq t x y) σ L H nx (.bool (decide (a ≠ b))) H nx :=
  .binV hx hy (binV_of rfl rfl guard_int (by simp [binOp, Op.intCmp, bne]; rfl) rfl)
theorem Act.lss (hx : ev σ L x = some (.int j a)) (hy : ev σ L y = some (.int j b)) : Act A (.bin .lss t x y) σ L H nx (.bool (decide (a < b))) H nx :=
  .binV hx hy (binV_of rfl rfl guard_int (by simp [binOp, Op.intCmp]; rfl) rfl)
theorem Act.leq (hx : ev σ L x = some (.int j a)) (hy : ev σ L y = some (.int j b)) : Act A (.bin .leq t x y) σ L H nx (.bool (decide (a ≤ b))) H nx :=
  .binV hx hy (binV_of rfl rfl guard_int (by simp [binOp, Op.intCmp]; rfl) rfl)
theorem Act.gtr (hx : ev σ L x = some (.int j a)) (hy : ev σ L y = some (.int j b)) : Act A (.bin .gtr t x y) σ L H nx (.bool (decide (b < a))) H nx :=
  .binV hx hy (binV_of rfl rfl guard_int (by simp [binOp, Op.intCmp]; rfl) rfl)
theorem Act.geq (hx : ev σ L x = some (.int j a)) (hy : ev σ L y = some (.int j b)) : Act A (.bin .geq t x y) σ L H nx (.bool (decide (b ≤ a))) H nx :=
  .binV hx hy (binV_of rfl rfl guard_int (by simp [binOp, Op.intCmp]; rfl) rfl)
end ints

def In64 (n : Int) : Prop := -9223372036854775808 ≤ n ∧ n ≤ 9223372036854775807
theorem wrap_id {n : Int} (h : In64 n) : IntKind.i64.wrap n = n := by
  obtain ⟨h1, h2⟩ := h
  unfold IntKind.wrap IntKind.signed IntKind.bits
  simp only [Bool.true_and, ge_iff_le, decide_eq_true_eq]
  split <;> omega
section i64
variable {t : TypeId} {x y : Od} {a b : Int}
theorem Act.add (hx : ev σ L x = some (.int .i64 a)) (hy : ev σ L y = some (.int .i64 b)) (h : In64 (a + b)) : Act A (.bin .add t x y) σ L H nx (.int .i64 (a + b)) H nx := by
  have := Act.add' (A := A) (H := H) (nx := nx) (t := t) hx hy
  rwa [wrap_id h] at this
theorem Act.sub (hx : ev σ L x = some (.int .i64 a)) (hy : ev σ L y = some (.int .i64 b)) (h : In64 (a - b)) : Act A (.bin .sub t x y) σ L H nx (.int .i64 (a - b)) H nx := by
  have := Act.sub' (A := A) (H := H) (nx := nx) (t := t) hx hy
  rwa [wrap_id h] at this
theorem Act.mul (hx : ev σ L x = some (.int .i64 a)) (hy : ev σ L y = some (.int .i64 b)) (h : In64 (a * b)) : Act A (.bin .mul t x y) σ L H nx (.int .i64 (a * b)) H nx := by
  have := Act.mul' (A := A) (H := H) (nx := nx) (t := t) hx hy
  rwa [wrap_id h] at this
theorem Act.quo (hx : ev σ L x = some (.int .i64 a)) (hy : ev σ L y = some (.int .i64 b)) (h0 : 0 < b) (h : In64 a) (ha : 0 ≤ a) : Act A (.bin .quo t x y) σ L H nx (.int .i64 (a / b)) H nx := by
  have := Act.quo' (A := A) (H := H) (nx := nx) (t := t) hx hy (by omega)
  have h1 : a / b ≤ a := by
    have h2 := Int.ediv_le_self b ha
    exact h2
  have h2 : 0 ≤ a / b := Int.ediv_nonneg ha (by omega)
  rwa [Int.tdiv_eq_ediv_of_nonneg ha, wrap_id ⟨by omega, by have := h.2; omega⟩] at this
theorem Act.rem (hx : ev σ L x = some (.int .i64 a)) (hy : ev σ L y = some (.int .i64 b)) (h0 : 0 < b) (ha : 0 ≤ a) : Act A (.bin .rem t x y) σ L H nx (.int .i64 (a % b)) H nx := by
  have := Act.rem' (A := A) (H := H) (nx := nx) (t := t) hx hy (by omega)
  rwa [Int.tmod_eq_emod_of_nonneg ha] at this
end i64

/-! numbers that are known to be natural -/
section nats
variable {t : TypeId} {x y : Od} {a b : Nat}
theorem Act.addN (hx : ev σ L x = some (.int .i64 (a : Int))) (hy : ev σ L y = some (.int .i64 (b : Int))) (h : a + b ≤ 9223372036854775807) : Act A (.bin .add t x y) σ L H nx (.int .i64 ((a + b : Nat) : Int)) H nx := by
  have := Act.add (A := A) (H := H) (nx := nx) (t := t) hx hy ⟨by omega, by omega⟩
  rwa [← Int.natCast_add] at this
theorem Act.subN (hx : ev σ L x = some (.int .i64 (a : Int))) (hy : ev σ L y = some (.int .i64 (b : Int))) (hb : b ≤ a) (h : a ≤ 9223372036854775807) : Act A (.bin .sub t x y) σ L H nx (.int .i64 ((a - b : Nat) : Int)) H nx := by
  have := Act.sub (A := A) (H := H) (nx := nx) (t := t) hx hy ⟨by omega, by omega⟩
  rwa [← Int.natCast_sub hb] at this
theorem Act.mulN (hx : ev σ L x = some (.int .i64 (a : Int))) (hy : ev σ L y = some (.int .i64 (b : Int))) (h : a * b ≤ 9223372036854775807) : Act A (.bin .mul t x y) σ L H nx (.int .i64 ((a * b : Nat) : Int)) H nx := by
  have := Act.mul (A := A) (H := H) (nx := nx) (t := t) (a := (a : Int)) (b := (b : Int)) hx hy ⟨by rw [← Int.natCast_mul]; omega, by rw [← Int.natCast_mul]; omega⟩
  rwa [← Int.natCast_mul] at this
theorem Act.quoN (hx : ev σ L x = some (.int .i64 (a : Int))) (hy : ev σ L y = some (.int .i64 (b : Int))) (h0 : 0 < b) (h : a ≤ 9223372036854775807) : Act A (.bin .quo t x y) σ L H nx (.int .i64 ((a / b : Nat) : Int)) H nx := by
  have := Act.quo (A := A) (H := H) (nx := nx) (t := t) hx hy (by omega) ⟨by omega, by omega⟩ (by omega)
  rwa [← Int.natCast_ediv] at this
theorem Act.remN (hx : ev σ L x = some (.int .i64 (a : Int))) (hy : ev σ L y = some (.int .i64 (b : Int))) (h0 : 0 < b) : Act A (.bin .rem t x y) σ L H nx (.int .i64 ((a % b : Nat) : Int)) H nx := by
  have := Act.rem (A := A) (H := H) (nx := nx) (t := t) hx hy (by omega) (by omega)
  rwa [← Int.natCast_emod] at this
end nats

theorem Act.not {x : Od} {b : Bool} (hx : ev σ L x = some (.bool b)) : Act A (.un .not x) σ L H nx (.bool (!b)) H nx := by
  refine ⟨fun T hT k => ?_⟩
  show evK T L x (fun v => bd (flatly A.P [v] (Op.unary .not v)) fun v => k v H nx) = _
  rw [hT.evK hx]
  rfl
theorem Act.neg {x : Od} {n : Int} (hx : ev σ L x = some (.int .i64 n)) (h : In64 (-n)) : Act A (.un .neg x) σ L H nx (.int .i64 (-n)) H nx := by
  refine ⟨fun T hT k => ?_⟩
  show evK T L x (fun v => bd (flatly A.P [v] (Op.unary .neg v)) fun v => k v H nx) = _
  rw [hT.evK hx]
  have : Op.unary .neg (.int .i64 n) = Sem.pure (.int .i64 (-n)) := by
    show Sem.pure (Value.int .i64 (IntKind.i64.wrap (0 - n))) = _
    rw [show 0 - n = -n by omega, wrap_id h]
  rw [this]
  rfl

/-! structs, tuples, functions -/
theorem Act.bld {zero : List Value} {parts : List (Nat × Nat × Od)} {ps : List (Nat × Nat × Value)} {cs : List Value} (hp : evp σ L parts = some ps) (hc : fillIn zero ps = some cs) : Act A (.bld zero parts) σ L H nx (.agg ⟨cs⟩) H nx := by
  refine ⟨fun T hT k => ?_⟩
  show partsK T L parts (fun ps => bd (fillIn zero ps) fun cs => k (.agg cs.toArray) H nx) = _
  rw [hT.partsK hp, hc]
  rfl
theorem Act.clo {f : FuncId} {first cp : List Od} {a b : List Value} (ha : evs σ L first = some a) (hb : evs σ L cp = some b) : Act A (.clo f first cp) σ L H nx (.func (.func f) ⟨a⟩ ⟨b⟩) H nx := by
  refine ⟨fun T hT k => ?_⟩
  show evsK T L first (fun a => evsK T L cp fun b => k (.func (.func f) a.toArray b.toArray) H nx) = _
  rw [hT.evsK ha, hT.evsK hb]
theorem Act.ifc {t : TypeId} {x : Od} {v : Value} (hx : ev σ L x = some v) : Act A (.ifc t x) σ L H nx (.iface t v) H nx := ⟨fun _ hT k => hT.evK hx _⟩
theorem Act.isnil {neg : Bool} {kd : Nat} {x y : Od} {v u : Value} {a b : Bool} (hx : ev σ L x = some v) (hy : ev σ L y = some u) (h1 : nilOne kd v = some a) (h2 : nilOne kd u = some b) (h3 : (a || b) = true) : Act A (.isnil neg kd x y) σ L H nx (.bool (xor neg (a && b))) H nx := by
  refine ⟨fun T hT k => ?_⟩
  show evK T L x (fun a => evK T L y fun b => isnilV neg kd a b fun v => k v H nx) = _
  rw [hT.evK hx, hT.evK hy]
  show bd (nilOne kd v) (fun a => bd (nilOne kd u) fun b => cond (or a b) (k (.bool (xor neg (and a b))) H nx) none) = _
  rw [h1, h2]
  show cond (or a b) _ none = _
  rw [h3]
  rfl
theorem Act.len {x : Od} {base : Option Addr} {n c : Nat} (hx : ev σ L x = some (.slice base n c)) : Act A (.len x) σ L H nx (.int .i64 n) H nx := ⟨fun _ hT k => (hT.evK hx _).trans rfl⟩
theorem Act.sln {x : Od} {s : ByteArray} (hx : ev σ L x = some (.string s)) : Act A (.sln x) σ L H nx (.int .i64 s.size) H nx := ⟨fun _ hT k => (hT.evK hx _).trans rfl⟩

/-! slices of slices: bounds that are there or not -/
def evo (σ : Slots) (L : List Value) (d : Nat) : Option Od → Option Nat
  | none => some d
  | some x => match ev σ L x with
    | some (.int _ (.ofNat n)) => some n
    | _ => none
theorem Has.optK {T : Tr Value} (hT : Has T σ) {x : Option Od} {d n : Nat} (h : evo σ L d x = some n) (k : Nat → R0) : Eng.optK T L x d k = k n := by
  cases x with
  | none => cases h; rfl
  | some x =>
    have h' : (match Eng.ev σ L x with
      | some (.int _ (.ofNat n)) => some n
      | _ => none) = some n := h
    show Eng.evK T L x (fun v => onNat v k) = _
    split at h'
    · rename_i e
      cases h'
      rw [hT.evK e]
      rfl
    · cases h'
theorem Act.slc {x : Od} {lo hi : Option Od} {z b o len c l h : Nat} (hx : ev σ L x = some (.slice (some ⟨b, o, some z⟩) len c)) (hl : evo σ L 0 lo = some l) (hh : evo σ L len hi = some h) (h1 : l ≤ h) (h2 : h ≤ sureCap c) :
    Act A (.slc x lo hi none z) σ L H nx (.slice (some ⟨b, o + l * z, some z⟩) (h - l) (c - 2 * l)) H nx := by
  refine ⟨fun T hT k => ?_⟩
  show evK T L x (fun v => slcV T L lo hi none z (fun v => k v H nx) v) = _
  rw [hT.evK hx]
  show optK T L lo 0 (fun l => optK T L hi len fun h => cond (and (Nat.beq z z) (and (Nat.ble l h) (Nat.ble h (sureCap c)))) (slcM T L none (fun v => k v H nx) b o z l h c) none) = _
  rw [hT.optK hl, hT.optK hh]
  have e1 : Nat.beq z z = true := by simp
  have e2 : Nat.ble l h = true := Nat.ble_eq_true_of_le h1
  have e3 : Nat.ble h (sureCap c) = true := Nat.ble_eq_true_of_le h2
  simp only [e1, e2, e3, and, cond_true]
  rfl
theorem Act.slcNil {x : Od} {lo hi : Option Od} {z n c : Nat} (hx : ev σ L x = some (.slice none n c)) (hl : evo σ L 0 lo = some 0) (hh : evo σ L 0 hi = some 0) : Act A (.slc x lo hi none z) σ L H nx (.slice none 0 0) H nx := by
  refine ⟨fun T hT k => ?_⟩
  show evK T L x (fun v => slcV T L lo hi none z (fun v => k v H nx) v) = _
  rw [hT.evK hx]
  show optK T L lo 0 (fun l => optK T L hi 0 fun h => cond (and (Nat.beq l 0) (and (Nat.beq h 0) true)) (k (.slice none 0 0) H nx) none) = _
  rw [hT.optK hl, hT.optK hh]
  rfl

/-! ### the heap -/
/-- a block's cells: ours, or to be read alone -/
def Rd (H : Heap) (b : Nat) (cs : List Value) : Prop := getP H (at_ b) = some (.cells cs) ∨ getP H (at_ b) = some (.ro cs)
theorem Rd.cellsR {b : Nat} {cs : List Value} (h : Rd H b cs) (k : List Value → R0) : Eng.cellsR H b k = k cs := by
  unfold Eng.cellsR onRead
  rcases h with h | h <;> rw [h]
theorem cellsK_of {b : Nat} {cs : List Value} (h : getP H (at_ b) = some (.cells cs)) (k : List Value → R0) : cellsK H b k = k cs := by
  unfold cellsK onCells
  rw [h]
theorem Act.lod {x : Od} {g : Option Nat} {b o : Nat} {cs : List Value} {v : Value} (hx : ev σ L x = some (.pointer (some ⟨b, o, none⟩))) (hr : Rd H b cs) (hv : partOf cs o g = some v) : Act A (.lod x g) σ L H nx v H nx := by
  refine ⟨fun T hT k => ?_⟩
  show evK T L x (fun v => onPtr v fun b o => cellsR H b fun cs => bd (partOf cs o g) fun v => k v H nx) = _
  rw [hT.evK hx]
  show cellsR H b _ = _
  rw [hr.cellsR, hv]
  rfl
/-- the heap with a block written, or made -/
def set1 (H : Heap) (b : Nat) (cs : List Value) : Heap := insP (at_ b) H (some (.cells cs))
def kill (H : Heap) (b : Nat) : Heap := insP (at_ b) H none
theorem get_set1 {b c : Nat} {cs : List Value} : getP (set1 H b cs) (at_ c) = if c = b then some (.cells cs) else getP H (at_ c) := by
  unfold set1
  by_cases h : c = b
  · subst h; rw [getP_insP]; simp
  · rw [getP_insP_ne _ _ _ _ (fun e => h (at_inj e))]; simp [h]
theorem get_kill {b c : Nat} : getP (kill H b) (at_ c) = if c = b then none else getP H (at_ c) := by
  unfold kill
  by_cases h : c = b
  · subst h; rw [getP_insP]; simp
  · rw [getP_insP_ne _ _ _ _ (fun e => h (at_inj e))]; simp [h]
theorem fresh_of {v : Value} {k : KA} {cs : List Value} : fresh H nx v k cs = k v (set1 H nx cs) (nx + 1) := by
  unfold fresh
  rw [setP_eq]
  rfl
theorem Act.box {x : Od} {v : Value} (hx : ev σ L x = some v) : Act A (.box x) σ L H nx (.pointer (some ⟨nx, 0, none⟩)) (set1 H nx (cellsOf v)) (nx + 1) := by
  refine ⟨fun T hT k => ?_⟩
  show evK T L x (fun v => fresh H nx (ptrTo nx) k (cellsOf v)) = _
  rw [hT.evK hx, fresh_of]
  rfl
theorem Act.alc {zero : List Value} : Act A (.alc zero) σ L H nx (.pointer (some ⟨nx, 0, none⟩)) (set1 H nx zero) (nx + 1) := by
  refine ⟨fun T hT k => ?_⟩
  show fresh H nx (ptrTo nx) k zero = _
  rw [fresh_of]
  rfl
theorem Act.mks {z by_ : Nat} {zero : List Value} {l c : Od} {j j' : IntKind} {n m : Nat} (hl : ev σ L l = some (.int j n)) (hc : ev σ L c = some (.int j' m)) (h1 : n ≤ m) (h2 : m * by_ ≤ small) (h3 : m ≤ small) (h4 : 0 < z) :
    Act A (.mks z by_ zero l c) σ L H nx (.slice (some ⟨nx, 0, some z⟩) n (2 * m + 1)) (set1 H nx (repeatN zero m)) (nx + 1) := by
  refine ⟨fun T hT k => ?_⟩
  show evK T L l (fun l => onNat l fun l => evK T L c fun c => onNat c fun c => mksV z by_ zero H nx l c k) = _
  rw [hT.evK hl]
  show evK T L c (fun c => onNat c fun c => mksV z by_ zero H nx n c k) = _
  rw [hT.evK hc]
  show cond (and (Nat.ble n m) (and (Nat.ble (m * by_) small) (and (Nat.ble m small) (Nat.blt 0 z)))) (fresh H nx (slTo nx z n (Nat.succ (2 * m))) k (repeatN zero m)) none = _
  have e1 : Nat.ble n m = true := Nat.ble_eq_true_of_le h1
  have e2 : Nat.ble (m * by_) small = true := Nat.ble_eq_true_of_le h2
  have e3 : Nat.ble m small = true := Nat.ble_eq_true_of_le h3
  have e4 : Nat.blt 0 z = true := by rw [Nat.blt_eq]; exact h4
  rw [e1, e2, e3, e4]
  exact fresh_of
theorem Act.bsl {z len : Nat} {zero : List Value} {parts : List (Nat × Nat × Od)} {ps : List (Nat × Nat × Value)} {cs : List Value} (hp : evp σ L parts = some ps) (hc : fillIn (repeatN zero len) ps = some cs) (hz : 0 < z) :
    Act A (.bsl z len zero parts) σ L H nx (.slice (some ⟨nx, 0, some z⟩) len (2 * len + 1)) (set1 H nx cs) (nx + 1) := by
  refine ⟨fun T hT k => ?_⟩
  show partsK T L parts (fun ps => bd (fillIn (repeatN zero len) ps) fun cs => cond (Nat.blt 0 z) (fresh H nx (slTo nx z len (Nat.succ (Nat.mul 2 len))) k cs) none) = _
  rw [hT.partsK hp, hc]
  have e4 : Nat.blt 0 z = true := by rw [Nat.blt_eq]; exact hz
  show cond (Nat.blt 0 z) _ none = _
  rw [e4]
  exact fresh_of
theorem putNth_of : ∀ (l : List Value) (o : Nat) (v : Value) (k : List Value → R0), o < l.length → putNth l o v k = k (l.set o v) := by
  intro l
  induction l with
  | nil => intro o v k h; simp at h
  | cons c l ih =>
    intro o v k h
    cases o with
    | zero => rfl
    | succ o => exact ih o v (fun l => k (c :: l)) (by simpa using h)
theorem put1_of {b : Nat} {v : Value} {k : KA} {cs : List Value} : put1 H nx b v k cs = k v (set1 H b cs) nx := by
  unfold put1
  rw [setP_eq]
  rfl
/-- a store of one cell -/
theorem Act.sto1 {x y : Od} {b o : Nat} {cs : List Value} {v : Value} (hx : ev σ L x = some (.pointer (some ⟨b, o, none⟩))) (hy : ev σ L y = some v) (h1 : cellsOf v = [v]) (h2 : oneC v = true) (hr : getP H (at_ b) = some (.cells cs)) (ho : o < cs.length) :
    Act A (.sto x y 1) σ L H nx undef (set1 H b (cs.set o v)) nx := by
  refine ⟨fun T hT k => ?_⟩
  show evK T L x (fun x => evK T L y fun v => onPtr x (stoV H nx 1 (cellsOf v) k)) = _
  rw [hT.evK hx, hT.evK hy]
  show stoV H nx 1 (cellsOf v) k b o = _
  rw [h1]
  have : (Nat.beq [v].length 1 && allOne [v]) = true := by
    show (Nat.beq 1 1 && cond (oneC v) true false) = true
    rw [h2]; rfl
  show cond (Nat.beq [v].length 1 && allOne [v]) _ none = _
  rw [this]
  show cellsK H b (fun old => stoL H nx b o [v] old k) = _
  rw [cellsK_of hr]
  show putNth cs o v (put1 H nx b undef k) = _
  rw [putNth_of _ _ _ _ ho, put1_of]
theorem over_of : ∀ (o : Nat) (cs vs : List Value), o + vs.length ≤ cs.length → over cs o vs = some (cs.take o ++ vs ++ cs.drop (o + vs.length)) := by
  intro o
  induction o with
  | zero =>
    intro cs vs
    induction vs generalizing cs with
    | nil => intro _; show overAll cs [] = _; cases cs <;> simp [overAll]
    | cons v vs ih =>
      intro h
      cases cs with
      | nil => simp at h
      | cons c cs =>
        have h' := ih cs (by simp at h; omega)
        show overAll (c :: cs) (v :: vs) = _
        have h'' : overAll cs vs = some (cs.take 0 ++ vs ++ cs.drop (0 + vs.length)) := h'
        simp only [overAll, h'']
        simp
  | succ o ih =>
    intro cs vs h
    cases cs with
    | nil => simp at h
    | cons c cs =>
      have h' := ih cs vs (by simp at h; omega)
      show (Option.rec none (fun r => some (c :: r)) (over cs o vs) : Option (List Value)) = _
      rw [h']
      simp
      rw [show o + 1 + vs.length = (o + vs.length) + 1 by omega]
      simp
/-- a store of an aggregate of two cells or more -/
theorem Act.stoN {x y : Od} {b o n : Nat} {cs vs : List Value} (hx : ev σ L x = some (.pointer (some ⟨b, o, none⟩))) (hy : ev σ L y = some (.agg ⟨vs⟩)) (hn : vs.length = n) (h1 : 1 < n) (h2 : allOne vs = true) (hr : getP H (at_ b) = some (.cells cs)) (ho : o + n ≤ cs.length) :
    Act A (.sto x y n) σ L H nx undef (set1 H b (cs.take o ++ vs ++ cs.drop (o + n))) nx := by
  refine ⟨fun T hT k => ?_⟩
  show evK T L x (fun x => evK T L y fun v => onPtr x (stoV H nx n (cellsOf v) k)) = _
  rw [hT.evK hx, hT.evK hy]
  show stoV H nx n vs k b o = _
  have : (Nat.beq vs.length n && allOne vs) = true := by rw [h2, hn]; simp
  show cond (Nat.beq vs.length n && allOne vs) _ none = _
  rw [this]
  show cellsK H b (fun old => stoL H nx b o vs old k) = _
  rw [cellsK_of hr]
  match vs, hn, h1 with
  | v :: u :: vs, hn, _ =>
    show bd (over cs o (v :: u :: vs)) (put1 H nx b undef k) = _
    rw [over_of _ _ _ (by rw [hn]; exact ho), hn]
    exact put1_of

/-! ### append -/
/-- what is appended: a slice's cells, or none -/
def SrcE (H : Heap) (z : Nat) (v : Value) (n : Nat) (cs : List Value) : Prop :=
  (∃ a c, v = .slice none a c ∧ n = 0 ∧ cs = []) ∨ (∃ b o c, v = .slice (some ⟨b, o, some z⟩) n c ∧ (n = 0 ∧ cs = [] ∨ n ≠ 0 ∧ ∃ all, Rd H b all ∧ take? (n * z) (all.drop o) = some cs))
theorem SrcE.srcK {z n : Nat} {v : Value} {cs : List Value} (h : SrcE H z v n cs) (k : Nat → List Value → R0) : Eng.srcK H z k v = k n cs := by
  rcases h with ⟨a, c, rfl, rfl, rfl⟩ | ⟨b, o, c, rfl, h⟩
  · rfl
  · have e1 : Nat.beq z z = true := by simp
    show cond (Nat.beq z z) (cond (Nat.beq n 0) (k 0 []) (Eng.cellsR H b fun cs => bd (take? (Nat.mul n z) (dropN cs o)) fun cs => k n cs)) none = _
    rw [e1]
    rcases h with ⟨rfl, rfl⟩ | ⟨h0, all, h1, h2⟩
    · rfl
    · have : Nat.beq n 0 = false := by
        cases hb : Nat.beq n 0 with
        | false => rfl
        | true => exact absurd (Nat.eq_of_beq_eq_true hb) h0
      rw [this]
      show Eng.cellsR H b _ = _
      rw [h1.cellsR, dropN_eq]
      show bd (take? (n * z) (all.drop o)) _ = _
      rw [h2]
      rfl

theorem appNew_of {z by_ len n : Nat} {old new : List Value} {k : KA} (h1 : (len + n) * by_ ≤ small) (h2 : len + n ≤ small) : appNew z by_ H nx k len n old new = k (.slice (some ⟨nx, 0, some z⟩) (len + n) (2 * (len + n))) (set1 H nx (old ++ new)) (nx + 1) := by
  unfold appNew
  have e1 : Nat.ble (Nat.mul (Nat.add len n) by_) small = true := Nat.ble_eq_true_of_le h1
  have e2 : Nat.ble (Nat.add len n) small = true := Nat.ble_eq_true_of_le h2
  rw [e1, e2]
  exact fresh_of

/-- append to nil -/
theorem Act.appNil {z by_ : Nat} {zero : List Value} {s x : Od} {a c n : Nat} {v : Value} {new : List Value} (hs : ev σ L s = some (.slice none a c)) (hx : ev σ L x = some v) (hsrc : SrcE H z v n new) (hn : n ≠ 0) (hz : 0 < z) (h1 : n * by_ ≤ small) (h2 : n ≤ small) :
    Act A (.app z by_ zero s x false) σ L H nx (.slice (some ⟨nx, 0, some z⟩) n (2 * n)) (set1 H nx new) (nx + 1) := by
  refine ⟨fun T hT k => ?_⟩
  show evK T L s (fun s => evK T L x fun x => srcK H z (appV z by_ H nx k s) x) = _
  rw [hT.evK hs, hT.evK hx, hsrc.srcK]
  show cond (Nat.beq n 0) (k (.slice none 0 0) H nx) (cond (Nat.blt 0 z) (appNew z by_ H nx k 0 n [] new) none) = _
  have e0 : Nat.beq n 0 = false := by
    cases hb : Nat.beq n 0 with
    | false => rfl
    | true => exact absurd (Nat.eq_of_beq_eq_true hb) hn
  have e1 : Nat.blt 0 z = true := by rw [Nat.blt_eq]; exact hz
  rw [e0, e1]
  show appNew z by_ H nx k 0 n [] new = _
  rw [appNew_of (by simpa using h1) (by simpa using h2)]
  simp
theorem Act.appNil0 {z by_ : Nat} {zero : List Value} {s x : Od} {a c : Nat} {v : Value} {new : List Value} (hs : ev σ L s = some (.slice none a c)) (hx : ev σ L x = some v) (hsrc : SrcE H z v 0 new) :
    Act A (.app z by_ zero s x false) σ L H nx (.slice none 0 0) H nx := by
  refine ⟨fun T hT k => ?_⟩
  show evK T L s (fun s => evK T L x fun x => srcK H z (appV z by_ H nx k s) x) = _
  rw [hT.evK hs, hT.evK hx, hsrc.srcK]
  rfl
theorem appV_of {z by_ b o len c n : Nat} {new : List Value} {k : KA} (hz : 0 < z) (h1 : allOne new = true) (hn : n ≠ 0) :
    appV z by_ H nx k (.slice (some ⟨b, o, some z⟩) len c) n new = cond (Nat.ble (len + n) (sureCap c)) (appIn z H nx k b o len c n new) (appOff z by_ H nx k b o len c n new) := by
  show cond (and (Nat.beq z z) (and (Nat.blt 0 z) (allOne new))) (cond (Nat.beq n 0) _ _) none = _
  have e0 : Nat.beq n 0 = false := by
    cases hb : Nat.beq n 0 with
    | false => rfl
    | true => exact absurd (Nat.eq_of_beq_eq_true hb) hn
  have e1 : Nat.blt 0 z = true := by rw [Nat.blt_eq]; exact hz
  have e2 : Nat.beq z z = true := by simp
  rw [e0, e1, e2, h1]
  rfl
/-- append beyond what is sure to be there: the old block is given up, unless its capacity is known -/
theorem Act.appOff {z by_ : Nat} {zero : List Value} {s x : Od} {b o len c n : Nat} {v : Value} {cs old new : List Value} (hs : ev σ L s = some (.slice (some ⟨b, o, some z⟩) len c)) (hx : ev σ L x = some v) (hsrc : SrcE H z v n new) (hn : n ≠ 0) (hz : 0 < z)
    (h1 : allOne new = true) (hr : getP H (at_ b) = some (.cells cs)) (hold : take? (len * z) (cs.drop o) = some old) (hc : sureCap c < len + n) (he : exact c = false) (h2 : (len + n) * by_ ≤ small) (h3 : len + n ≤ small) :
    Act A (.app z by_ zero s x false) σ L H nx (.slice (some ⟨nx, 0, some z⟩) (len + n) (2 * (len + n))) (set1 (kill H b) nx (old ++ new)) (nx + 1) := by
  refine ⟨fun T hT k => ?_⟩
  show evK T L s (fun s => evK T L x fun x => srcK H z (appV z by_ H nx k s) x) = _
  rw [hT.evK hs, hT.evK hx, hsrc.srcK, appV_of hz h1 hn]
  have e : Nat.ble (len + n) (sureCap c) = false := by
    cases hb : Nat.ble (len + n) (sureCap c) with
    | false => rfl
    | true => have := Nat.le_of_ble_eq_true hb; omega
  rw [e]
  show cellsK H b (fun cs => bd (take? (Nat.mul len z) (dropN cs o)) fun old => cond (exact c) (appNew z by_ H nx k len n old new) (setP (at_ b) H none fun H => appNew z by_ H nx k len n old new)) = _
  rw [cellsK_of hr, dropN_eq]
  show bd (take? (len * z) (cs.drop o)) _ = _
  rw [hold, he]
  show setP (at_ b) H none (fun H => appNew z by_ H nx k len n old new) = _
  rw [setP_eq]
  exact appNew_of h2 h3
theorem Act.appExact {z by_ : Nat} {zero : List Value} {s x : Od} {b o len c n : Nat} {v : Value} {cs old new : List Value} (hs : ev σ L s = some (.slice (some ⟨b, o, some z⟩) len c)) (hx : ev σ L x = some v) (hsrc : SrcE H z v n new) (hn : n ≠ 0) (hz : 0 < z)
    (h1 : allOne new = true) (hr : getP H (at_ b) = some (.cells cs)) (hold : take? (len * z) (cs.drop o) = some old) (hc : sureCap c < len + n) (he : exact c = true) (h2 : (len + n) * by_ ≤ small) (h3 : len + n ≤ small) :
    Act A (.app z by_ zero s x false) σ L H nx (.slice (some ⟨nx, 0, some z⟩) (len + n) (2 * (len + n))) (set1 H nx (old ++ new)) (nx + 1) := by
  refine ⟨fun T hT k => ?_⟩
  show evK T L s (fun s => evK T L x fun x => srcK H z (appV z by_ H nx k s) x) = _
  rw [hT.evK hs, hT.evK hx, hsrc.srcK, appV_of hz h1 hn]
  have e : Nat.ble (len + n) (sureCap c) = false := by
    cases hb : Nat.ble (len + n) (sureCap c) with
    | false => rfl
    | true => have := Nat.le_of_ble_eq_true hb; omega
  rw [e]
  show cellsK H b (fun cs => bd (take? (Nat.mul len z) (dropN cs o)) fun old => cond (exact c) (appNew z by_ H nx k len n old new) (setP (at_ b) H none fun H => appNew z by_ H nx k len n old new)) = _
  rw [cellsK_of hr, dropN_eq]
  show bd (take? (len * z) (cs.drop o)) _ = _
  rw [hold, he]
  exact appNew_of h2 h3
theorem Act.app0 {z by_ : Nat} {zero : List Value} {s x : Od} {b o len c : Nat} {v : Value} (hs : ev σ L s = some (.slice (some ⟨b, o, some z⟩) len c)) (hx : ev σ L x = some v) (hsrc : SrcE H z v 0 []) (hz : 0 < z) :
    Act A (.app z by_ zero s x false) σ L H nx (.slice (some ⟨b, o, some z⟩) len c) H nx := by
  refine ⟨fun T hT k => ?_⟩
  show evK T L s (fun s => evK T L x fun x => srcK H z (appV z by_ H nx k s) x) = _
  rw [hT.evK hs, hT.evK hx, hsrc.srcK]
  show cond (and (Nat.beq z z) (and (Nat.blt 0 z) (allOne []))) _ none = _
  have e1 : Nat.blt 0 z = true := by rw [Nat.blt_eq]; exact hz
  have e2 : Nat.beq z z = true := by simp
  rw [e1, e2]
  rfl
end Go.Eng
/- The engine's operations: the forms that a walk takes. -/
namespace Go.Eng
variable {A : AProg} {H H' : Heap} {nx nx' : Nat} {σ : Slots} {L : List Value} {Q : Post}

theorem stN {b : ACode} (h : WC A b σ H nx Q) : afterSeq A b Q .normal σ H nx := h
theorem stE {b : ACode} {i : Nat} (h : Q (.exit i) σ H nx) : afterSeq A b Q (.exit i) σ H nx := h
theorem stR {b : ACode} (h : Q .ret σ H nx) : afterSeq A b Q .ret σ H nx := h
theorem drN (h : Q .normal σ H nx) : afterDraw Q .normal σ H nx := ⟨rfl, h⟩
theorem bkN {id : Nat} (h : Q .normal σ H nx) : afterBlock id Q .normal σ H nx := h
theorem bkE {id : Nat} (h : Q .normal σ H nx) : afterBlock id Q (.exit id) σ H nx := by
  show cond (Nat.beq id id) _ _
  have : Nat.beq id id = true := by simp
  rw [this]; exact h
theorem bkO {id i : Nat} (hi : Nat.beq i id = false) (h : Q (.exit i) σ H nx) : afterBlock id Q (.exit i) σ H nx := by
  show cond (Nat.beq i id) _ _
  rw [hi]; exact h
theorem bkR {id : Nat} (h : Q .ret σ H nx) : afterBlock id Q .ret σ H nx := h

theorem WC.condT {x : Od} {a b : ACode} (hx : ev σ [] x = some (.bool true)) (h : WC A a σ H nx Q) : WC A (.cond x a b) σ H nx Q := .cond hx (fun _ => h) (fun e => by cases e)
theorem WC.condF {x : Od} {a b : ACode} (hx : ev σ [] x = some (.bool false)) (h : WC A b σ H nx Q) : WC A (.cond x a b) σ H nx Q := .cond hx (fun e => by cases e) (fun _ => h)

section ops
variable {l : List (AO × List Again)} {p : Option (List Bool)} {ag : List Again} {op : AOp Od}
theorem WO.gYes {g : Nat} {want : Bool} (hg : L[g]? = some (.bool want)) (h : WO A ((⟨p, none, op⟩, ag) :: l) σ L H nx Q) : WO A ((⟨p, some (g, want), op⟩, ag) :: l) σ L H nx Q :=
  .guard hg (fun _ => h) (fun e => by cases want <;> cases e)
theorem WO.gNo {g : Nat} {want : Bool} (hg : L[g]? = some (.bool (!want))) (h : WO A l σ (undef :: L) H nx Q) : WO A ((⟨none, some (g, want), op⟩, []) :: l) σ L H nx Q :=
  .guard hg (fun e => by cases want <;> cases e) (fun _ => ⟨.nil, h⟩)
theorem WO.gNoK {q : List Bool} {g : Nat} {want : Bool} (hg : L[g]? = some (.bool (!want))) (h : WO A l ((q, undef) :: σ) (undef :: L) H nx Q) : WO A ((⟨some q, some (g, want), op⟩, []) :: l) σ L H nx Q :=
  .guard hg (fun e => by cases want <;> cases e) (fun _ => ⟨.nil, h⟩)
theorem WO.skipG {q : Option (List Bool)} {gw : Nat × Bool} (hw : wanted L (some gw) = false) (h : WO A l (putS q undef σ) (undef :: L) H nx Q) : WO A ((⟨q, some gw, op⟩, []) :: l) σ L H nx Q := by
  refine ⟨fun T hT => ?_⟩
  obtain ⟨m, e, T2, H2, nx2, g1, g2⟩ := h.ends _ (hT.putS q undef)
  refine ⟨m, e, T2, H2, nx2, ?_, g2⟩
  show _root_.cond (wanted L (some gw)) _ (contO A.P q [] (runOps A (run A m) l) T L [] undef H nx) = _
  rw [hw]
  show contO A.P q [] (runOps A (run A m) l) T L [] undef H nx = _
  unfold contO
  rw [keepK_put]
  exact g1
theorem WO.gUn {g : Nat} {want : Bool} (hg : L[g]? = some undef) (h : WO A l σ (undef :: L) H nx Q) : WO A ((⟨none, some (g, want), op⟩, []) :: l) σ L H nx Q :=
  .skipG (by show wantO want (nthO L g) = false; rw [nthO_eq, hg]; rfl) h
/-- the operation is done; what follows takes what it came to -/
structure Then (A : AProg) (op : AOp Od) (σ : Slots) (L : List Value) (H : Heap) (nx : Nat) (K : Value → Heap → Nat → Prop) : Prop where
  got : ∃ v H' nx', Act A op σ L H nx v H' nx' ∧ K v H' nx'
theorem Then.of {K : Value → Heap → Nat → Prop} {v : Value} (ha : Act A op σ L H nx v H' nx') (h : K v H' nx') : Then A op σ L H nx K := ⟨⟨v, H', nx', ha, h⟩⟩
/-- a comparison: both ways -/
theorem Then.both {K : Value → Heap → Nat → Prop} {P : Prop} [Decidable P] (ha : Act A op σ L H nx (.bool (decide P)) H nx) (h1 : P → K (.bool true) H nx) (h2 : ¬ P → K (.bool false) H nx) : Then A op σ L H nx K := by
  refine ⟨⟨_, _, _, ha, ?_⟩⟩
  by_cases h : P
  · rw [decide_eq_true h]; exact h1 h
  · rw [decide_eq_false h]; exact h2 h
theorem WO.n (hp : op.plain = true) (h : Then A op σ L H nx fun v H' nx' => WO A l σ (v :: L) H' nx' Q) : WO A ((⟨none, none, op⟩, []) :: l) σ L H nx Q :=
  let ⟨_, _, _, ha, hk⟩ := h.got
  .act hp ha .nil hk
theorem WO.k {q : List Bool} (hp : op.plain = true) (h : Then A op σ L H nx fun v H' nx' => WO A l ((q, v) :: σ) (v :: L) H' nx' Q) : WO A ((⟨some q, none, op⟩, []) :: l) σ L H nx Q :=
  let ⟨_, _, _, ha, hk⟩ := h.got
  .act hp ha .nil hk
/-- a call -/
theorem WO.cn {g : FuncId} {args : List Od} {vs : List Value} (ha : evs σ L args = some vs) (h : WF A g vs H nx fun v H' nx' => WO A l σ (v :: L) H' nx' Q) : WO A ((⟨none, none, .call (.fn g) args⟩, []) :: l) σ L H nx Q :=
  .call ha (h.mono fun _ _ _ h => ⟨.nil, h⟩)
theorem WO.ck {q : List Bool} {g : FuncId} {args : List Od} {vs : List Value} (ha : evs σ L args = some vs) (h : WF A g vs H nx fun v H' nx' => WO A l ((q, v) :: σ) (v :: L) H' nx' Q) : WO A ((⟨some q, none, .call (.fn g) args⟩, []) :: l) σ L H nx Q :=
  .call ha (h.mono fun _ _ _ h => ⟨.nil, h⟩)
/-- a call with loads to be looked at again -/
theorem WO.ca {g : FuncId} {args : List Od} {vs : List Value} (ha : evs σ L args = some vs) (h : WF A g vs H nx fun v H' nx' => Agrees A σ (v :: L) H' ag ∧ WO A l σ (v :: L) H' nx' Q) : WO A ((⟨none, none, .call (.fn g) args⟩, ag) :: l) σ L H nx Q :=
  .call ha (h.mono fun _ _ _ h => h)
theorem WF.of {g : FuncId} {vs : List Value} {Q' Q : Value → Heap → Nat → Prop} (h : WF A g vs H nx Q') (hq : ∀ v H nx, Q' v H nx → Q v H nx) : WF A g vs H nx Q := h.mono hq
end ops

/-! ### reading -/
theorem Rd.self {b : Nat} {cs : List Value} : Rd (set1 H b cs) b cs := .inl (by rw [get_set1]; simp)
theorem Rd.own {b : Nat} {cs : List Value} (h : getP H (at_ b) = some (.cells cs)) : Rd H b cs := .inl h
theorem Rd.skip {b c : Nat} {cs ds : List Value} (h : b ≠ c) (hr : Rd H b cs) : Rd (set1 H c ds) b cs := by
  unfold Rd
  rw [get_set1, if_neg h]
  exact hr
theorem Rd.skipK {b c : Nat} {cs : List Value} (h : b ≠ c) (hr : Rd H b cs) : Rd (kill H c) b cs := by
  unfold Rd
  rw [get_kill, if_neg h]
  exact hr
theorem get_self {b : Nat} {cs : List Value} : getP (set1 H b cs) (at_ b) = some (.cells cs) := by rw [get_set1]; simp
theorem get_skip {b c : Nat} {k : Option Blk} {ds : List Value} (h : b ≠ c) (hr : getP H (at_ b) = k) : getP (set1 H c ds) (at_ b) = k := by rw [get_set1, if_neg h]; exact hr
theorem get_skipK {b c : Nat} {k : Option Blk} (h : b ≠ c) (hr : getP H (at_ b) = k) : getP (kill H c) (at_ b) = k := by rw [get_kill, if_neg h]; exact hr
theorem partOf_one {cs : List Value} {o : Nat} {v : Value} (h : cs[o]? = some v) : partOf cs o none = some v := by
  show headO (dropN cs o) = some v
  rw [dropN_eq]
  have : (cs.drop o)[0]? = some v := by rw [List.getElem?_drop]; simpa using h
  cases hd : cs.drop o with
  | nil => rw [hd] at this; simp at this
  | cons x r => rw [hd] at this; simpa [headO] using this
theorem partOf_agg {cs l : List Value} {o n : Nat} (h : take? n (cs.drop o) = some l) : partOf cs o (some n) = some (.agg ⟨l⟩) := by
  show aggOf (take? n (dropN cs o)) = _
  rw [dropN_eq, h]; rfl
theorem take?_of : ∀ (n : Nat) (l : List Value), n ≤ l.length → take? n l = some (l.take n) := by
  intro n
  induction n with
  | zero => intro l _; simp; rfl
  | succ n ih =>
    intro l h
    cases l with
    | nil => simp at h
    | cons c l =>
      show (Option.rec none (fun r => some (c :: r)) (take? n l) : Option (List Value)) = _
      rw [ih l (by simpa using h)]
      rfl

/-! ### slices -/
/-- blocks below 'nx' are as they were -/
def Same (H H' : Heap) (nx : Nat) : Prop := ∀ b, b < nx → getP H' (at_ b) = getP H (at_ b)
theorem Same.refl : Same H H nx := fun _ _ => rfl
theorem Same.trans {H1 H2 : Heap} (h : Same H H1 nx) (h' : Same H1 H2 nx') (hn : nx ≤ nx') : Same H H2 nx := fun b hb => (h' b (Nat.lt_of_lt_of_le hb hn)).trans (h b hb)
theorem Same.low (h : Same H H' nx') (hn : nx ≤ nx') : Same H H' nx := fun b hb => h b (Nat.lt_of_lt_of_le hb hn)
theorem Same.set {H1 : Heap} {b : Nat} {cs : List Value} (h : Same H H1 nx) (hb : nx ≤ b) : Same H (set1 H1 b cs) nx := fun c hc => by rw [get_set1, if_neg (by omega)]; exact h c hc
theorem Same.kill {H1 : Heap} {b : Nat} (h : Same H H1 nx) (hb : nx ≤ b) : Same H (Eng.kill H1 b) nx := fun c hc => by rw [get_kill, if_neg (by omega)]; exact h c hc
theorem Same.rd (h : Same H H' nx) {b : Nat} {cs : List Value} (hb : b < nx) (hr : Rd H b cs) : Rd H' b cs := by
  unfold Rd
  rw [h b hb]
  exact hr

/-- a slice that reads as a list: 'enc' an element's cells, 'z' of them -/
def SlE {α : Type} (H : Heap) (nx z : Nat) (enc : α → List Value) (v : Value) (xs : List α) : Prop :=
  ∃ base c, v = .slice base xs.length c ∧ (base = none → xs = [] ∧ c = 0) ∧ (∀ a, base = some a → xs.length ≤ sureCap c ∧ ∃ b o, a = ⟨b, o, some z⟩ ∧ b < nx ∧ (xs ≠ [] → ∃ cs, Rd H b cs ∧ ∀ i x, xs[i]? = some x → take? z (cs.drop (o + i * z)) = some (enc x)))

theorem SlE.same {α : Type} {z : Nat} {enc : α → List Value} {v : Value} {xs : List α} (h : SlE H nx z enc v xs) (hs : Same H H' nx) : SlE H' nx z enc v xs := by
  obtain ⟨base, c, h1, h2, h3⟩ := h
  refine ⟨base, c, h1, h2, fun a ha => ?_⟩
  obtain ⟨g1, b, o, g2, g3, g4⟩ := h3 a ha
  refine ⟨g1, b, o, g2, g3, fun hx => ?_⟩
  obtain ⟨cs, q1, q2⟩ := g4 hx
  exact ⟨cs, hs.rd g3 q1, q2⟩
theorem SlE.up {α : Type} {z : Nat} {enc : α → List Value} {v : Value} {xs : List α} (h : SlE H nx z enc v xs) (hn : nx ≤ nx') : SlE H nx' z enc v xs := by
  obtain ⟨base, c, h1, h2, h3⟩ := h
  refine ⟨base, c, h1, h2, fun a ha => ?_⟩
  obtain ⟨g1, b, o, g2, g3, g4⟩ := h3 a ha
  exact ⟨g1, b, o, g2, Nat.lt_of_lt_of_le g3 hn, g4⟩
theorem SlE.nil {α : Type} {z : Nat} {enc : α → List Value} : SlE H nx z enc (.slice none 0 0) ([] : List α) := ⟨none, 0, rfl, fun _ => ⟨rfl, rfl⟩, fun a h => by cases h⟩
/-- its form, whatever it holds -/
theorem SlE.form {α : Type} {z : Nat} {enc : α → List Value} {v : Value} {xs : List α} (h : SlE H nx z enc v xs) : ∃ base c, v = .slice base xs.length c := let ⟨b, c, h1, _⟩ := h; ⟨b, c, h1⟩
theorem SlE.at {α : Type} {z : Nat} {enc : α → List Value} {base : Option Addr} {n c : Nat} {xs : List α} (h : SlE H nx z enc (.slice base n c) xs) (hx : xs ≠ []) :
    ∃ b o cs, base = some ⟨b, o, some z⟩ ∧ b < nx ∧ n = xs.length ∧ xs.length ≤ sureCap c ∧ Rd H b cs ∧ ∀ i x, xs[i]? = some x → take? z (cs.drop (o + i * z)) = some (enc x) := by
  obtain ⟨base', c', h1, h2, h3⟩ := h
  cases h1
  cases base with
  | none => exact absurd (h2 rfl).1 hx
  | some a =>
    obtain ⟨g1, b, o, rfl, g3, g4⟩ := h3 a rfl
    obtain ⟨cs, q1, q2⟩ := g4 hx
    exact ⟨b, o, cs, rfl, g3, rfl, g1, q1, q2⟩
theorem SlE.len {α : Type} {z : Nat} {enc : α → List Value} {base : Option Addr} {n c : Nat} {xs : List α} (h : SlE H nx z enc (.slice base n c) xs) : n = xs.length := by
  obtain ⟨base', c', h1, _⟩ := h
  cases h1; rfl

def encI (n : Int) : List Value := [.int .i64 n]
def encP (e : Int × Int) : List Value := [.int .i64 e.1, .int .i64 e.2]
def encB (b : Bool) : List Value := [.bool b]
theorem take1 {cs : List Value} {o : Nat} {v : Value} (h : take? 1 (cs.drop o) = some [v]) : cs[o]? = some v := by
  obtain ⟨h1, h2⟩ := take?_get h
  have := h2 0 (by omega)
  simpa using this.symm
theorem take2 {cs : List Value} {o : Nat} {v u : Value} (h : take? 2 (cs.drop o) = some [v, u]) : cs[o]? = some v ∧ cs[o + 1]? = some u := by
  obtain ⟨h1, h2⟩ := take?_get h
  have g1 := h2 0 (by omega)
  have g2 := h2 1 (by omega)
  constructor
  · simpa using g1.symm
  · simpa [List.getElem?_drop] using g2.symm
end Go.Eng
/- The engine's operations: comparing bools; slices that grow. -/
namespace Go.Eng
section
variable {P : Program}
theorem quiet_underlying {α : Type} {t : TypeId} {d : TypeDesc} (h : P.underlying t = some d) (k : TypeDesc → Sem α) : quiet P (underlying t >>= k) = quiet P (k d) := by
  have : quiet P (underlying t >>= k) = quiet P ((match P.underlying t with
    | some d => (pure d : Sem TypeDesc)
    | none => stuck "no such type") >>= k) := rfl
  rw [this, h]
  rfl
theorem eqlIn_bool {t : TypeId} {a b : Bool} (h : P.underlying t = some .bool) (d : Nat) : quiet P (Op.equalIn (d + 1) t (.bool a) (.bool b)) = some (a == b) := by
  unfold Op.equalIn
  rw [quiet_underlying h]
  rfl
theorem slow_eqb {t : TypeId} {a b : Bool} (h : P.underlying t = some .bool) : slow P .eql t (.bool a) (.bool b) = some (.bool (a == b)) := by
  have h1 : quiet P (Op.equal t (.bool a) (.bool b)) = some (a == b) := eqlIn_bool h 9999
  have h2 : ∀ s : Sem Bool, ∀ r, quiet P s = some r → quiet P (do pure (Value.bool (← s)) : Sem Value) = some (.bool r) := by
    intro s r
    induction s with
    | pure x => intro h; cases h; rfl
    | program k ih => intro h; exact ih P h
    | _ => intro h; cases h
  unfold slow
  have h3 : quiet P (do eqGuard .eql t (.const (.bool a)) (.const (.bool b)) (.bool a) (.bool b); binOp .eql t (.bool a) (.bool b) : Sem Value) = some (.bool (a == b)) := h2 _ _ h1
  rw [h3]
  rfl
end
variable {A : AProg} {H H' : Heap} {nx nx' : Nat} {σ : Slots} {L : List Value} {Q : Post}
theorem Act.eqlB {t : TypeId} {x y : Od} {a b : Bool} (hu : A.P.underlying t = some .bool) (hx : ev σ L x = some (.bool a)) (hy : ev σ L y = some (.bool b)) : Act A (.bin .eql t x y) σ L H nx (.bool (a == b)) H nx := by
  refine .binV hx hy fun k => ?_
  unfold Eng.binV
  show bd (slow A.P .eql t (.bool a) (.bool b)) k = _
  rw [slow_eqb hu]
  rfl

/-! ### a slice that this call owns, and that grows -/
/-- nil, or a block of our own, from its beginning on -/
def Grows (H : Heap) (nx0 nx z : Nat) (v : Value) (n : Nat) (cs : List Value) : Prop :=
  cs.length = n * z ∧ ((v = .slice none 0 0 ∧ n = 0) ∨ ∃ b, v = .slice (some ⟨b, 0, some z⟩) n (2 * n) ∧ nx0 ≤ b ∧ b < nx ∧ getP H (at_ b) = some (.cells cs))
theorem Grows.nil {nx0 z : Nat} : Grows H nx0 nx z (.slice none 0 0) 0 [] := ⟨by simp, .inl ⟨rfl, rfl⟩⟩

theorem Grows.same {nx0 z n : Nat} {v : Value} {cs : List Value} (h : Grows H nx0 nx z v n cs) (hs : Same H H' nx) (hn : nx ≤ nx') : Grows H' nx0 nx' z v n cs := by
  obtain ⟨hl, h | ⟨b, h1, h2, h3, h4⟩⟩ := h
  · exact ⟨hl, .inl h⟩
  · exact ⟨hl, .inr ⟨b, h1, h2, Nat.lt_of_lt_of_le h3 hn, (hs b h3).trans h4⟩⟩
/-- one element, as a source -/
theorem src_one {b z c : Nat} {cs : List Value} (h : Rd H b cs) (hl : cs.length = z) : SrcE H z (.slice (some ⟨b, 0, some z⟩) 1 c) 1 cs := by
  refine .inr ⟨b, 0, c, rfl, .inr ⟨by omega, cs, h, ?_⟩⟩
  rw [Nat.one_mul, ← hl]
  rw [List.drop_zero, take?_of _ _ (Nat.le_refl _), List.take_length]
theorem take?_all (cs : List Value) : take? cs.length (cs.drop 0) = some cs := by
  rw [List.drop_zero, take?_of _ _ (Nat.le_refl _), List.take_length]
theorem exact_two (n : Nat) : exact (2 * n) = false := by
  unfold exact
  have : Nat.mod (2 * n) 2 = 0 := Nat.mul_mod_right 2 n
  rw [this]; rfl
theorem sure_two (n : Nat) : sureCap (2 * n) = n := by
  unfold sureCap
  show 2 * n / 2 = n
  omega

/-- what is appended goes behind it -/
theorem Then.push {z by_ n m nx0 : Nat} {zero : List Value} {s x : Od} {v xv : Value} {cs new : List Value} {K : Value → Heap → Nat → Prop} (hs : ev σ L s = some v) (hx : ev σ L x = some xv) (hg : Grows H nx0 nx z v n cs) (hsrc : SrcE H z xv m new) (hm : m ≠ 0) (hz : 0 < z) (h1 : allOne new = true)
    (hnew : new.length = m * z) (hn0 : nx0 ≤ nx) (h2 : (n + m) * by_ ≤ small) (h3 : n + m ≤ small)
    (h : ∀ v' H', Grows H' nx0 (nx + 1) z v' (n + m) (cs ++ new) → Same H H' nx0 → (∀ b, b < nx → (∀ c z' k, v ≠ .slice (some ⟨b, 0, z'⟩) k c) → getP H' (at_ b) = getP H (at_ b)) → K v' H' (nx + 1)) : Then A (.app z by_ zero s x false) σ L H nx K := by
  obtain ⟨hl, ⟨rfl, rfl⟩ | ⟨b, rfl, hb0, hb1, hr⟩⟩ := hg
  · have : cs = [] := List.eq_nil_of_length_eq_zero (by rw [hl]; simp)
    subst this
    refine .of (.appNil hs hx hsrc hm hz (by simpa using h2) (by simpa using h3)) (h _ _ ?_ (Same.refl.set hn0) fun b hb _ => ?_)
    · rw [Nat.zero_add]
      exact ⟨by simpa using hnew, .inr ⟨nx, rfl, hn0, by omega, by rw [get_set1]; simp⟩⟩
    · rw [get_set1, if_neg (by omega)]
  · refine .of (.appOff hs hx hsrc hm hz h1 hr (by rw [← hl]; exact take?_all cs) (by rw [sure_two]; omega) (exact_two n) h2 h3) (h _ _ ?_ ((Same.refl.kill hb0).set hn0) fun b' hb' hne => ?_)
    · exact ⟨by rw [List.length_append, hl, hnew, Nat.add_mul], .inr ⟨nx, rfl, hn0, by omega, by rw [get_set1]; simp⟩⟩
    · have : b' ≠ b := fun e => hne _ _ _ (by rw [e])
      rw [get_set1, if_neg (by omega), get_kill, if_neg this]

/-- the same, of whatever length -/
theorem Then.pushes {z by_ n m nx0 : Nat} {zero : List Value} {s x : Od} {v xv : Value} {cs new : List Value} {K : Value → Heap → Nat → Prop} (hs : ev σ L s = some v) (hx : ev σ L x = some xv) (hg : Grows H nx0 nx z v n cs) (hsrc : SrcE H z xv m new) (hz : 0 < z) (h1 : allOne new = true)
    (hnew : new.length = m * z) (hn0 : nx0 ≤ nx) (h2 : (n + m) * by_ ≤ small) (h3 : n + m ≤ small)
    (h : ∀ v' H' nx', nx ≤ nx' → Grows H' nx0 nx' z v' (n + m) (cs ++ new) → Same H H' nx0 → (∀ b, b < nx → (∀ c z' k, v ≠ .slice (some ⟨b, 0, z'⟩) k c) → getP H' (at_ b) = getP H (at_ b)) → K v' H' nx') : Then A (.app z by_ zero s x false) σ L H nx K := by
  by_cases hm : m = 0
  · subst hm
    have : new = [] := List.eq_nil_of_length_eq_zero (by rw [hnew]; simp)
    subst this
    have hk := h v H nx (Nat.le_refl _) (by simpa using hg) .refl (fun _ _ _ => rfl)
    obtain ⟨hl, ⟨rfl, rfl⟩ | ⟨b, rfl, hb0, hb1, hr⟩⟩ := hg
    · exact .of (.appNil0 hs hx hsrc) hk
    · exact .of (.app0 hs hx hsrc hz) hk
  · exact .push hs hx hg hsrc hm hz h1 hnew hn0 h2 h3 (fun v' H' g1 g2 g3 => h v' H' (nx + 1) (Nat.le_succ _) g1 g2 g3)

theorem flat_at {α : Type} {z : Nat} {enc : α → List Value} (he : ∀ x, (enc x).length = z) : ∀ (ys : List α) (i : Nat) (x : α), ys[i]? = some x → ∃ l r, ys.flatMap enc = l ++ enc x ++ r ∧ l.length = i * z := by
  intro ys
  induction ys with
  | nil => intro i x h; simp at h
  | cons y ys ih =>
    intro i x h
    cases i with
    | zero =>
      simp at h
      subst h
      exact ⟨[], ys.flatMap enc, by simp, by simp⟩
    | succ i =>
      obtain ⟨l, r, q1, q2⟩ := ih i x (by simpa using h)
      exact ⟨enc y ++ l, r, by simp [q1], by rw [List.length_append, he, q2, Nat.succ_mul]; omega⟩
/-- a block that begins so -/
theorem SlE.pre {α : Type} {z b c : Nat} {xs : List α} {enc : α → List Value} {rest : List Value} (hr : Rd H b (xs.flatMap enc ++ rest)) (hb : b < nx) (hc : xs.length ≤ sureCap c) (he : ∀ x, (enc x).length = z) : SlE H nx z enc (.slice (some ⟨b, 0, some z⟩) xs.length c) xs := by
  refine ⟨_, _, rfl, fun e => (by cases e), fun a ha => ?_⟩
  cases ha
  refine ⟨hc, b, 0, rfl, hb, fun _ => ⟨_, hr, fun i x hx => ?_⟩⟩
  obtain ⟨l, r, q1, q2⟩ := flat_at he xs i x hx
  rw [q1, Nat.zero_add]
  have hd : (l ++ enc x ++ r ++ rest).drop (i * z) = enc x ++ (r ++ rest) := by rw [← q2, List.append_assoc, List.append_assoc, List.drop_left]
  rw [hd, take?_of _ _ (by rw [List.length_append, he]; omega)]
  congr 1
  rw [← he x, List.take_left]
/-- as a list -/
theorem Grows.sle {α : Type} {nx0 z : Nat} {v : Value} {xs : List α} {enc : α → List Value} (h : Grows H nx0 nx z v xs.length (xs.flatMap enc)) (he : ∀ x, (enc x).length = z) : SlE H nx z enc v xs := by
  obtain ⟨hl, ⟨rfl, h0⟩ | ⟨b, rfl, hb0, hb1, hr⟩⟩ := h
  · have : xs = [] := List.eq_nil_of_length_eq_zero h0
    subst this
    exact .nil
  · exact .pre (rest := []) (.inl (by simpa using hr)) hb1 (by rw [sure_two]; omega) he

/-- a slice's cells, to be appended -/
theorem SlE.src {α : Type} {z : Nat} {v : Value} {xs : List α} {enc : α → List Value} (h : SlE H nx z enc v xs) (he : ∀ x, (enc x).length = z) : SrcE H z v xs.length (xs.flatMap enc) := by
  obtain ⟨base, c, rfl, h2, h3⟩ := h
  cases base with
  | none =>
    obtain ⟨rfl, rfl⟩ := h2 rfl
    exact .inl ⟨0, 0, rfl, rfl, rfl⟩
  | some a =>
    obtain ⟨g1, b, o, rfl, g3, g4⟩ := h3 a rfl
    refine .inr ⟨b, o, c, rfl, ?_⟩
    by_cases hx : xs = []
    · subst hx; exact .inl ⟨rfl, rfl⟩
    · obtain ⟨cs, q1, q2⟩ := g4 hx
      refine .inr ⟨fun e => hx (List.eq_nil_of_length_eq_zero e), cs, q1, ?_⟩
      have key : ∀ (ys : List α) (o : Nat), (∀ i x, ys[i]? = some x → take? z (cs.drop (o + i * z)) = some (enc x)) → take? (ys.length * z) (cs.drop o) = some (ys.flatMap enc) := by
        intro ys
        induction ys with
        | nil => intro o _; simp; rfl
        | cons y ys ih =>
          intro o hy
          have h0 := hy 0 y rfl
          have hr := ih (o + z) (fun i x hx => by
            have := hy (i + 1) x (by simpa using hx)
            rw [Nat.succ_mul] at this
            rwa [show o + z + i * z = o + (i * z + z) by omega])
          rw [Nat.zero_mul, Nat.add_zero] at h0
          obtain ⟨p1, p2⟩ := take?_eq _ _ _ h0
          obtain ⟨p3, p4⟩ := take?_eq _ _ _ hr
          rw [take?_of _ _ ?_]
          · congr 1
            rw [List.length_cons, Nat.succ_mul, Nat.add_comm, List.take_add, List.flatMap_cons, p1, p3, List.drop_drop]
          · rw [List.length_cons, Nat.succ_mul]
            simp only [List.length_drop] at p2 p4 ⊢
            by_cases hy0 : ys.length = 0
            · rw [hy0]; omega
            · by_cases hz0 : z = 0
              · subst hz0; omega
              · have : 0 < ys.length * z := Nat.mul_pos (by omega) (by omega)
                omega
      exact key xs o q2
end Go.Eng
/- The engine's operations: the lesser, the greater; comparing structs of ints. -/
namespace Go.Eng
section
variable {A : AProg} {H H' : Heap} {nx nx' : Nat} {σ : Slots} {L : List Value} {Q : Post}
theorem Act.min2 {x y : Od} {a b : Int} (hx : ev σ L x = some (.int .i64 a)) (hy : ev σ L y = some (.int .i64 b)) : Act A (.mnx true [x, y]) σ L H nx (.int .i64 (min a b)) H nx := by
  refine ⟨fun T hT k => ?_⟩
  have he : evs σ L [x, y] = some [.int .i64 a, .int .i64 b] := by simp [evs, hx, hy]
  show evsK T L [x, y] (fun vs => bd (flatly A.P vs (cond true (Builtin.min_ #[] 0 vs.toArray) (Builtin.max_ #[] 0 vs.toArray))) fun v => k v H nx) = _
  rw [hT.evsK he]
  have : (if b < a then b else a) = min a b := by split <;> omega
  rw [← this]
  rfl
theorem Act.max2 {x y : Od} {a b : Int} (hx : ev σ L x = some (.int .i64 a)) (hy : ev σ L y = some (.int .i64 b)) : Act A (.mnx false [x, y]) σ L H nx (.int .i64 (max a b)) H nx := by
  refine ⟨fun T hT k => ?_⟩
  have he : evs σ L [x, y] = some [.int .i64 a, .int .i64 b] := by simp [evs, hx, hy]
  show evsK T L [x, y] (fun vs => bd (flatly A.P vs (cond false (Builtin.min_ #[] 0 vs.toArray) (Builtin.max_ #[] 0 vs.toArray))) fun v => k v H nx) = _
  rw [hT.evsK he]
  have : (if a < b then b else a) = max a b := by split <;> omega
  rw [← this]
  rfl
end
section
variable {P : Program}
theorem eqlIn_int {t : TypeId} {k : IntKind} {a b : Int} (h : P.underlying t = some (.int k)) (d : Nat) : quiet P (Op.equalIn (d + 1) t (.int .i64 a) (.int .i64 b)) = some (a == b) := by
  unfold Op.equalIn
  rw [quiet_underlying h]
  rfl
theorem quiet_part {t : TypeId} {cs : Array Value} {off : Nat} {v : Value} (h1 : quiet P (isAgg t) = some false) (h2 : cs[off]? = some v) : quiet P (part t cs off) = some v := by
  unfold part
  rw [quiet_bind, h1]
  show quiet P (if false = true then _ else match cs[off]? with | some v => pure v | none => stuck "part: no such cell") = _
  rw [h2]
  rfl
theorem eqlIn_ints3 {t : TypeId} {f0 f1 f2 : Field} {a0 a1 a2 b0 b1 b2 : Int} {k : IntKind} (h : P.underlying t = some (.struct #[f0, f1, f2])) (hs : P.stoodInHeld t = false) (n0 : f0.name ≠ "_") (n1 : f1.name ≠ "_") (n2 : f2.name ≠ "_")
    (o0 : f0.offset = 0) (o1 : f1.offset = 1) (o2 : f2.offset = 2) (t0 : P.underlying f0.type = some (.int k)) (t1 : P.underlying f1.type = some (.int k)) (t2 : P.underlying f2.type = some (.int k))
    (g0 : quiet P (isAgg f0.type) = some false) (g1 : quiet P (isAgg f1.type) = some false) (g2 : quiet P (isAgg f2.type) = some false) (d : Nat) :
    quiet P (Op.equalIn (d + 1 + 1) t (.agg #[.int .i64 a0, .int .i64 a1, .int .i64 a2]) (.agg #[.int .i64 b0, .int .i64 b1, .int .i64 b2])) = some (a0 == b0 && (a1 == b1 && a2 == b2)) := by
  unfold Op.equalIn
  rw [quiet_underlying h]
  have hp : quiet P program = some P := rfl
  have e0 := fun a b : Int => eqlIn_int (P := P) (a := a) (b := b) t0 d
  have e1 := fun a b : Int => eqlIn_int (P := P) (a := a) (b := b) t1 d
  have e2 := fun a b : Int => eqlIn_int (P := P) (a := a) (b := b) t2 d
  have p0 : ∀ x y z : Int, quiet P (part f0.type #[.int .i64 x, .int .i64 y, .int .i64 z] f0.offset) = some (.int .i64 x) := fun x y z => quiet_part g0 (by rw [o0]; rfl)
  have p1 : ∀ x y z : Int, quiet P (part f1.type #[.int .i64 x, .int .i64 y, .int .i64 z] f1.offset) = some (.int .i64 y) := fun x y z => quiet_part g1 (by rw [o1]; rfl)
  have p2 : ∀ x y z : Int, quiet P (part f2.type #[.int .i64 x, .int .i64 y, .int .i64 z] f2.offset) = some (.int .i64 z) := fun x y z => quiet_part g2 (by rw [o2]; rfl)
  by_cases h0 : a0 = b0 <;> by_cases h1 : a1 = b1 <;> by_cases h2 : a2 = b2 <;>
    simp [quiet_bind, hp, hs, n0, n1, n2, e0, e1, e2, p0, p1, p2, quiet_pure, h0, h1, h2]
theorem slow_neq3 {t : TypeId} {a0 a1 a2 b0 b1 b2 : Int} (hq : P.eqGuardType P.depth t = false) (h : ∀ d, quiet P (Op.equalIn (d + 1 + 1) t (.agg #[.int .i64 a0, .int .i64 a1, .int .i64 a2]) (.agg #[.int .i64 b0, .int .i64 b1, .int .i64 b2])) = some (a0 == b0 && (a1 == b1 && a2 == b2))) :
    slow P .neq t (.agg #[.int .i64 a0, .int .i64 a1, .int .i64 a2]) (.agg #[.int .i64 b0, .int .i64 b1, .int .i64 b2]) = some (.bool (!(a0 == b0 && (a1 == b1 && a2 == b2)))) := by
  have h1 : quiet P (Op.equal t (.agg #[.int .i64 a0, .int .i64 a1, .int .i64 a2]) (.agg #[.int .i64 b0, .int .i64 b1, .int .i64 b2])) = some (a0 == b0 && (a1 == b1 && a2 == b2)) := h 9998
  have h2 : ∀ s : Sem Bool, ∀ r, quiet P s = some r → quiet P (do pure (Value.bool (!(← s))) : Sem Value) = some (.bool (!r)) := by
    intro s r
    induction s with
    | pure x => intro h; cases h; rfl
    | program k ih => intro h; exact ih P h
    | _ => intro h; cases h
  unfold slow
  have h3 : quiet P (do eqGuard .neq t (.const (.agg #[.int .i64 a0, .int .i64 a1, .int .i64 a2])) (.const (.agg #[.int .i64 b0, .int .i64 b1, .int .i64 b2])) (.agg #[.int .i64 a0, .int .i64 a1, .int .i64 a2]) (.agg #[.int .i64 b0, .int .i64 b1, .int .i64 b2]); binOp .neq t (.agg #[.int .i64 a0, .int .i64 a1, .int .i64 a2]) (.agg #[.int .i64 b0, .int .i64 b1, .int .i64 b2]) : Sem Value) = some (.bool (!(a0 == b0 && (a1 == b1 && a2 == b2)))) := by
    rw [quiet_bind]
    have hg : quiet P (eqGuard .neq t (.const (.agg #[.int .i64 a0, .int .i64 a1, .int .i64 a2])) (.const (.agg #[.int .i64 b0, .int .i64 b1, .int .i64 b2])) (.agg #[.int .i64 a0, .int .i64 a1, .int .i64 a2]) (.agg #[.int .i64 b0, .int .i64 b1, .int .i64 b2])) = some () := by
      show quiet P (if (!(P.eqGuardType P.depth t)) = true then _ else _) = _
      rw [hq]
      rfl
    rw [hg]
    exact h2 _ _ h1
  rw [h3]
  rfl
end
section
variable {A : AProg} {H H' : Heap} {nx nx' : Nat} {σ : Slots} {L : List Value} {Q : Post}
theorem Act.neq3 {t : TypeId} {x y : Od} {a0 a1 a2 b0 b1 b2 : Int} (hq : A.P.eqGuardType A.P.depth t = false) (h : ∀ a0 a1 a2 b0 b1 b2 : Int, ∀ d, quiet A.P (Op.equalIn (d + 1 + 1) t (.agg #[.int .i64 a0, .int .i64 a1, .int .i64 a2]) (.agg #[.int .i64 b0, .int .i64 b1, .int .i64 b2])) = some (a0 == b0 && (a1 == b1 && a2 == b2)))
    (hx : ev σ L x = some (.agg ⟨[.int .i64 a0, .int .i64 a1, .int .i64 a2]⟩)) (hy : ev σ L y = some (.agg ⟨[.int .i64 b0, .int .i64 b1, .int .i64 b2]⟩)) : Act A (.bin .neq t x y) σ L H nx (.bool (decide ((a0, a1, a2) ≠ (b0, b1, b2)))) H nx := by
  refine .binV hx hy fun k => ?_
  unfold Eng.binV
  show bd (slow A.P .neq t (.agg #[.int .i64 a0, .int .i64 a1, .int .i64 a2]) (.agg #[.int .i64 b0, .int .i64 b1, .int .i64 b2])) k = _
  rw [slow_neq3 hq (h a0 a1 a2 b0 b1 b2)]
  have : (!(a0 == b0 && (a1 == b1 && a2 == b2))) = decide ((a0, a1, a2) ≠ (b0, b1, b2)) := by
    by_cases h0 : a0 = b0 <;> by_cases h1 : a1 = b1 <;> by_cases h2 : a2 = b2 <;> simp [h0, h1, h2]
  rw [this]
  rfl

/-! ### loads that are looked at again -/
theorem veq1_slice {base : Option Addr} {n c : Nat} : veq1 (.slice base n c) (.slice base n c) = true := by
  cases base <;> simp [veq1]
theorem Agrees.look {L : List Value} {x : Od} {g : Option Nat} {d b o : Nat} {cs : List Value} {v : Value} {ag : List Again} (hx : ev σ L x = some (.pointer (some ⟨b, o, none⟩))) (hr : Rd H b cs) (hv : partOf cs o g = some v) (hd : L[d]? = some v) (hq : veq v v = true) (hag : Agrees A σ L H ag) : Agrees A σ L H (⟨none, .lod x g, d⟩ :: ag) := by
  refine ⟨fun T hT X => ?_⟩
  have h2 : ∀ k : KV, lookT (.lod x g) A.P T L H k = k v := fun k => by
    show evK T L x (fun v => onPtr v fun b o => Eng.cellsR H b fun cs => bd (partOf cs o g) k) = _
    rw [hT.evK hx]
    show Eng.cellsR H b _ = _
    rw [hr.cellsR, hv]; rfl
  show lookT (.lod x g) A.P T L H (fun v => nthK L d fun u => cond (veq u v) (againK A.P T L H ag X) none) = X
  rw [h2, nthK_eq, hd]
  show cond (veq v v) (againK A.P T L H ag X) none = X
  rw [hq]
  exact hag.reads T hT X
theorem WO.na {op : AOp Od} {ag : List Again} {l : List (AO × List Again)} (hp : op.plain = true) (h : Then A op σ L H nx fun v H' nx' => Agrees A σ (v :: L) H' ag ∧ WO A l σ (v :: L) H' nx' Q) : WO A ((⟨none, none, op⟩, ag) :: l) σ L H nx Q :=
  let ⟨_, _, _, ha, h1, h2⟩ := h.got
  .act hp ha h1 h2
/-- what is appended goes behind it, into the next block -/
theorem Then.pushX {z by_ n m nx0 : Nat} {zero : List Value} {s x : Od} {v xv : Value} {cs new : List Value} {K : Value → Heap → Nat → Prop} (hs : ev σ L s = some v) (hx : ev σ L x = some xv) (hg : Grows H nx0 nx z v n cs) (hsrc : SrcE H z xv m new) (hm : m ≠ 0) (hz : 0 < z) (h1 : allOne new = true)
    (h2 : (n + m) * by_ ≤ small) (h3 : n + m ≤ small)
    (h : ∀ H', getP H' (at_ nx) = some (.cells (cs ++ new)) → (∀ b, b < nx → (∀ c z' k, v ≠ .slice (some ⟨b, 0, z'⟩) k c) → getP H' (at_ b) = getP H (at_ b)) → K (.slice (some ⟨nx, 0, some z⟩) (n + m) (2 * (n + m))) H' (nx + 1)) : Then A (.app z by_ zero s x false) σ L H nx K := by
  obtain ⟨hl, ⟨rfl, rfl⟩ | ⟨b, rfl, hb0, hb1, hr⟩⟩ := hg
  · have : cs = [] := List.eq_nil_of_length_eq_zero (by rw [hl]; simp)
    subst this
    have h' := h (set1 H nx new) (by rw [get_set1]; simp) (fun b hb _ => by rw [get_set1, if_neg (by omega)])
    rw [Nat.zero_add] at h'
    exact .of (.appNil hs hx hsrc hm hz (by simpa using h2) (by simpa using h3)) h'
  · refine .of (.appOff hs hx hsrc hm hz h1 hr (by rw [← hl]; exact take?_all cs) (by rw [sure_two]; omega) (exact_two n) h2 h3) (h _ (by rw [get_set1]; simp) fun b' hb' hne => ?_)
    have : b' ≠ b := fun e => hne _ _ _ (by rw [e])
    rw [get_set1, if_neg (by omega), get_kill, if_neg this]
end
end Go.Eng
/- Short words for the literals. -/
namespace Go.Lit
open Go.Eng
abbrev t : Bool := true
abbrev f : Bool := false
abbrev n0 (o : AOp Od) : AO × List Again := (⟨none, none, o⟩, [])
abbrev k0 (p : List Bool) (o : AOp Od) : AO × List Again := (⟨some p, none, o⟩, [])
abbrev g0 (i : Nat) (b : Bool) (o : AOp Od) : AO × List Again := (⟨none, some (i, b), o⟩, [])
end Go.Lit
