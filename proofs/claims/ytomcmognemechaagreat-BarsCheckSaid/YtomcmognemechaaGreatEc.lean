/- An interpreter of the model's code that follows one order and is proved right for all: part 3. -/
import Derived.Test.YtomcmognemechaaGreatEb
import Derived.Orders
import Derived.Recover
/- The engine: regions whose order is given, as a whole. -/
namespace Go.Eng
variable {P : Program} {ins kept : List Nat} {n : Nat} {A : AProg} {rn : Run} {σ : Sig} {T : Tr Value} {L : List Value} {D : List Dfd} {H : Heap} {nx : Nat} {env : Env} {ops : List Oper} {ρ : Rho}

/-- the slots hold what the engine says -/
structure SigR (ρ : Rho) (kept : List Nat) (n : Nat) (env : Env) (σ : Sig) (tm : Array Value) : Prop where
  size : n ≤ tm.size
  env : ∀ t od, (t, od) ∈ env → VR ρ (σ t) (tm.getD t undef)
  kept : ∀ t, isIn kept t = true → VR ρ (σ t) (tm.getD t undef)

theorem EnvR.of {a : Act} (he : EnvS kept σ env T L) (hs : SigR ρ kept n env σ a.tmps) : EnvR ρ kept n env T L a :=
  ⟨hs.size, fun t od ht => by rw [he.ofFind ht]; exact hs.env t od (find_mem ht), fun t ht => by rw [he.kept t ht]; exact hs.kept t ht⟩

theorem SigR.mono {ρ' : Rho} {tm : Array Value} (e : Ext ρ ρ') (h : SigR ρ kept n env σ tm) : SigR ρ' kept n env σ tm :=
  ⟨h.size, fun t od ht => (h.env t od ht).mono e, fun t ht => (h.kept t ht).mono e⟩

theorem SigR.less {env' : Env} {tm : Array Value} (h : SigR ρ kept n env σ tm) (hd : ∀ t od, (t, od) ∈ env' → ∃ od', (t, od') ∈ env) : SigR ρ kept n env' σ tm :=
  ⟨h.size, fun t od ht => let ⟨od', g⟩ := hd t od ht; h.env t od' g, h.kept⟩

theorem put_getD {a : Act} {d : Nat} {u : Value} (hd : d < a.tmps.size) (t : Nat) : (a.put (some d) u).tmps.getD t undef = if t = d then u else a.tmps.getD t undef := by
  show (a.tmps.setIfInBounds d u).getD t undef = _
  simp only [Array.getD_eq_getD_getElem?, Array.getElem?_setIfInBounds]
  by_cases ht : d = t
  · subst ht; simp [hd]
  · rw [if_neg ht, if_neg (fun e => ht e.symm)]

theorem SigR.put {env' : Env} {a : Act} {dst : Option Nat} {v u : Value} (h : SigR ρ kept n env σ a.tmps) (hv : VR ρ v u) (hd : ∀ d, dst = some d → d < n) (hdom : ∀ t od, (t, od) ∈ env' → some t = dst ∨ ∃ od', (t, od') ∈ env) :
    SigR ρ kept n env' (σ.set dst v) (a.put dst u).tmps := by
  cases dst with
  | none => exact h.less fun t od ht => (hdom t od ht).elim (fun e => by cases e) id
  | some d =>
    have hds : d < a.tmps.size := Nat.lt_of_lt_of_le (hd d rfl) h.size
    have key : ∀ t, (t ≠ d → VR ρ (σ t) (a.tmps.getD t undef)) → VR ρ (Sig.set σ (some d) v t) ((a.put (some d) u).tmps.getD t undef) := by
      intro t ht
      rw [put_getD hds]
      show VR ρ (if t = d then v else σ t) _
      by_cases e : t = d
      · rw [if_pos e, if_pos e]; exact hv
      · rw [if_neg e, if_neg e]; exact ht e
    refine ⟨by show n ≤ (a.tmps.setIfInBounds d u).size; simpa using h.size, fun t od ht => key t fun hne => ?_, fun t ht => key t fun _ => h.kept t ht⟩
    rcases hdom t od ht with e | ⟨od', g⟩
    · cases e; exact absurd rfl hne
    · exact h.env t od' g

/-- writes down what an operation came to -/
noncomputable def krec : RL := fun _ L D H nx => some (.normal, ⟨.n .e (headO L) .e, D, H, nx⟩)
theorem krec_inj {v v' : Value} {D' D'' : List Dfd} {H' H'' : Heap} {nx' nx'' : Nat} (h : contO P none [] krec T L D' v H' nx' = contO P none [] krec T L D'' v' H'' nx'') : v = v' ∧ D' = D'' ∧ H' = H'' ∧ nx' = nx'' := by
  rw [contO_nil, contO_nil] at h
  have h' : some (Ex.normal, (⟨.n .e (some v) .e, D', H', nx'⟩ : St)) = some (Ex.normal, ⟨.n .e (some v') .e, D'', H'', nx''⟩) := h
  simp only [Option.some.injEq, Prod.mk.injEq, St.mk.injEq, Tr.n.injEq, true_and, and_true] at h'
  exact h'
theorem krec_no {v : Value} {ch : List PanicEntry} {st : St} (h : contO P none [] krec T L D v H nx = some (.panic ch, st)) : False := by
  rw [contO_nil] at h
  have h' : some (Ex.normal, (⟨.n .e (some v) .e, D, H, nx⟩ : St)) = some (Ex.panic ch, st) := h
  simp at h'

/-- a move, run by the machine -/
theorem move_run {o : Oper} {a : AOp Operand} {x : Operand} {c : Act} {w : World} (hm : isMove o.op = true) (hc : compileOp P ins o = some a) (ha : a = .mov x) : (execOp c.eval o).run P w = .ok (.value (c.eval x)) w := by
  subst ha
  cases ho : o.op <;> simp only [ho, isMove] at hm <;> first | cases hm | skip
  all_goals
    simp only [compileOp, ho, Option.some.injEq, AOp.mov.injEq] at hc
    subst hc
    simp only [execOp, ho, Sem.run_pure]

theorem trav_mov {α β : Type} {c : α → Option β} {a : AOp α} {y : β} (h : a.trav c = some (.mov y)) : ∃ x, a = .mov x ∧ c x = some y := by
  cases a with
  | mov x =>
    simp only [AOp.trav] at h
    split at h
    · rename_i z hz
      cases h
      exact ⟨x, rfl, hz⟩
    · cases h
  | _ =>
    exfalso
    simp only [AOp.trav] at h
    repeat' split at h
    all_goals cases h

/-- one step, taken by the machine -/
theorem step_run {o : Oper} {a : AOp Operand} {b : AOp Od} {g : Option (Nat × Bool)} {c : Act} {w : World} {v : Value} {D' : List Dfd} {H' : Heap} {nx' : Nat} {next : Act → World → Prop} {Q : Exit → Act → World → Prop}
    (hA : A.P = P) (hcall : CallOk P rn) (hins : InsOk P ins) (hc : compileOp P ins o = some a) (ht : a.trav (cv kept n env) = some b) (hg : guardC ops env o.guard = some g) (he : EnvR ρ kept n env T L c) (hD : DfRs ρ D c.defers) (hH : HR ρ H nx w.heap)
    (hs : Step A rn o b g T L D H nx v D' H' nx')
    (hn : ∀ (ρ' : Rho) (u : Value) (w' : World) (c' : Act), VR ρ' v u → Went ρ H nx w ρ' H' nx' w' → DfRs ρ' D' c'.defers → c'.tmps = c.tmps → next (c'.put o.dst u) w') :
    (if Region.wanted o (yielded ops.toArray c.tmps) then o.wp P c w next Q ∨ (o.asks P c w ∧ LetsOut Q) else next (c.put o.dst undef) w) := by
  rw [guard_same hg he]
  cases hs with
  | alias od hb hm hg0 =>
    rw [hb] at ht
    obtain ⟨x, hax, hx⟩ := trav_mov ht
    have hw : wanted L g = true := by rw [hg0]; rfl
    rw [if_pos hw]
    refine .inl ?_
    unfold Oper.wp
    rw [move_run hm hc hax]
    exact hn ρ _ w c (cv_sound he hx) (.refl hH) hD rfl
  | over hw =>
    rw [hw, if_neg (by simp)]
    exact hn ρ _ w c VR.undef (.refl hH) hD rfl
  | did hw _ _ _ _ h hd =>
    rw [hw, if_pos rfl]
    refine .inl ?_
    unfold Oper.wp
    obtain ⟨r0, hr0⟩ : ∃ r0, contO A.P none [] krec T L D' v H' nx' = some r0 := ⟨_, contO_nil.trans rfl⟩
    refine op_run (p := none) (ag := []) (k := krec) hA hcall hins hc ht he hD hH ((h none [] krec).trans hr0) ?_ ?_
    · intro v2 H2 nx2 D2 ρ' u w' c' h1 h2 h3 h4 h5
      obtain ⟨rfl, rfl, rfl, rfl⟩ := krec_inj (h1.trans hr0.symm)
      exact hn ρ' u w' c' h2 h3 h4 h5
    · intro ch ch' ρ' H2 nx2 w' h1
      subst h1
      exact (krec_no hr0).elim

theorem bif_both {α : Type} {c : Bool} {x : Option α} {a : α} (h : (bif c then x else none) = some a) : c = true ∧ x = some a := by
  cases c
  · cases h
  · exact ⟨rfl, h⟩

theorem seq_region {solo : List Nat} (hA : A.P = P) (hcall : CallOk P rn) (hins : InsOk P ins) : ∀ (is : List Nat) (s s' : Laid), layAll P ins kept n false ops [] solo is s = some s' → ∃ new, s'.out = new.reverse ++ s.out ∧
    ∀ T L D H nx r σ, runOps A rn new T L D H nx = some r → EnvS kept σ s.env T L → ∀ ρ a w, HR ρ H nx w.heap → SigR ρ kept n s.env σ a.tmps → DfRs ρ D a.defers →
      ∀ Q : Exit → Act → World → Prop, (∀ e a' w', OutR ρ H nx w kept n r e a' w' → Q e a' w') → wpOps P ops.toArray Q is a w := by
  intro is
  induction is with
  | nil =>
    intro s s' h
    cases h
    refine ⟨[], rfl, fun T L D H nx r σ hr he ρ a w hH hs hD Q hQ => ?_⟩
    have hr' : some (Ex.normal, (⟨T, D, H, nx⟩ : St)) = some r := hr
    cases hr'
    exact hQ _ _ _ ⟨ρ, .refl hH, ⟨.of ⟨fun t od h => by simp at h, he.kept⟩ ⟨hs.size, fun t od h => by simp at h, hs.kept⟩, hD⟩, trivial⟩
  | cons i is ih =>
    intro s s' h
    unfold layAll at h
    cases ho : ops[i]? with
    | none => rw [ho] at h; cases h
    | some o =>
      rw [ho] at h
      simp only [cond_false] at h
      split at h
      · cases h
      · rename_i s1 hs1
        split at h
        · cases h
        · rename_i k hk
          obtain ⟨hdst, h⟩ := bif_both h
          have hlt : ∀ d, o.dst = some d → d < n := by
            intro d hd
            rw [hd] at hdst
            have hdst' : Nat.blt d n = true := hdst
            rwa [Nat.blt_eq] at hdst'
          obtain ⟨new1, env, a, b, g, hc, ht, hg, hout, hsame, hdom, hdom1, hrun⟩ := layOp_run (A := A) (rn := rn) hs1
          obtain ⟨new2, hout2, hrest⟩ := ih _ _ (bif_both h).2
          refine ⟨new1 ++ new2, ?_, fun T L D H nx r σ hr he ρ c w hH hs hD Q hQ => ?_⟩
          · rw [hout2]
            show new2.reverse ++ s1.out = _
            rw [hout]
            simp
          · obtain ⟨L1, hE, hcase⟩ := hrun new2 T L D H nx r σ hA hr he
            have hR : EnvR ρ kept n env T L1 c := .of hE (hs.less hdom)
            rw [wpOps_cons]
            unfold wpOp
            have hoi : ops.toArray[i]? = some o := by simpa using ho
            rw [hoi]
            rcases hcase with ⟨v, D', H', nx', T', L', hst, hr2, hE2, _⟩ | ⟨hw, ch, H', nx', hrp, hall⟩
            · refine step_run hA hcall hins hc ht hg hR hD hH hst fun ρ' u w' c' hv hwent hD' htm => ?_
              refine hrest T' L' D' H' nx' r _ hr2 hE2 ρ' (c'.put o.dst u) w' hwent.hr ?_ ?_ Q fun e a' w'' ho => hQ e a' w'' (.trans hwent ho)
              · refine SigR.put (env := s.env) (h := ?_) hv hlt hdom1
                rw [htm]
                exact hs.mono hwent.stp.ext
              · have : (c'.put o.dst u).defers = c'.defers := by cases o.dst <;> rfl
                rw [this]
                exact hD'
            · show (if Region.wanted o (yielded ops.toArray c.tmps) then _ else _)
              rw [guard_same hg hR, if_pos hw]
              refine .inl ?_
              unfold Oper.wp
              refine op_run (p := none) (ag := []) (k := krec) hA hcall hins hc ht hR hD hH (hall none [] krec) ?_ ?_
              · intro v2 H2 nx2 D2 ρ' u w' c' h1
                subst hrp
                exact (krec_no h1).elim
              · intro ch2 ch' ρ' H2 nx2 w' h1 h2 h3
                rw [hrp] at h1
                cases h1
                exact hQ _ _ _ ⟨ρ', by rw [hrp]; exact h3, by
                  rw [hrp]
                  exact ⟨.of ⟨fun t od h => by simp at h, he.kept⟩ ⟨hs.size, fun t od h => by simp at h, fun t h => (hs.kept t h).mono h3.stp.ext⟩, hD.mono h3.stp.ext⟩, by rw [hrp]; exact h2⟩
end Go.Eng
/- The engine: what it wrote down of a region whose order is drawn. -/
namespace Go.Eng
variable {P : Program} {ins kept : List Nat} {n : Nat} {A : AProg} {rn : Run} {ops : List Oper} {bef : List Nat}

theorem reg_ok {id : Nat} {ops : Array Oper} {l : List (AO × List Again)} (hA : A.P = P) (hcall : CallOk P rn) (hins : InsOk P ins) (h : compileOps P ins kept n false ops.toList = some l) :
    CodeOk P ins kept n (cReg A rn l) (.region id ops false) := by
  intro T D H nx o hr ρ a w hH ha
  unfold compileOps at h
  simp only [cond_false, Option.map_eq_some_iff] at h
  obtain ⟨s', hs, rfl⟩ := h
  obtain ⟨new, hout, hall⟩ := seq_region hA hcall hins _ _ _ hs
  refine wp_region ?_
  have hn : s'.out.reverse = new := by rw [hout]; simp [laid0]
  have hr' : runOps A rn s'.out.reverse T [] D H nx = some o := hr
  rw [hn] at hr'
  have := hall T [] D H nx o (fun t => (getP T (slotPath t)).getD undef) hr' ⟨fun t od h => by simp [laid0] at h, fun t _ => rfl⟩ ρ a w hH ⟨ha.env.size, fun t od h => by simp [laid0] at h, ha.env.kept⟩ ha.dfr (OutR ρ H nx w kept n o) fun e a' w' h => h
  simpa using this

structure Rec where
  i : Nat
  o : Oper
  a : AOp Operand
  σ : Sig
  D : List Dfd
  H : Heap
  nx : Nat
  v : Value
  D' : List Dfd
  H' : Heap
  nx' : Nat

/-- where the engine stands behind these, the newest first -/
def At (σ0 : Sig) (D0 : List Dfd) (H0 : Heap) (nx0 : Nat) : List Rec → Sig → List Dfd → Heap → Nat → Prop
  | [], σ, D, H, nx => σ = σ0 ∧ D = D0 ∧ H = H0 ∧ nx = nx0
  | q :: _, σ, D, H, nx => σ = q.σ.set q.o.dst q.v ∧ D = q.D' ∧ H = q.H' ∧ nx = q.nx'

def bit (bef : List Nat) (i j : Nat) : Bool := Nat.testBit (bef.getD i 0) j

structure RecOk (P : Program) (A : AProg) (rn : Run) (ins kept : List Nat) (n : Nat) (ops : List Oper) (bef : List Nat) (pre : List Rec) (r : Rec) : Prop where
  op : ops[r.i]? = some r.o
  comp : compileOp P ins r.o = some r.a
  step : ∃ env T L b g, r.a.trav (cv kept n env) = some b ∧ guardC ops env r.o.guard = some g ∧ EnvS kept r.σ env T L ∧ (∀ t od, (t, od) ∈ env → ∃ q ∈ pre, q.o.dst = some t) ∧ Step A rn r.o b g T L r.D r.H r.nx r.v r.D' r.H' r.nx'
  dst : ∀ d, r.o.dst = some d → d < n
  befs : ∀ j, bit bef r.i j = true → ∃ q ∈ pre, q.i = j
  new : ∀ q ∈ pre, q.i ≠ r.i
  hyg : hygienic ops bef r.i r.o = true
  grd : ∀ g w, r.o.guard = some (g, w) → bit bef r.i g = true
  heavy : isHeavy (kdOf r.a) = true → ∀ q ∈ pre, isHeavy (kdOf q.a) = true ∨ isMake (kdOf q.a) = true → bit bef r.i q.i = true
  load : isLoad (kdOf r.a) = true → ∀ q ∈ pre, isHeavy (kdOf q.a) = true → bit bef r.i q.i = true
  again : isHeavy (kdOf r.a) = true → ∀ q ∈ pre, isLoad (kdOf q.a) = true → bit bef r.i q.i = false → ∃ done, (∀ j, Nat.testBit done j = true ↔ ∃ q ∈ pre, q.i = j) ∧ AgainJ P ops bef done (r.σ.set r.o.dst r.v) r.H' q.i

/-- all that was written down, the newest first -/
def Chain (P : Program) (A : AProg) (rn : Run) (ins kept : List Nat) (n : Nat) (ops : List Oper) (bef : List Nat) (σ0 : Sig) (D0 : List Dfd) (H0 : Heap) (nx0 : Nat) : List Rec → Prop
  | [] => True
  | r :: pre => RecOk P A rn ins kept n ops bef pre r ∧ At σ0 D0 H0 nx0 pre r.σ r.D r.H r.nx ∧ Chain P A rn ins kept n ops bef σ0 D0 H0 nx0 pre

structure LaidOk (pre : List Rec) (s : Laid) : Prop where
  done : ∀ j, Nat.testBit s.done j = true ↔ ∃ q ∈ pre, q.i = j
  heavy : ∀ q ∈ pre, isHeavy (kdOf q.a) = true → Nat.testBit s.heavy q.i = true
  make : ∀ q ∈ pre, isMake (kdOf q.a) = true → Nat.testBit s.make q.i = true
  loads : ∀ q ∈ pre, isLoad (kdOf q.a) = true → q.i ∈ s.loads
  onlyL : ∀ j ∈ s.loads, ∃ q ∈ pre, q.i = j
  env : ∀ t od, (t, od) ∈ s.env → ∃ q ∈ pre, q.o.dst = some t

theorem kdOf_map {α β : Type} (f : α → β) (a : AOp α) : kdOf (a.map f) = kdOf a := by cases a <;> rfl
theorem kdOf_trav {α β : Type} {c : α → Option β} {a : AOp α} {b : AOp β} (d : β) (h : a.trav c = some b) : kdOf b = kdOf a := by
  rw [(trav_sound d h).1, kdOf_map]

theorem sub_bit {a b j : Nat} (h : sub a b = true) (hj : Nat.testBit a j = true) : Nat.testBit b j = true := by
  have e : a &&& b = a := Nat.eq_of_beq_eq_true h
  rw [← e, Nat.testBit_and] at hj
  simp at hj
  exact hj.2

theorem bit_or {s i j : Nat} : Nat.testBit (s ||| 2 ^ i) j = true ↔ Nat.testBit s j = true ∨ j = i := by
  rw [Nat.testBit_or, Bool.or_eq_true, Nat.testBit_two_pow]
  simp only [decide_eq_true_eq]
  constructor
  · rintro (h | h)
    · exact .inl h
    · exact .inr h.symm
  · rintro (h | h)
    · exact .inl h
    · exact .inr h.symm

/-- the masks, one operation later -/
theorem LaidOk.next {pre : List Rec} {s0 s1 : Laid} {r : Rec} (h : LaidOk pre s0) (hs : SameBut s0 s1) (hdom : ∀ t od, (t, od) ∈ s1.env → some t = r.o.dst ∨ ∃ od', (t, od') ∈ s0.env) :
    LaidOk (r :: pre) { s1 with loads := (bif isLoad (kdOf r.a) then r.i :: s1.loads else s1.loads), heavy := (bif isHeavy (kdOf r.a) then s1.heavy ||| 2 ^ r.i else s1.heavy), make := (bif isMake (kdOf r.a) then s1.make ||| 2 ^ r.i else s1.make), done := s1.done ||| 2 ^ r.i } := by
  refine ⟨fun j => ?_, fun q hq hk => ?_, fun q hq hk => ?_, fun q hq hk => ?_, fun j hj => ?_, fun t od ht => ?_⟩
  · show Nat.testBit (s1.done ||| 2 ^ r.i) j = true ↔ _
    rw [bit_or, hs.done, h.done]
    simp only [List.mem_cons, exists_eq_or_imp]
    constructor
    · rintro (h | h)
      · exact .inr h
      · exact .inl h.symm
    · rintro (h | h)
      · exact .inr h.symm
      · exact .inl h
  · show Nat.testBit (bif isHeavy (kdOf r.a) then s1.heavy ||| 2 ^ r.i else s1.heavy) q.i = true
    rcases List.mem_cons.1 hq with rfl | hq
    · rw [hk]; exact bit_or.2 (.inr rfl)
    · have := h.heavy q hq hk
      rw [hs.heavy]
      cases isHeavy (kdOf r.a)
      · exact this
      · exact bit_or.2 (.inl this)
  · show Nat.testBit (bif isMake (kdOf r.a) then s1.make ||| 2 ^ r.i else s1.make) q.i = true
    rcases List.mem_cons.1 hq with rfl | hq
    · rw [hk]; exact bit_or.2 (.inr rfl)
    · have := h.make q hq hk
      rw [hs.make]
      cases isMake (kdOf r.a)
      · exact this
      · exact bit_or.2 (.inl this)
  · show q.i ∈ (bif isLoad (kdOf r.a) then r.i :: s1.loads else s1.loads)
    rcases List.mem_cons.1 hq with rfl | hq
    · rw [hk]; exact List.mem_cons_self
    · have := h.loads q hq hk
      rw [hs.loads]
      cases isLoad (kdOf r.a)
      · exact this
      · exact List.mem_cons_of_mem _ this
  · have hj' : j ∈ (bif isLoad (kdOf r.a) then r.i :: s1.loads else s1.loads) := hj
    have : j = r.i ∨ j ∈ s0.loads := by
      rw [hs.loads] at hj'
      cases hb : isLoad (kdOf r.a) <;> rw [hb] at hj'
      · exact .inr hj'
      · exact List.mem_cons.1 hj'
    rcases this with rfl | hj
    · exact ⟨r, List.mem_cons_self, rfl⟩
    · obtain ⟨q, hq, e⟩ := h.onlyL j hj
      exact ⟨q, List.mem_cons_of_mem _ hq, e⟩
  · rcases hdom t od ht with e | ⟨od', g⟩
    · exact ⟨r, List.mem_cons_self, e.symm⟩
    · obtain ⟨q, hq, e⟩ := h.env t od' g
      exact ⟨q, List.mem_cons_of_mem _ hq, e⟩

theorem lay_trace {solo : List Nat} {σ0 : Sig} {D0 : List Dfd} {H0 : Heap} {nx0 : Nat} (hA : A.P = P) : ∀ (is : List Nat) (s s' : Laid), layAll P ins kept n true ops bef solo is s = some s' → ∃ new, s'.out = new.reverse ++ s.out ∧
    ∀ pre T L D H nx r σ, runOps A rn new T L D H nx = some r → EnvS kept σ s.env T L → LaidOk pre s → Chain P A rn ins kept n ops bef σ0 D0 H0 nx0 pre → At σ0 D0 H0 nx0 pre σ D H nx → (∀ ch, r.1 ≠ .panic ch) →
      ∃ R T' σ' D' H' nx', LaidOk R s' ∧ Chain P A rn ins kept n ops bef σ0 D0 H0 nx0 R ∧ At σ0 D0 H0 nx0 R σ' D' H' nx' ∧ (∀ t, isIn kept t = true → (getP T' (slotPath t)).getD undef = σ' t) ∧ r = (.normal, ⟨T', D', H', nx'⟩) := by
  intro is
  induction is with
  | nil =>
    intro s s' h
    cases h
    refine ⟨[], rfl, fun pre T L D H nx r σ hr he hl hch hat _ => ?_⟩
    have hr' : some (Ex.normal, (⟨T, D, H, nx⟩ : St)) = some r := hr
    cases hr'
    exact ⟨pre, T, σ, D, H, nx, hl, hch, hat, he.kept, rfl⟩
  | cons i is ih =>
    intro s s' h
    unfold layAll at h
    cases ho : ops[i]? with
    | none => rw [ho] at h; cases h
    | some o =>
      rw [ho] at h
      simp only [cond_true] at h
      split at h
      · cases h
      · rename_i s1 hs1
        split at h
        · cases h
        · rename_i k hk
          obtain ⟨hdst, h⟩ := bif_both h
          have hlt : ∀ d, o.dst = some d → d < n := by
            intro d hd
            rw [hd] at hdst
            have hdst' : Nat.blt d n = true := hdst
            rwa [Nat.blt_eq] at hdst'
          obtain ⟨hchk, h⟩ := bif_both h
          simp only [Bool.not_true, Bool.false_or, Bool.and_eq_true, Bool.not_eq_true'] at hchk
          obtain ⟨⟨⟨⟨c1, c2⟩, c3⟩, c4⟩, c5⟩ := hchk
          obtain ⟨new1, env, a, b, g, hc, ht, hg, hout, hsame, hdom, hdom1, hrun⟩ := layOp_run (A := A) (rn := rn) hs1
          have hka : k = a := by rw [hk] at hc; exact Option.some.inj hc
          subst hka
          obtain ⟨new2, hout2, hrest⟩ := ih _ _ h
          refine ⟨new1 ++ new2, ?_, fun pre T L D H nx r σ hr he hl hch hat hnp => ?_⟩
          · rw [hout2]
            show new2.reverse ++ s1.out = _
            rw [hout]
            simp
          · obtain ⟨L1, hE, hcase⟩ := hrun new2 T L D H nx r σ hA hr he
            rcases hcase with ⟨v, D', H', nx', T', L', hst, hr2, hE2, hag⟩ | ⟨hw, ch, H', nx', hrp, hall⟩
            · have hkd : kdOf b = kdOf k := kdOf_trav (.loc 0) ht
              have hrec : RecOk P A rn ins kept n ops bef pre ⟨i, o, k, σ, D, H, nx, v, D', H', nx'⟩ := by
                refine ⟨ho, hk, ⟨env, T, L1, b, g, ht, hg, hE, fun t od hm => ?_, hst⟩, hlt, fun j hj => (hl.done j).1 (sub_bit c1 hj), fun q hq e => ?_, c3, fun g' w' hgd => ?_, fun hh q hq hqk => ?_, fun hh q hq hqk => ?_, fun hh q hq hqk hbit => ?_⟩
                · obtain ⟨od', hm'⟩ := hdom t od hm
                  exact hl.env t od' hm'
                · have := (hl.done i).2 ⟨q, hq, e⟩
                  rw [c2] at this
                  cases this
                · have hgd' : o.guard = some (g', w') := hgd
                  rw [hgd'] at c4
                  exact c4
                · have hh' : isHeavy (kdOf k) = true := hh
                  cases hkk : kdOf k <;> rw [hkk] at hh' <;> first | cases hh' | skip
                  rw [hkk] at c5
                  have c5' : (sub s.heavy (bef.getD i 0) && sub s.make (bef.getD i 0)) = true := c5
                  rw [Bool.and_eq_true] at c5'
                  rcases hqk with hqk | hqk
                  · exact sub_bit c5'.1 (hl.heavy q hq hqk)
                  · exact sub_bit c5'.2 (hl.make q hq hqk)
                · have hh' : isLoad (kdOf k) = true := hh
                  cases hkk : kdOf k <;> rw [hkk] at hh' <;> first | cases hh' | skip
                  rw [hkk] at c5
                  have c5' : sub s.heavy (bef.getD i 0) = true := c5
                  exact sub_bit c5' (hl.heavy q hq hqk)
                · exact ⟨s.done, hl.done, hag (by rw [hkd]; exact hh) q.i (hl.loads q hq hqk) hbit⟩
              obtain ⟨R, T2, σ2, D2, H2, nx2, q1, q2, q3, q4, q5⟩ := hrest (⟨i, o, k, σ, D, H, nx, v, D', H', nx'⟩ :: pre) T' L' D' H' nx' r _ hr2 hE2 (hl.next (r := ⟨i, o, k, σ, D, H, nx, v, D', H', nx'⟩) hsame hdom1) ⟨hrec, hat, hch⟩ ⟨rfl, rfl, rfl, rfl⟩ hnp
              exact ⟨R, T2, σ2, D2, H2, nx2, q1, q2, q3, q4, q5⟩
            · exact absurd (by rw [hrp]) (hnp ch)
end Go.Eng
/- The engine: its counter never goes down. -/
namespace Go.Eng
variable {P : Program} {ins kept : List Nat} {n : Nat} {A : AProg} {rn : Run} {T : Tr Value} {L : List Value} {D : List Dfd} {H : Heap} {nx : Nat}

def Up (f : RC) : Prop := ∀ T D H nx o, f T D H nx = some o → nx ≤ o.2.nx
def CRet.count : CRet → Nat
  | .ok _ _ nx => nx
  | .pan _ _ nx => nx
structure UpRun (r : Run) : Prop where
  code : ∀ c, Up (r.code c)
  call : ∀ g vs H nx c, r.call g vs H nx = some c → nx ≤ c.count
def UpK (k : RL) : Prop := ∀ T L D H nx r, k T L D H nx = some r → nx ≤ r.2.nx

theorem againK_tail {X : R0} {r : Ex × St} : ∀ {as : List Again}, againK P T L H as X = some r → X = some r := by
  intro as
  induction as with
  | nil => intro h; exact h
  | cons a as ih => intro h; exact ih (again1_some h).1

theorem contO_up {p : Option (List Bool)} {ag : List Again} {k : RL} {v : Value} {r : Ex × St} (hk : UpK k) (h : contO P p ag k T L D v H nx = some r) : nx ≤ r.2.nx := by
  unfold contO at h
  rw [keepK_put] at h
  exact hk _ _ _ _ _ _ (againK_tail h)

theorem onRet_up {p : Option (List Bool)} {ag : List Again} {k : RL} {c : CRet} {r : Ex × St} (hk : UpK k) (hc : nx ≤ c.count) (h : onRet P p ag k T L D c = some r) : nx ≤ r.2.nx := by
  cases c with
  | ok v H' nx' => exact Nat.le_trans hc (contO_up hk h)
  | pan ch H' nx' =>
    have h' : some (Ex.panic ch, (⟨T, D, H', nx'⟩ : St)) = some r := h
    cases h'
    exact hc

theorem opT_up {b : AOp Od} {p : Option (List Bool)} {ag : List Again} {k : RL} {r : Ex × St} (hu : UpRun rn) (hk : UpK k) (h : opT b A rn p ag k b T L D H nx = some r) : nx ≤ r.2.nx := by
  by_cases hp : b.plain = true
  · rw [opT_plain hp] at h
    have h' : actT b A.P T L H nx (uk fun x => contO A.P p ag k T L D x.1 x.2.1 x.2.2) = some r := h
    obtain ⟨x, h1, _, h3⟩ := actT_detP b _ r h'
    exact Nat.le_trans h3 (contO_up hk h1)
  · cases b with
    | call f args =>
      have h' : evK T L f (fun f => evsK T L args fun vs => targetK vs (fun g vs => bd (rn.call g vs H nx) (onRet A.P p ag k T L D)) f) = some r := h
      rw [evK_eq] at h'
      obtain ⟨fv, hfv, h1⟩ := bd_eq h'
      rw [evsK_eq] at h1
      obtain ⟨vs, hvs, h2⟩ := bd_eq h1
      unfold targetK at h2
      split at h2
      · obtain ⟨c, g1, g2⟩ := bd_eq h2
        exact onRet_up hk (hu.call _ _ _ _ _ g1) g2
      · cases h2
    | inv x name args =>
      have h' : evK T L x (fun x => evsK T L args fun vs => invV A.P name H (fun g v => bd (rn.call g (v :: vs) H nx) (onRet A.P p ag k T L D)) x) = some r := h
      rw [evK_eq] at h'
      obtain ⟨fv, hfv, h1⟩ := bd_eq h'
      rw [evsK_eq] at h1
      obtain ⟨vs, hvs, h2⟩ := bd_eq h1
      have hd : DetP (fun _ => True) fun k' : FuncId × Value → R0 => invV A.P name H (fun g v => k' (g, v)) fv := by
        unfold invV
        split
        · refine .bd fun m => ?_
          unfold recvK
          cases m.2 with
          | none => exact .ret _ trivial
          | some agg => exact .ptr fun _ _ => .cellsR fun _ => .bd fun _ => .ret _ trivial
        · exact .no
      obtain ⟨y, g1, _⟩ := hd.det (fun y => bd (rn.call y.1 (y.2 :: vs) H nx) (onRet A.P p ag k T L D)) r h2
      obtain ⟨c, k1, k2⟩ := bd_eq g1
      exact onRet_up hk (hu.call _ _ _ _ _ k1) k2
    | dfr f args =>
      have h' : evK T L f (fun f => evsK T L args fun vs => onFn f (contO A.P p ag k T L ((f, vs) :: D) undef H nx)) = some r := h
      rw [evK_eq] at h'
      obtain ⟨fv, hfv, h1⟩ := bd_eq h'
      rw [evsK_eq] at h1
      obtain ⟨vs, hvs, h2⟩ := bd_eq h1
      unfold onFn at h2
      split at h2
      · exact contO_up hk h2
      · cases h2
    | pan x =>
      have h' : evK T L x (panV T D H nx) = some r := h
      rw [evK_eq] at h'
      obtain ⟨v, hv, h1⟩ := bd_eq h'
      unfold panV at h1
      split at h1
      · cases h1; exact Nat.le_refl _
      · cases h1
    | rcv => cases h
    | ins z bytes s i v =>
      have h' : actT (.ins z bytes s i v) A.P T L H nx (uk fun x => contO A.P p ag k T L D x.1 x.2.1 x.2.2) = some r := h
      obtain ⟨x, h1, _, h3⟩ := actT_detP _ _ r h'
      exact Nat.le_trans h3 (contO_up hk h1)
    | _ => exact absurd rfl hp

theorem opT_up' {b : AOp Od} {v : Value} {D' : List Dfd} {H' : Heap} {nx' : Nat} (hu : UpRun rn) (h : ∀ p ag k, opT b A rn p ag k b T L D H nx = contO A.P p ag k T L D' v H' nx') : nx ≤ nx' :=
  opT_up (k := krec) (p := none) (ag := []) (r := (.normal, ⟨.n .e (some v) .e, D', H', nx'⟩)) hu (fun T L D H nx r h => by cases h; exact Nat.le_refl _) ((h none [] krec).trans (contO_nil.trans rfl))

theorem runOps_up (hu : UpRun rn) : ∀ l : List (AO × List Again), UpK (runOps A rn l) := by
  intro l
  induction l with
  | nil => intro T L D H nx r h; cases h; exact Nat.le_refl _
  | cons x l ih =>
    obtain ⟨o, ag⟩ := x
    intro T L D H nx r h
    have h' : cond (wanted L o.guard) (opT o.op A rn o.keep ag (runOps A rn l) o.op T L D H nx) (contO A.P o.keep ag (runOps A rn l) T L D undef H nx) = some r := h
    cases hw : wanted L o.guard with
    | true => rw [hw] at h'; exact opT_up hu ih h'
    | false => rw [hw] at h'; exact contO_up ih h'

theorem seqK_up {k : RC} {o1 o : Ex × St} (hk : Up k) (h : seqK k o1 = some o) : o1.2.nx ≤ o.2.nx := by
  obtain ⟨e, st⟩ := o1
  cases e with
  | normal => exact hk _ _ _ _ _ h
  | exit i => cases h; exact Nat.le_refl _
  | ret => cases h; exact Nat.le_refl _
  | panic c => cases h; exact Nat.le_refl _

theorem blockK_up {id : Nat} {o1 o : Ex × St} (h : blockK id o1 = some o) : o1.2.nx ≤ o.2.nx := by
  obtain ⟨e, st⟩ := o1
  cases e with
  | normal => cases h; exact Nat.le_refl _
  | exit i =>
    have h4 : (cond (Nat.beq i id) (stay .normal) (stay (.exit i))) st = some o := h
    cases hb : Nat.beq i id <;> (rw [hb] at h4; cases h4; exact Nat.le_refl _)
  | ret => cases h; exact Nat.le_refl _
  | panic c => cases h; exact Nat.le_refl _

theorem drawK_eq {o1 o : Ex × St} (h : drawK o1 = some o) : o1 = o ∧ o.1 = .normal := by
  obtain ⟨e, st⟩ := o1
  cases e <;> cases h
  exact ⟨rfl, rfl⟩

theorem codeT_up (hu : UpRun rn) : ∀ c : ACode, Up (codeT c A rn) := by
  intro c
  induction c with
  | skip => intro T D H nx o h; cases h; exact Nat.le_refl _
  | reg dr ops =>
    cases dr with
    | false => intro T D H nx o h; exact runOps_up hu ops T [] D H nx o h
    | true =>
      intro T D H nx o h
      obtain ⟨o1, h1, h2⟩ := bd_eq (show bd (runOps A rn ops T [] D H nx) drawK = some o from h)
      obtain ⟨rfl, _⟩ := drawK_eq h2
      exact runOps_up hu ops T [] D H nx _ h1
  | seq a b iha ihb =>
    intro T D H nx o h
    obtain ⟨o1, h1, h2⟩ := bd_eq (show bd (codeT a A rn T D H nx) (seqK (codeT b A rn)) = some o from h)
    exact Nat.le_trans (iha _ _ _ _ _ h1) (seqK_up ihb h2)
  | cond c a b iha ihb =>
    intro T D H nx o h
    have h' : evK T [] c (fun v => onBool v (codeT a A rn T D H nx) (codeT b A rn T D H nx)) = some o := h
    rw [evK_eq] at h'
    obtain ⟨v, hv, h1⟩ := bd_eq h'
    rcases onBool_some h1 with ⟨_, h2⟩ | ⟨_, h2⟩
    · exact iha _ _ _ _ _ h2
    · exact ihb _ _ _ _ _ h2
  | block id a iha =>
    intro T D H nx o h
    obtain ⟨o1, h1, h2⟩ := bd_eq (show bd (codeT a A rn T D H nx) (blockK id) = some o from h)
    exact Nat.le_trans (iha _ _ _ _ _ h1) (blockK_up h2)
  | loop a iha =>
    intro T D H nx o h
    obtain ⟨o1, h1, h2⟩ := bd_eq (show bd (codeT a A rn T D H nx) (seqK (rn.code (.loop a))) = some o from h)
    exact Nat.le_trans (iha _ _ _ _ _ h1) (seqK_up (hu.code _) h2)
  | exit id => intro T D H nx o h; cases h; exact Nat.le_refl _
  | ret => intro T D H nx o h; cases h; exact Nat.le_refl _

def startP : List Value → Nat → Tr Value → Tr Value
  | [], _, T => T
  | v :: l, i, T => startP l (i + 1) (insP (at_ i) T (some v))

theorem startT_eq (l : List Value) (T : Tr Value) (k : Tr Value → R0) : startT l T k = k (startP l 0 T) := by
  have : ∀ (l : List Value) (i : Nat) (T : Tr Value) (k : Tr Value → R0), (List.rec (motive := fun _ => Nat → Tr Value → (Tr Value → R0) → R0) (fun _ T k => k T) (fun v _ ih i T k => setP (at_ i) T (some v) fun T => ih (Nat.succ i) T k) l : Nat → Tr Value → (Tr Value → R0) → R0) i T k = k (startP l i T) := by
    intro l
    induction l with
    | nil => intro i T k; rfl
    | cons v l ih =>
      intro i T k
      show setP (at_ i) T (some v) (fun T => (List.rec (motive := fun _ => Nat → Tr Value → (Tr Value → R0) → R0) (fun _ T k => k T) (fun v _ ih i T k => setP (at_ i) T (some v) fun T => ih (Nat.succ i) T k) l : Nat → Tr Value → (Tr Value → R0) → R0) (Nat.succ i) T k) = _
      rw [setP_eq, ih]
      rfl
  exact this l 0 T k

theorem endD_up {o : Ex × St} {u : FrameMode} {y : FrameMode × Heap × Nat} (h : endD o u = some y) : y.2.2 = o.2.nx := by
  unfold endD at h
  split at h <;> cases h <;> rfl

theorem deferredK_up (hu : UpRun rn) {f : Value} {args : List Value} {u : FrameMode} {y : FrameMode × Heap × Nat} (h : deferredK A rn f args u H nx = some y) : nx ≤ y.2.2 := by
  unfold deferredK at h
  split at h
  · split at h
    · split at h
      · obtain ⟨o, h1, h2⟩ := bd_eq h
        rw [startT_eq, setP_eq] at h1
        rw [endD_up h2]
        exact codeT_up hu _ _ _ _ _ _ h1
      · obtain ⟨o, h1, h2⟩ := bd_eq h
        rw [startT_eq] at h1
        rw [endD_up h2]
        exact codeT_up hu _ _ _ _ _ _ h1
    · cases h
  · cases h

theorem unwindD_up (hu : UpRun rn) : ∀ (D : List Dfd) (u : FrameMode) (H : Heap) (nx : Nat) (y : FrameMode × Heap × Nat), unwindD A rn D u H nx = some y → nx ≤ y.2.2 := by
  intro D
  induction D with
  | nil => intro u H nx y h; cases h; exact Nat.le_refl _
  | cons d D ih =>
    obtain ⟨f, args⟩ := d
    intro u H nx y h
    unfold unwindD at h
    split at h
    · rename_i u1 H1 nx1 h1
      exact Nat.le_trans (deferredK_up hu h1) (ih _ _ _ _ h)
    · cases h

theorem resultsK_ok {l : List (Od × Option (Option Nat))} {k : List Value → Option CRet} {c : CRet} (h : resultsK T H l k = some c) : ∃ vs, k vs = some c := by
  induction l generalizing k with
  | nil => exact ⟨[], h⟩
  | cons x l ih =>
    have h' : resK T H x (fun v => resultsK T H l fun vs => k (v :: vs)) = some c := h
    have hk : ∀ v, resultsK T H l (fun vs => k (v :: vs)) = some c → ∃ vs, k vs = some c := by
      intro v hv
      obtain ⟨vs, g⟩ := ih hv
      exact ⟨v :: vs, g⟩
    unfold resK at h'
    split at h'
    · obtain ⟨v, _, g⟩ := bd_eq h'; exact hk v g
    · split at h'
      · split at h'
        · obtain ⟨v, _, g⟩ := bd_eq h'; exact hk v g
        · cases h'
      · cases h'
    · cases h'

theorem leaveF_up (hu : UpRun rn) {af : AFunc} {u : FrameMode} {st : St} {c : CRet} (h : leaveF A rn af u st = some c) : st.nx ≤ c.count := by
  obtain ⟨T, D, H, nx⟩ := st
  obtain ⟨y, h1, h2⟩ := bd_eq (show bd (unwindD A rn D u H nx) (leaveM af T) = some c from h)
  have h3 := unwindD_up hu _ _ _ _ _ h1
  refine Nat.le_trans h3 ?_
  obtain ⟨m, H', nx'⟩ := y
  unfold leaveM at h2
  split at h2
  · rename_i hx
    cases hx
    obtain ⟨vs, g⟩ := resultsK_ok h2
    cases g
    exact Nat.le_refl _
  · rename_i hx
    cases hx
    cases h2
    exact Nat.le_refl _
  · cases h2

theorem run_up (hk : ∀ g vs H nx c, A.hook g vs H nx = some c → nx ≤ c.count) (n : Nat) : UpRun (run A n) := by
  induction n with
  | zero => exact ⟨(fun c T D H nx o h => by cases h), (fun g vs H nx c h => by cases h)⟩
  | succ n ih =>
    refine ⟨fun c => codeT_up ih c, fun g vs H nx c h => ?_⟩
    have h' : (Option.rec (bd (A.funcs g) (callF1 A (run A n) vs H nx)) some (A.hook g vs H nx) : Option CRet) = some c := h
    cases hh : A.hook g vs H nx with
    | some c' =>
      rw [hh] at h'
      cases h'
      exact hk _ _ _ _ _ hh
    | none =>
    rw [hh] at h'
    obtain ⟨af, h1, h2⟩ := bd_eq (show bd (A.funcs g) (callF1 A (run A n) vs H nx) = some c from h')
    obtain ⟨o, h3, h4⟩ := bd_eq (show bd (startT vs .e fun T => codeT af.body A (run A n) T [] H nx) (endF A (run A n) af) = some c from h2)
    rw [startT_eq] at h3
    have h5 := codeT_up ih _ _ _ _ _ _ h3
    refine Nat.le_trans h5 ?_
    obtain ⟨e, st⟩ := o
    cases e with
    | normal => exact leaveF_up ih h4
    | exit i => cases h4
    | ret => exact leaveF_up ih h4
    | panic ch => exact leaveF_up ih h4
end Go.Eng
/- The engine: the operands of a compiled operation are the operation's. -/
namespace Go.Eng
variable {P : Program} {ins : List Nat}

theorem placesS_mem {fs : List Field} : ∀ {l : List (Nat × Operand)} {r : List (Nat × Nat × Operand)}, placesS P fs l = some r → ∀ x ∈ r, x.2.2 ∈ l.map (·.2) := by
  intro l
  induction l with
  | nil => intro r h x hx; cases h; simp at hx
  | cons y l ih =>
    obtain ⟨i, y⟩ := y
    intro r h x hx
    unfold placesS at h
    split at h
    · rename_i f rs _ hrs
      split at h
      · cases h
        rcases List.mem_cons.1 hx with rfl | hx
        · simp
        · exact List.mem_cons_of_mem _ (ih hrs x hx)
      · cases h
    · cases h

theorem placesA_mem {z : Nat} : ∀ {l : List (Nat × Operand)}, ∀ x ∈ placesA z l, x.2.2 ∈ l.map (·.2) := by
  intro l
  induction l with
  | nil => intro x hx; simp [placesA] at hx
  | cons y l ih =>
    obtain ⟨i, y⟩ := y
    intro x hx
    rcases List.mem_cons.1 hx with rfl | hx
    · simp
    · exact List.mem_cons_of_mem _ (ih x hx)

theorem comp_operands {o : Oper} {a : AOp Operand} (h : compileOp P ins o = some a) : a.all fun x => x ∈ o.op.operands.toList := by
  cases ho : o.op with
  | build t parts =>
    simp only [compileOp, ho] at h
    split at h
    · obtain ⟨ps, hps, rfl⟩ := Option.map_eq_some_iff.1 (bif_some h)
      intro x hx
      simpa [Op.operands] using placesS_mem hps x hx
    · split at h
      · cases h
        intro x hx
        simpa [Op.operands] using placesA_mem x hx
      · cases h
    · cases h
  | buildSlice t len parts =>
    simp only [compileOp, ho] at h
    split at h
    · split at h
      · replace h := bif_some h
        cases h
        intro x hx
        simpa [Op.operands] using placesA_mem x hx
      · cases h
    · cases h
  | binOp op t x y b =>
    simp only [compileOp, ho] at h
    unfold compileBin at h
    repeat' split at h
    all_goals first
      | (replace h := bif_some h; cases h; simp [AOp.all, Op.operands])
      | (cases h; done)
      | (cases h; simp [AOp.all, Op.operands])
  | call d =>
    simp only [compileOp, ho] at h
    cases hd : d.callee with
    | builtin b =>
      rw [hd] at h
      simp only at h
      have hargs : ∀ x ∈ d.args.toList, x ∈ (Op.call d).operands.toList := by
        intro x hx
        simp only [Op.operands, Call.operands, hd]
        simpa using hx
      unfold compileBuiltin at h
      generalize d.args.toList = as at h hargs
      generalize d.argTypes.toList = ts at h
      repeat' split at h
      all_goals first
        | (cases h; done)
        | (replace h := bif_some h; cases h; simp only [AOp.all]; refine ⟨hargs _ ?_, hargs _ ?_⟩ <;> simp)
        | (cases h; simp only [AOp.all]; refine ⟨hargs _ ?_, hargs _ ?_⟩ <;> simp)
        | (cases h; simp only [AOp.all]; exact hargs _ (by simp))
        | (cases h; exact hargs)
        | (cases h; simp [AOp.all])
    | value f =>
      rw [hd] at h
      have hf : f ∈ (Op.call d).operands.toList := by simp [Op.operands, Call.operands, hd]
      have hargs : ∀ x ∈ d.args.toList, x ∈ (Op.call d).operands.toList := by
        intro x hx
        simp only [Op.operands, Call.operands, hd]
        simp [Array.mem_def.2 hx]
      cases f with
      | func g =>
        simp only at h
        cases hg : isIn ins g with
        | true =>
          rw [hg] at h
          simp only [cond_true] at h
          split at h
          · rename_i s i v t ts hargs' _
            rw [hargs'] at hargs
            split at h
            · split at h
              · cases h
                exact ⟨hargs _ (by simp), hargs _ (by simp), hargs _ (by simp)⟩
              · cases h
            · cases h
          · cases h
        | false => rw [hg] at h; cases h; exact ⟨hf, hargs⟩
      | _ => simp only at h; cases h; exact ⟨hf, hargs⟩
    | invoke x name =>
      rw [hd] at h
      simp only at h
      cases h
      have hf : x ∈ (Op.call d).operands.toList := by simp [Op.operands, Call.operands, hd]
      refine ⟨hf, fun y hy => ?_⟩
      simp only [Op.operands, Call.operands, hd]
      simp [Array.mem_def.2 hy]
  | defer d =>
    simp only [compileOp, ho] at h
    split at h
    · rename_i f hd
      cases h
      refine ⟨by simp [Op.operands, Call.operands, hd], fun y hy => ?_⟩
      simp only [Op.operands, Call.operands, hd]
      simp [Array.mem_def.2 hy]
    · cases h
  | makeFunc f a b =>
    cases f with
    | func f =>
      simp only [compileOp, ho, Option.some.injEq] at h
      subst h
      refine ⟨fun x hx => ?_, fun x hx => ?_⟩ <;> simp [Op.operands, Array.mem_def.2 hx]
    | _ => simp only [compileOp, ho] at h; cases h
  | slice t x lo hi mx =>
    have key : ∀ y, (y = x ∨ y ∈ lo ∨ y ∈ hi ∨ y ∈ mx) → y ∈ (Op.slice t x lo hi mx).operands.toList := by
      intro y
      cases lo <;> cases hi <;> cases mx <;> simp [Op.operands] <;> grind
    simp only [compileOp, ho] at h
    split at h
    · replace h := bif_some h
      obtain ⟨z, _, rfl⟩ := Option.map_eq_some_iff.1 h
      exact ⟨key _ (.inl rfl), fun y hy => key _ (.inr (.inl hy)), fun y hy => key _ (.inr (.inr (.inl hy))), fun y hy => key _ (.inr (.inr (.inr hy)))⟩
    · split at h
      · cases h
        exact ⟨key _ (.inl rfl), fun y hy => key _ (.inr (.inl hy)), fun y hy => key _ (.inr (.inr (.inl hy)))⟩
      · cases h
    · cases h
  | makeMap t r =>
    simp only [compileOp, ho] at h
    split at h
    · cases h
      intro x hx
      simp [Op.operands]
      exact hx
    · cases h
  | _ =>
    simp only [compileOp, ho] at h
    repeat' split at h
    all_goals first
      | (cases h; done)
      | (replace h := bif_some h; cases h; simp [AOp.all, Op.operands]; done)
      | (obtain ⟨z, _, rfl⟩ := Option.map_eq_some_iff.1 h; simp [AOp.all, Op.operands]; done)
      | (cases h; simp [AOp.all, Op.operands]; done)
end Go.Eng
/- The engine: values that speak of early blocks alone. -/
namespace Go.Eng
variable {P : Program} {ρ ρ' : Rho} {n m : Nat}

def Rho.upto (ρ : Rho) (n : Nat) : Rho := fun b => if b < n then ρ b else none
def Below (ρ : Rho) (n : Nat) : Prop := ∀ b, n ≤ b → ρ b = none

theorem Rho.upto_lt {b : Nat} (h : b < n) : ρ.upto n b = ρ b := if_pos h
theorem Rho.upto_ge {b : Nat} (h : n ≤ b) : ρ.upto n b = none := if_neg (Nat.not_lt.2 h)
theorem below_upto : Below (ρ.upto n) n := fun _ h => Rho.upto_ge h
theorem upto_ext : Ext (ρ.upto n) ρ := by
  intro b r h
  unfold Rho.upto at h
  split at h
  · exact h
  · cases h
theorem upto_some {b : Nat} {r r' : Ref} (h : ρ b = some r) (h' : ρ' b = some r') (hb : Below ρ' n) : ρ.upto n b = some r := by
  have : b < n := by
    rcases Nat.lt_or_ge b n with h1 | h1
    · exact h1
    · rw [hb b h1] at h'; cases h'
  rw [Rho.upto_lt this]; exact h

mutual
theorem VR.upto (hb : Below ρ' n) : ∀ {v u u' : Value}, VR ρ v u → VR ρ' v u' → VR (ρ.upto n) v u
  | _, _, _, .sc h, _ => .sc h
  | _, _, _, .nilI, _ => .nilI
  | _, _, _, .pnil, _ => .pnil
  | _, _, _, .ptr h, h' => by
    cases h' with
    | sc h => simp [scalar] at h
    | ptr h' => exact .ptr (upto_some h h' hb)
  | _, _, _, .snil, _ => .snil
  | _, _, _, .sl h hl hs he hp, h' => by
    cases h' with
    | sc h => simp [scalar] at h
    | sl h' _ _ _ _ => exact .sl (upto_some h h' hb) hl hs he hp
  | _, _, _, .mnil, _ => .mnil
  | _, _, _, .map h, h' => by
    cases h' with
    | sc h => simp [scalar] at h
    | map h' => exact .map (upto_some h h' hb)
  | _, _, _, .func h1 h2, h' => by
    cases h' with
    | sc h => simp [scalar] at h
    | func h3 h4 => exact .func (VRs.upto hb h1 h3) (VRs.upto hb h2 h4)
  | _, _, _, .iface h, h' => by
    cases h' with
    | sc h => simp [scalar] at h
    | iface h' => exact .iface (VR.upto hb h h')
  | _, _, _, .agg h, h' => by
    cases h' with
    | sc h => simp [scalar] at h
    | agg h' => exact .agg (VRs.upto hb h h')
  | _, _, _, .tuple h, h' => by
    cases h' with
    | sc h => simp [scalar] at h
    | tuple h' => exact .tuple (VRs.upto hb h h')
  | _, _, _, .any h, _ => .any h
theorem VRs.upto (hb : Below ρ' n) : ∀ {v u u' : List Value}, VRs ρ v u → VRs ρ' v u' → VRs (ρ.upto n) v u
  | _, _, _, .nil, _ => .nil
  | _, _, _, .cons h hs, h' => by
    cases h' with
    | cons h1 h2 => exact .cons (VR.upto hb h h1) (VRs.upto hb hs h2)
end

theorem ERs.upto (hb : Below ρ' n) {v u u' : List MapEntry} (h : ERs ρ v u) (h' : ERs ρ' v u') : ERs (ρ.upto n) v u := by
  induction h generalizing u' with
  | nil => exact .nil
  | cons hk hv hbn _ ih =>
    cases h' with
    | cons hk' hv' _ h' => exact .cons (hk.upto hb hk') (hv.upto hb hv') hbn (ih h')

theorem BR.upto (hb : Below ρ' n) {hp hp' : Array Obj} {r r' : Ref} {k : Blk} (h : BR ρ hp r k) (h' : BR ρ' hp' r' k) : BR (ρ.upto n) hp r k := by
  cases k with
  | cells cs =>
    obtain ⟨a, e, h1, h2, h3⟩ := h
    obtain ⟨a', e', _, _, h3'⟩ := h'
    refine ⟨a, e, h1, h2, fun i v hv => ?_⟩
    obtain ⟨u, g1, g2⟩ := h3 i v hv
    obtain ⟨u', _, g2'⟩ := h3' i v hv
    exact ⟨u, g1, g2.upto hb g2'⟩
  | map es c =>
    obtain ⟨es1, h1, h2⟩ := h
    obtain ⟨es1', _, h2'⟩ := h'
    exact ⟨es1, h1, h2.upto hb h2'⟩
  | ro cs =>
    obtain ⟨a, e, f, h1, h2, h3⟩ := h
    obtain ⟨a', e', f', _, _, h3'⟩ := h'
    refine ⟨a, e, f, h1, h2, fun i v hv => ?_⟩
    obtain ⟨u, g1, g2⟩ := h3 i v hv
    obtain ⟨u', _, g2'⟩ := h3' i v hv
    exact ⟨u, g1, g2.upto hb g2'⟩

theorem DfR.upto (hb : Below ρ' n) {x : Dfd} {d d' : Deferred} (h : DfR ρ x d) (h' : DfR ρ' x d') : DfR (ρ.upto n) x d := by
  obtain ⟨f, a, a', c, c', vs, h1, h2, h3, h4, h5⟩ := h
  obtain ⟨f', a2, a2', c2, c2', vs', h1', h2', h3', h4', h5'⟩ := h'
  rw [h1] at h1'
  simp only [Value.func.injEq, Fn.func.injEq, Array.mk.injEq] at h1'
  obtain ⟨rfl, rfl, rfl⟩ := h1'
  exact ⟨f, a, a', c, c', vs, h1, h2, h3.upto hb h3', h4.upto hb h4', h5.upto hb h5'⟩

theorem DfRs.upto (hb : Below ρ' n) {l : List Dfd} {d d' : List Deferred} (h : DfRs ρ l d) (h' : DfRs ρ' l d') : DfRs (ρ.upto n) l d := by
  induction h generalizing d' with
  | nil => exact .nil
  | cons hx _ ih =>
    cases h' with
    | cons hx' h' => exact .cons (hx.upto hb hx') (ih h')

/-- it speaks of blocks below 'n' alone -/
def VLow (n : Nat) (v : Value) : Prop := ∃ ρ u, VR ρ v u ∧ Below ρ n
def BLow (n b : Nat) (k : Blk) : Prop := ∃ ρ hp r, ρ b = some r ∧ BR ρ hp r k ∧ Below ρ n
def DLow (n : Nat) (D : List Dfd) : Prop := ∃ ρ l, DfRs ρ D l ∧ Below ρ n

theorem Below.mono (h : Below ρ n) (hn : n ≤ m) : Below ρ m := fun b hb => h b (Nat.le_trans hn hb)
theorem VLow.mono {v : Value} (h : VLow n v) (hn : n ≤ m) : VLow m v := let ⟨ρ, u, h1, h2⟩ := h; ⟨ρ, u, h1, h2.mono hn⟩
theorem BLow.mono {b : Nat} {k : Blk} (h : BLow n b k) (hn : n ≤ m) : BLow m b k := let ⟨ρ, hp, r, h1, h2, h3⟩ := h; ⟨ρ, hp, r, h1, h2, h3.mono hn⟩
theorem DLow.mono {D : List Dfd} (h : DLow n D) (hn : n ≤ m) : DLow m D := let ⟨ρ, u, h1, h2⟩ := h; ⟨ρ, u, h1, h2.mono hn⟩
theorem VLow.cut {v u : Value} (h : VLow n v) (hv : VR ρ v u) : VR (ρ.upto n) v u := let ⟨_, _, h1, h2⟩ := h; hv.upto h2 h1
theorem BLow.cut {b : Nat} {k : Blk} {hp : Array Obj} {r : Ref} (h : BLow n b k) (hv : BR ρ hp r k) : BR (ρ.upto n) hp r k := let ⟨_, _, _, _, h1, h2⟩ := h; hv.upto h2 h1
theorem BLow.lt {b : Nat} {k : Blk} (h : BLow n b k) : b < n := by
  obtain ⟨ρ, hp, r, h1, _, h2⟩ := h
  rcases Nat.lt_or_ge b n with h3 | h3
  · exact h3
  · rw [h2 b h3] at h1; cases h1
theorem DLow.cut {D : List Dfd} {l : List Deferred} (h : DLow n D) (hv : DfRs ρ D l) : DfRs (ρ.upto n) D l := let ⟨_, _, h1, h2⟩ := h; hv.upto h2 h1
theorem VR.low {v u : Value} (h : VR ρ v u) (hb : Below ρ n) : VLow n v := ⟨ρ, u, h, hb⟩
theorem HR.blow {H : Heap} {nx : Nat} {hp : Array Obj} (h : HR ρ H nx hp) {b : Nat} {k : Blk} (hb : getP H (at_ b) = some k) : BLow nx b k := let ⟨r, h1, h2⟩ := h.blk b k hb; ⟨ρ, hp, r, h1, h2, h.new⟩
theorem VLow.none : VLow n Go.undef := ⟨fun _ => Option.none, Go.undef, VR.undef, fun _ _ => rfl⟩
end Go.Eng
/- The engine: what each kind of operation has to do with the heap. -/
namespace Go.Eng
variable {P : Program} {T : Tr Value} {L : List Value} {H : Heap} {nx : Nat}

def ka0 : KA := fun v H nx => some (.normal, ⟨.n .e (some v) .e, [], H, nx⟩)
theorem ka0_inj {v v' : Value} {H H' : Heap} {nx nx' : Nat} (h : ka0 v H nx = ka0 v' H' nx') : v = v' ∧ H = H' ∧ nx = nx' := by
  unfold ka0 at h
  simp only [Option.some.injEq, Prod.mk.injEq, St.mk.injEq, Tr.n.injEq, true_and, and_true] at h
  exact h

/-- neither the heap nor a call -/
theorem act_pure {a : AOp Od} {v : Value} {H' : Heap} {nx' : Nat} (hk : kdOf a = .pure) (h : ∀ k, actT a P T L H nx k = k v H' nx') : H' = H ∧ nx' = nx ∧ ∀ H2 nx2 k, actT a P T L H2 nx2 k = k v H2 nx2 := by
  have key : ∀ H2 nx2 k, actT a P T L H2 nx2 k = lookT a P T L .e fun v => k v H2 nx2 := by
    cases a <;> first | (cases hk; done) | (intro _ _ _; rfl)
  have h1 := h ka0
  rw [key] at h1
  obtain ⟨x, g1, g2⟩ := lookT_det (P := P) (T := T) (L := L) (H := .e) a _ _ (h1.trans rfl)
  obtain ⟨rfl, rfl, rfl⟩ := ka0_inj (g1.trans rfl)
  exact ⟨rfl, rfl, fun H2 nx2 k => (key H2 nx2 k).trans (g2 _)⟩

theorem act_load {a : AOp Od} {v : Value} {H' : Heap} {nx' : Nat} (hk : kdOf a = .load) (h : ∀ k, actT a P T L H nx k = k v H' nx') : H' = H ∧ nx' = nx ∧ (∀ k, lookT a P T L H k = k v) ∧ ∀ H2 nx2 k, actT a P T L H2 nx2 k = lookT a P T L H2 fun v => k v H2 nx2 := by
  have key : ∀ H2 nx2 k, actT a P T L H2 nx2 k = lookT a P T L H2 fun v => k v H2 nx2 := by
    cases a <;> first | (cases hk; done) | (intro _ _ _; rfl)
  have h1 := h ka0
  rw [key] at h1
  obtain ⟨x, g1, g2⟩ := lookT_det (P := P) (T := T) (L := L) (H := H) a _ _ (h1.trans rfl)
  obtain ⟨rfl, rfl, rfl⟩ := ka0_inj (g1.trans rfl)
  exact ⟨rfl, rfl, g2, key⟩

/-- a make: 'F' is all that it takes of its operands -/
theorem make_split {a : AOp Od} (hk : kdOf a = .make) : ∃ F : (Value → Blk → R0) → R0, DetP (fun _ => True) (fun k : Value × Blk → R0 => F fun v b => k (v, b)) ∧ ∀ H k, actT a P T L H nx k = F fun v b => k v (insP (at_ nx) H (some b)) (nx + 1) := by
  cases a with
  | box x =>
    exact ⟨fun k => evK T L x fun v => k (ptrTo nx) (.cells (cellsOf v)), .ev fun _ => .ret _ trivial, fun H k => by
      show evK T L x (fun v => setP _ _ _ _) = _
      simp only [setP_eq]⟩
  | alc zero => exact ⟨fun k => k (ptrTo nx) (.cells zero), .ret _ trivial, fun H k => setP_eq _ _ _ _⟩
  | mks z bytes zero l c =>
    refine ⟨fun k => evK T L l fun l => onNat l fun l => evK T L c fun c => onNat c fun c => cond (and (Nat.ble l c) (and (Nat.ble (Nat.mul c bytes) small) (and (Nat.ble c small) (Nat.blt 0 z)))) (k (slTo nx z l (Nat.succ (Nat.mul 2 c))) (.cells (repeatN zero c))) none,
      .ev fun _ => .nat fun _ => .ev fun _ => .nat fun _ => .cond (.ret _ trivial) .no, fun H k => ?_⟩
    show evK T L l (fun l => onNat l fun l => evK T L c fun c => onNat c fun c => cond _ (setP _ _ _ _) none) = _
    simp only [setP_eq]
  | bsl z len zero parts =>
    refine ⟨fun k => partsK T L parts fun ps => bd (fillIn (repeatN zero len) ps) fun cs => cond (Nat.blt 0 z) (k (slTo nx z len (Nat.succ (Nat.mul 2 len))) (.cells cs)) none,
      .parts fun _ => .bd fun _ => .cond (.ret _ trivial) .no, fun H k => ?_⟩
    show partsK T L parts (fun ps => bd _ fun cs => cond _ (setP _ _ _ _) none) = _
    simp only [setP_eq]
  | mkm r =>
    refine ⟨fun k => optK T L r 0 fun _ => k (.map (some nx)) (.map [] 0), .opt (d := 0) (F := fun _ k => k (Value.map (some nx), Blk.map [] 0)) fun _ => .ret _ trivial, fun H k => ?_⟩
    show optK T L r 0 (fun _ => setP _ _ _ _) = _
    simp only [setP_eq]
  | _ => cases hk

theorem act_make {a : AOp Od} {v : Value} {H' : Heap} {nx' : Nat} (hk : kdOf a = .make) (h : ∀ k, actT a P T L H nx k = k v H' nx') :
    ∃ blk, H' = insP (at_ nx) H (some blk) ∧ nx' = nx + 1 ∧ ∀ H2 k, actT a P T L H2 nx k = k v (insP (at_ nx) H2 (some blk)) (nx + 1) := by
  obtain ⟨F, hF, key⟩ := make_split (P := P) (T := T) (L := L) (nx := nx) hk
  have h1 := h ka0
  rw [key] at h1
  obtain ⟨x, g1, g2⟩ := hF.det (fun x => ka0 x.1 (insP (at_ nx) H (some x.2)) (nx + 1)) _ (h1.trans rfl)
  obtain ⟨e1, e2, e3⟩ := ka0_inj (g1.trans rfl)
  refine ⟨x.2, e2.symm, e3.symm, fun H2 k => ?_⟩
  rw [key]
  exact (g2 fun x => k x.1 (insP (at_ nx) H2 (some x.2)) (nx + 1)).trans (by rw [e1])

/-- what a load reads -/
def blkOf : Value → Option Nat
  | .pointer (some a) => some a.block
  | .map (some r) => some r
  | _ => none
def loadArg {α : Type} : AOp α → Option α
  | .lod x _ => some x
  | .mln x => some x
  | .lku x _ _ _ _ => some x
  | _ => none

theorem look_load {a : AOp Operand} {f : Operand → Value} {H2 : Heap} (hk : kdOf a = .load) (hs : ∀ x b, loadArg a = some x → blkOf (f x) = some b → getP H2 (at_ b) = getP H (at_ b)) (k : KV) :
    lookT (a.map (Av f)) P T L H2 k = lookT (a.map (Av f)) P T L H k := by
  cases a with
  | lod x agg =>
    have := hs x
    show onPtr (f x) (fun b o => cellsR H2 b _) = onPtr (f x) (fun b o => cellsR H b _)
    unfold onPtr
    split
    · rename_i b o e
      have := hs x b rfl (by rw [e]; rfl)
      show onRead (getP H2 (at_ b)) _ = onRead (getP H (at_ b)) _
      rw [this]
    · rfl
  | mln x =>
    show mlnV H2 (f x) k = mlnV H (f x) k
    unfold mlnV
    split
    · rfl
    · rename_i r e
      rw [hs x r rfl (by rw [e]; rfl)]
    · rfl
  | lku x key kt zero ok =>
    show lkuV P kt zero ok H2 (f key) k (f x) = lkuV P kt zero ok H (f key) k (f x)
    unfold lkuV
    split
    · rfl
    · rename_i r e
      rw [hs x r rfl (by rw [e]; rfl)]
    · rfl
  | _ => cases hk

/-- what stands in a load's other operand -/
theorem load_all {a : AOp Operand} {f : Operand → Value} {v : Value} {p : Operand → Prop} (hk : kdOf a = .load) (h : ∀ k, lookT (a.map (Av f)) P T L H k = k v) (hx : ∀ x, loadArg a = some x → p x) (hf : ∀ x, flat (f x) = true → p x) : a.all p := by
  cases a with
  | lod x agg => exact hx x rfl
  | mln x => exact hx x rfl
  | lku x key kt zero ok =>
    refine ⟨hx x rfl, hf key ?_⟩
    have h1 : lkuV P kt zero ok H (f key) kv0 (f x) = kv0 v := h kv0
    unfold lkuV at h1
    split at h1
    · cases hb : flat (f key) with
      | true => rfl
      | false => rw [hb] at h1; cases h1
    · unfold onMapB at h1
      rename_i r e
      cases hg : getP H (at_ r) with
      | none => rw [hg] at h1; cases h1
      | some b =>
        rw [hg] at h1
        cases b with
        | cells cs => cases h1
        | ro cs => cases h1
        | map es c =>
          have h2 : bd (findAt P es.isEmpty kt (f key) es) (lkuE es zero ok kv0) = kv0 v := h1
          obtain ⟨i, hi, _⟩ := bd_eq (h2.trans rfl)
          unfold findAt at hi
          have := (bif_both hi).1
          simp only [Bool.and_eq_true] at this
          exact this.1
    · cases h1
  | _ => cases hk

theorem veq1_sound {u v : Value} (h : veq1 u v = true) : u = v := by
  unfold veq1 at h
  split at h
  · rename_i a b; cases a <;> cases b <;> first | rfl | cases h
  · simp at h; rw [h.1, h.2]
  · rfl
  · simp at h; rw [h]
  · simp at h; rw [h.1, h.2]
  · simp at h; obtain ⟨⟨h1, h2⟩, h3⟩ := h; rw [h1, h2, h3]
  · rfl
  · rw [Nat.eq_of_beq_eq_true h]
  · cases h

theorem veqs_sound : ∀ {u v : List Value}, veqs u v = true → u = v := by
  intro u
  induction u with
  | nil => intro v h; cases v <;> first | rfl | cases h
  | cons a u ih =>
    intro v h
    cases v with
    | nil => cases h
    | cons b v =>
      have h' : (veq1 a b && veqs u v) = true := h
      rw [Bool.and_eq_true] at h'
      rw [veq1_sound h'.1, ih h'.2]

theorem veq_sound {u v : Value} (h : veq u v = true) : u = v := by
  unfold veq at h
  split at h
  · have := veqs_sound h
    rename_i a b
    cases a; cases b
    simp at this
    rw [this]
  · exact veq1_sound h
end Go.Eng
/- The engine: regions whose order is drawn: what has been done so far, in any order. -/
namespace Go.Eng

structure Cx where
  P : Program
  A : AProg
  rn : Run
  ins : List Nat
  kept : List Nat
  n : Nat
  ops : List Oper
  bef : List Nat
  σ0 : Sig
  D0 : List Dfd
  H0 : Heap
  nx0 : Nat

abbrev Cx.Ok (X : Cx) : List Rec → Rec → Prop := RecOk X.P X.A X.rn X.ins X.kept X.n X.ops X.bef
abbrev Cx.Ch (X : Cx) : List Rec → Prop := Chain X.P X.A X.rn X.ins X.kept X.n X.ops X.bef X.σ0 X.D0 X.H0 X.nx0
abbrev Cx.At (X : Cx) : List Rec → Sig → List Dfd → Heap → Nat → Prop := Eng.At X.σ0 X.D0 X.H0 X.nx0

def Rec.hv (q : Rec) : Prop := isHeavy (kdOf q.a) = true
def Rec.mk' (q : Rec) : Prop := isMake (kdOf q.a) = true
def Rec.ld (q : Rec) : Prop := isLoad (kdOf q.a) = true

variable {X : Cx} {S : Nat → Prop}

theorem chain_split : ∀ {R : List Rec} {q : Rec}, X.Ch R → q ∈ R → ∃ post pre, R = post ++ q :: pre ∧ X.Ok pre q ∧ X.At pre q.σ q.D q.H q.nx ∧ X.Ch pre := by
  intro R
  induction R with
  | nil => intro q _ hq; simp at hq
  | cons r R ih =>
    intro q h hq
    obtain ⟨h1, h2, h3⟩ := h
    rcases List.mem_cons.1 hq with rfl | hq
    · exact ⟨[], R, rfl, h1, h2, h3⟩
    · obtain ⟨post, pre, e, k1, k2, k3⟩ := ih h3 hq
      exact ⟨r :: post, pre, by rw [e]; rfl, k1, k2, k3⟩

theorem chain_tail : ∀ {post pre : List Rec}, X.Ch (post ++ pre) → X.Ch pre := by
  intro post
  induction post with
  | nil => intro pre h; exact h
  | cons q post ih => intro pre h; exact ih h.2.2

theorem chain_post : ∀ {post pre : List Rec} {r : Rec}, X.Ch (post ++ r :: pre) → ∀ q ∈ post, ∃ pq, X.Ok pq q ∧ r ∈ pq ∧ (∀ p ∈ pre, p ∈ pq) ∧ X.At pq q.σ q.D q.H q.nx ∧ X.Ch pq := by
  intro post
  induction post with
  | nil => intro pre r _ q hq; simp at hq
  | cons p post ih =>
    intro pre r h q hq
    rcases List.mem_cons.1 hq with rfl | hq
    · exact ⟨post ++ r :: pre, h.1, by simp, fun p hp => by simp [hp], h.2.1, h.2.2⟩
    · exact ih h.2.2 q hq

theorem chain_uniq : ∀ {R : List Rec}, X.Ch R → ∀ q ∈ R, ∀ q' ∈ R, q.i = q'.i → q = q' := by
  intro R
  induction R with
  | nil => intro _ q hq; simp at hq
  | cons r R ih =>
    intro h q hq q' hq' e
    rcases List.mem_cons.1 hq with e1 | hq1
    · rcases List.mem_cons.1 hq' with e2 | hq2
      · rw [e1, e2]
      · rw [e1] at e; exact absurd e.symm (h.1.new q' hq2)
    · rcases List.mem_cons.1 hq' with e2 | hq2
      · rw [e2] at e; exact absurd e (h.1.new q hq1)
      · exact ih h.2.2 q hq1 q' hq2 e

theorem step_up {A : AProg} {rn : Run} {o : Oper} {b : AOp Od} {g : Option (Nat × Bool)} {T : Tr Value} {L : List Value} {D : List Dfd} {H : Heap} {nx : Nat} {v : Value} {D' : List Dfd} {H' : Heap} {nx' : Nat} (hu : UpRun rn) (h : Step A rn o b g T L D H nx v D' H' nx') : nx ≤ nx' := by
  cases h with
  | alias => exact Nat.le_refl _
  | over => exact Nat.le_refl _
  | did hw _ _ _ _ h _ => exact opT_up' hu h

theorem rec_up (hu : UpRun X.rn) {pre : List Rec} {r : Rec} (h : X.Ok pre r) : r.nx ≤ r.nx' := by
  obtain ⟨env, T, L, b, g, _, _, _, _, hs⟩ := h.step
  exact step_up hu hs

theorem chain_le (hu : UpRun X.rn) : ∀ {pre : List Rec} {σ : Sig} {D : List Dfd} {H : Heap} {nx : Nat}, X.Ch pre → X.At pre σ D H nx → X.nx0 ≤ nx ∧ ∀ q ∈ pre, q.nx' ≤ nx ∧ X.nx0 ≤ q.nx := by
  intro pre
  induction pre with
  | nil => intro σ D H nx _ h; exact ⟨Nat.le_of_eq h.2.2.2.symm, fun q hq => by simp at hq⟩
  | cons r pre ih =>
    intro σ D H nx hc h
    obtain ⟨h1, h2, h3⟩ := hc
    obtain ⟨k1, k2⟩ := ih h3 h2
    have h4 := rec_up hu h1
    have h5 : nx = r.nx' := h.2.2.2
    refine ⟨by omega, fun q hq => ?_⟩
    rcases List.mem_cons.1 hq with rfl | hq
    · exact ⟨Nat.le_of_eq h5.symm, k1⟩
    · have := k2 q hq
      omega

/-- what a slot holds -/
theorem sigma_at : ∀ {pre : List Rec} {σ : Sig} {D : List Dfd} {H : Heap} {nx : Nat}, X.Ch pre → X.At pre σ D H nx → ∀ t, (∃ q ∈ pre, q.o.dst = some t ∧ σ t = q.v) ∨ ((∀ q ∈ pre, q.o.dst ≠ some t) ∧ σ t = X.σ0 t) := by
  intro pre
  induction pre with
  | nil => intro σ D H nx _ h t; exact .inr ⟨fun q hq => by simp at hq, by rw [h.1]⟩
  | cons r pre ih =>
    intro σ D H nx hc h t
    obtain ⟨h1, h2, h3⟩ := hc
    have hσ : σ = r.σ.set r.o.dst r.v := h.1
    by_cases hd : r.o.dst = some t
    · refine .inl ⟨r, List.mem_cons_self, hd, ?_⟩
      rw [hσ, hd]
      show (if t = t then r.v else r.σ t) = r.v
      rw [if_pos rfl]
    · have hσt : σ t = r.σ t := by
        rw [hσ]
        cases hdd : r.o.dst with
        | none => rfl
        | some d =>
          show (if t = d then r.v else r.σ t) = r.σ t
          rw [if_neg (fun e => hd (by rw [hdd, e]))]
      rcases ih h3 h2 t with ⟨q, hq, e1, e2⟩ | ⟨e1, e2⟩
      · exact .inl ⟨q, List.mem_cons_of_mem _ hq, e1, hσt.trans e2⟩
      · refine .inr ⟨fun q hq => ?_, hσt.trans e2⟩
        rcases List.mem_cons.1 hq with rfl | hq
        · exact hd
        · exact e1 q hq

/-! ### the blocks that lie there -/
def Blocks (S : Nat → Prop) (H0 : Heap) : List Rec → Nat → Blk → Prop
  | [], b, k => getP H0 (at_ b) = some k
  | q :: R, b, k => (S q.i ∧ q.hv ∧ getP q.H' (at_ b) = some k) ∨ (S q.i ∧ q.mk' ∧ q.nx < q.nx' ∧ b = q.nx ∧ getP q.H' (at_ b) = some k) ∨ (¬(S q.i ∧ q.hv) ∧ Blocks S H0 R b k)

def Dat (S : Nat → Prop) (D0 : List Dfd) : List Rec → List Dfd → Prop
  | [], D => D = D0
  | q :: R, D => (S q.i ∧ q.hv ∧ D = q.D') ∨ (¬(S q.i ∧ q.hv) ∧ Dat S D0 R D)

theorem blocks_skip {H0 : Heap} {pre : List Rec} {b : Nat} {k : Blk} : ∀ {post : List Rec}, (∀ q ∈ post, ¬(S q.i ∧ q.hv)) → Blocks S H0 pre b k → Blocks S H0 (post ++ pre) b k := by
  intro post
  induction post with
  | nil => intro _ h; exact h
  | cons q post ih => intro hp h; exact .inr (.inr ⟨hp q List.mem_cons_self, ih (fun p hq => hp p (List.mem_cons_of_mem _ hq)) h⟩)

theorem blocks_make {H0 : Heap} {pre : List Rec} {b : Nat} {k : Blk} {m : Rec} : ∀ {post : List Rec}, (∀ q ∈ post, ¬(S q.i ∧ q.hv)) → m ∈ post → S m.i → m.mk' → m.nx < m.nx' → b = m.nx → getP m.H' (at_ b) = some k → Blocks S H0 (post ++ pre) b k := by
  intro post
  induction post with
  | nil => intro _ hm; simp at hm
  | cons q post ih =>
    intro hp hm h1 h2 h3 h4 h5
    rcases List.mem_cons.1 hm with rfl | hm
    · exact .inr (.inl ⟨h1, h2, h3, h4, h5⟩)
    · exact .inr (.inr ⟨hp q List.mem_cons_self, ih (fun p hq => hp p (List.mem_cons_of_mem _ hq)) hm h1 h2 h3 h4 h5⟩)

theorem blocks_inv {H0 : Heap} {pre : List Rec} {b : Nat} {k : Blk} : ∀ {post : List Rec}, (∀ q ∈ post, ¬(S q.i ∧ q.hv)) → Blocks S H0 (post ++ pre) b k →
    Blocks S H0 pre b k ∨ ∃ m ∈ post, S m.i ∧ m.mk' ∧ m.nx < m.nx' ∧ b = m.nx ∧ getP m.H' (at_ b) = some k := by
  intro post
  induction post with
  | nil => intro _ h; exact .inl h
  | cons q post ih =>
    intro hp h
    rcases h with ⟨h1, h2, _⟩ | ⟨h1, h2, h3, h4, h5⟩ | ⟨_, h⟩
    · exact absurd ⟨h1, h2⟩ (hp q List.mem_cons_self)
    · exact .inr ⟨q, List.mem_cons_self, h1, h2, h3, h4, h5⟩
    · rcases ih (fun p hq => hp p (List.mem_cons_of_mem _ hq)) h with h | ⟨m, hm, g⟩
      · exact .inl h
      · exact .inr ⟨m, List.mem_cons_of_mem _ hm, g⟩

/-- one operation more, that neither makes nor is heavy -/
theorem blocks_quiet {H0 : Heap} {S' : Nat → Prop} {b : Nat} {k : Blk} : ∀ {R : List Rec}, (∀ q ∈ R, (q.hv ∨ q.mk' ∧ q.nx < q.nx') → (S' q.i ↔ S q.i)) → Blocks S' H0 R b k → Blocks S H0 R b k := by
  intro R
  induction R with
  | nil => intro _ h; exact h
  | cons q R ih =>
    intro hp h
    have hq := hp q List.mem_cons_self
    rcases h with ⟨h1, h2, h3⟩ | ⟨h1, h2, h3, h4, h5⟩ | ⟨h1, h⟩
    · exact .inl ⟨(hq (.inl h2)).1 h1, h2, h3⟩
    · exact .inr (.inl ⟨(hq (.inr ⟨h2, h3⟩)).1 h1, h2, h3, h4, h5⟩)
    · refine .inr (.inr ⟨fun ⟨g1, g2⟩ => h1 ⟨(hq (.inl g2)).2 g1, g2⟩, ih (fun p hm => hp p (List.mem_cons_of_mem _ hm)) h⟩)

/-- one make more -/
theorem blocks_more {H0 : Heap} {S' : Nat → Prop} {b : Nat} {k : Blk} {r : Rec} (hr : r.mk') (hs : ∀ i, S' i ↔ S i ∨ i = r.i) : ∀ {R : List Rec}, (∀ q ∈ R, q.i = r.i → q = r) → Blocks S' H0 R b k →
    Blocks S H0 R b k ∨ (r.nx < r.nx' ∧ b = r.nx ∧ getP r.H' (at_ b) = some k) := by
  have hnh : ¬ r.hv := by
    intro hh
    unfold Rec.hv at hh
    unfold Rec.mk' at hr
    cases hk : kdOf r.a <;> rw [hk] at hh hr <;> simp [isHeavy, isMake] at hh hr
  intro R
  induction R with
  | nil => intro _ h; exact .inl h
  | cons q R ih =>
    intro hu h
    have hq : ∀ _ : q.hv, (S' q.i ↔ S q.i) := by
      intro hv
      rw [hs]
      refine ⟨fun h => h.elim id fun e => ?_, .inl⟩
      have := hu q List.mem_cons_self e
      subst this
      exact absurd hv hnh
    rcases h with ⟨h1, h2, h3⟩ | ⟨h1, h2, h3, h4, h5⟩ | ⟨h1, h⟩
    · exact .inl (.inl ⟨(hq h2).1 h1, h2, h3⟩)
    · rcases (hs q.i).1 h1 with h1 | e
      · exact .inl (.inr (.inl ⟨h1, h2, h3, h4, h5⟩))
      · have := hu q List.mem_cons_self e
        subst this
        exact .inr ⟨h3, h4, h5⟩
    · rcases ih (fun p hm => hu p (List.mem_cons_of_mem _ hm)) h with h | h
      · exact .inl (.inr (.inr ⟨fun ⟨g1, g2⟩ => h1 ⟨(hq g2).2 g1, g2⟩, h⟩))
      · exact .inr h

theorem dat_skip {D0 : List Dfd} {pre : List Rec} {D : List Dfd} : ∀ {post : List Rec}, (∀ q ∈ post, ¬(S q.i ∧ q.hv)) → (Dat S D0 (post ++ pre) D ↔ Dat S D0 pre D) := by
  intro post
  induction post with
  | nil => intro _; exact Iff.rfl
  | cons q post ih =>
    intro hp
    have h1 := ih fun p hq => hp p (List.mem_cons_of_mem _ hq)
    have h2 := hp q List.mem_cons_self
    constructor
    · rintro (⟨g1, g2, _⟩ | ⟨_, g⟩)
      · exact absurd ⟨g1, g2⟩ h2
      · exact h1.1 g
    · intro h
      exact .inr ⟨h2, h1.2 h⟩

theorem dat_quiet {D0 : List Dfd} {S' : Nat → Prop} {D : List Dfd} : ∀ {R : List Rec}, (∀ q ∈ R, q.hv → (S' q.i ↔ S q.i)) → Dat S D0 R D → Dat S' D0 R D := by
  intro R
  induction R with
  | nil => intro _ h; exact h
  | cons q R ih =>
    intro hp h
    have hq := hp q List.mem_cons_self
    rcases h with ⟨h1, h2, h3⟩ | ⟨h1, h⟩
    · exact .inl ⟨(hq h2).2 h1, h2, h3⟩
    · exact .inr ⟨fun ⟨g1, g2⟩ => h1 ⟨(hq g2).1 g1, g2⟩, ih (fun p hm => hp p (List.mem_cons_of_mem _ hm)) h⟩
theorem dat_uniq {D0 : List Dfd} {D D' : List Dfd} : ∀ {R : List Rec}, Dat S D0 R D → Dat S D0 R D' → D = D' := by
  intro R
  induction R with
  | nil => intro h h'; exact h.trans h'.symm
  | cons q R ih =>
    intro h h'
    rcases h with ⟨h1, h2, h3⟩ | ⟨h1, h⟩
    · rcases h' with ⟨_, _, h3'⟩ | ⟨h1', _⟩
      · exact h3.trans h3'.symm
      · exact absurd ⟨h1, h2⟩ h1'
    · rcases h' with ⟨g1, g2, _⟩ | ⟨_, h'⟩
      · exact absurd ⟨g1, g2⟩ h1
      · exact ih h h'
end Go.Eng
/- The engine: regions whose order is drawn: the blocks, as they were written down. -/
namespace Go.Eng
variable {X : Cx} {S : Nat → Prop} {A : AProg} {rn : Run} {T : Tr Value} {L : List Value} {D : List Dfd} {H : Heap} {nx : Nat}

theorem plain_of_kd {α : Type} {a : AOp α} (h : ¬ isHeavy (kdOf a) = true) : a.plain = true := by
  cases a <;> first | rfl | (exact absurd rfl h)

theorem did_act {b : AOp Od} {v : Value} {D' : List Dfd} {H' : Heap} {nx' : Nat} (hp : b.plain = true) (h : ∀ p ag k, opT b A rn p ag k b T L D H nx = contO A.P p ag k T L D' v H' nx') : ∀ k, actT b A.P T L H nx k = k v H' nx' := by
  have h1 := h none [] krec
  rw [opT_plain hp] at h1
  obtain ⟨r0, hr0⟩ : ∃ r0, contO A.P none [] krec T L D' v H' nx' = some r0 := ⟨_, contO_nil.trans rfl⟩
  have h2 : actT b A.P T L H nx (uk fun x => contO A.P none [] krec T L D x.1 x.2.1 x.2.2) = some r0 := h1.trans hr0
  obtain ⟨x, g1, g2⟩ := actT_det b _ _ h2
  obtain ⟨e1, _, e2, e3⟩ := krec_inj (g1.trans hr0.symm)
  intro k
  rw [← e1, ← e2, ← e3]
  exact g2 fun x => k x.1 x.2.1 x.2.2

theorem rec_make {pre : List Rec} {r : Rec} (h : X.Ok pre r) (hm : r.mk') (hlt : r.nx < r.nx') : ∃ blk, r.H' = insP (at_ r.nx) r.H (some blk) ∧ r.nx' = r.nx + 1 := by
  obtain ⟨env, T, L, b, g, ht, _, _, _, hs⟩ := h.step
  have hk : kdOf b = .make := by
    have h1 : isMake (kdOf r.a) = true := hm
    rw [kdOf_trav (.loc 0) ht]
    cases hk : kdOf r.a <;> rw [hk] at h1 <;> first | rfl | simp [isMake] at h1
  generalize r.v = v at hs
  generalize r.D' = D' at hs
  generalize hH : r.H' = H' at hs
  generalize hn : r.nx' = nx' at hs hlt
  cases hs with
  | alias => omega
  | over => omega
  | did hw _ _ _ _ hd _ =>
    obtain ⟨blk, e1, e2, _⟩ := act_make hk (did_act (plain_of_kd (by rw [hk]; simp [isHeavy])) hd)
    exact ⟨blk, e1, e2⟩

theorem rec_same {pre : List Rec} {r : Rec} (h : X.Ok pre r) (hh : ¬ r.hv) : r.D' = r.D ∧ (¬(r.mk' ∧ r.nx < r.nx') → r.H' = r.H ∧ r.nx' = r.nx) := by
  obtain ⟨env, T, L, b, g, ht, _, _, _, hs⟩ := h.step
  have hkb : kdOf b = kdOf r.a := kdOf_trav (.loc 0) ht
  unfold Rec.hv at hh
  unfold Rec.mk'
  generalize r.v = v at hs
  generalize hD : r.D' = D' at hs
  generalize hH : r.H' = H' at hs
  generalize hn : r.nx' = nx' at hs
  cases hs with
  | alias => exact ⟨rfl, fun _ => ⟨rfl, rfl⟩⟩
  | over => exact ⟨rfl, fun _ => ⟨rfl, rfl⟩⟩
  | did hw _ _ _ _ hd hD =>
    have hp : b.plain = true := plain_of_kd (by rw [hkb]; exact hh)
    have hact := did_act hp hd
    refine ⟨hD hp, fun hn => ?_⟩
    cases hk : kdOf r.a with
    | pure =>
      obtain ⟨e1, e2, _⟩ := act_pure (hkb.trans hk) hact
      exact ⟨e1, e2⟩
    | load =>
      obtain ⟨e1, e2, _⟩ := act_load (hkb.trans hk) hact
      exact ⟨e1, e2⟩
    | make =>
      obtain ⟨blk, e1, e2, _⟩ := act_make (hkb.trans hk) hact
      exfalso
      apply hn
      rw [hk]
      exact ⟨rfl, by omega⟩
    | heavy => rw [hk] at hh; exact absurd rfl hh

/-- what the engine's heap holds is there -/
theorem heap_blocks : ∀ {pre : List Rec} {σ : Sig} {D : List Dfd} {H : Heap} {nx : Nat}, X.Ch pre → X.At pre σ D H nx → ∀ {b : Nat} {k : Blk}, (∀ q ∈ pre, q.hv → S q.i) → (∀ q ∈ pre, q.mk' → q.nx < q.nx' → q.nx = b → S q.i) →
    getP H (at_ b) = some k → Blocks S X.H0 pre b k := by
  intro pre
  induction pre with
  | nil => intro σ D H nx _ h b k _ _ hb; rw [h.2.2.1] at hb; exact hb
  | cons r pre ih =>
    intro σ D H nx hc h b k hh hm hb
    obtain ⟨h1, h2, h3⟩ := hc
    have hH : H = r.H' := h.2.2.1
    rw [hH] at hb
    have ih' := fun hb => ih h3 h2 (b := b) (k := k) (fun q hq => hh q (List.mem_cons_of_mem _ hq)) (fun q hq => hm q (List.mem_cons_of_mem _ hq)) hb
    by_cases hhv : r.hv
    · exact .inl ⟨hh r List.mem_cons_self hhv, hhv, hb⟩
    · by_cases hmk : r.mk' ∧ r.nx < r.nx'
      · obtain ⟨blk, e1, e2⟩ := rec_make h1 hmk.1 hmk.2
        by_cases e : b = r.nx
        · exact .inr (.inl ⟨hm r List.mem_cons_self hmk.1 hmk.2 e.symm, hmk.1, hmk.2, e, hb⟩)
        · refine .inr (.inr ⟨fun g => hhv g.2, ih' ?_⟩)
          rw [e1, getP_insP_ne _ _ _ _ (fun e' => e (at_inj e'))] at hb
          exact hb
      · refine .inr (.inr ⟨fun g => hhv g.2, ih' ?_⟩)
        rw [((rec_same h1 hhv).2 hmk).1] at hb
        exact hb

theorem dat_at : ∀ {pre : List Rec} {σ : Sig} {D : List Dfd} {H : Heap} {nx : Nat}, X.Ch pre → X.At pre σ D H nx → (∀ q ∈ pre, q.hv → S q.i) → Dat S X.D0 pre D := by
  intro pre
  induction pre with
  | nil => intro σ D H nx _ h _; exact h.2.1
  | cons r pre ih =>
    intro σ D H nx hc h hh
    obtain ⟨h1, h2, h3⟩ := hc
    have hD : D = r.D' := h.2.1
    by_cases hhv : r.hv
    · exact .inl ⟨hh r List.mem_cons_self hhv, hhv, hD⟩
    · refine .inr ⟨fun g => hhv g.2, ?_⟩
      rw [hD, (rec_same h1 hhv).1]
      exact ih h3 h2 fun q hq => hh q (List.mem_cons_of_mem _ hq)

/-- what holds when the operations of 'S' have been done -/
structure SInv (X : Cx) (R : List Rec) (ρ0 : Rho) (w0 : World) (S : Nat → Prop) (ρ : Rho) (c : Act) (w : World) : Prop where
  dom : ∀ b r, ρ b = some r → b < X.nx0 ∨ ∃ q ∈ R, S q.i ∧ q.nx ≤ b ∧ b < q.nx'
  size : X.n ≤ c.tmps.size
  val : ∀ q ∈ R, S q.i → ∀ t, q.o.dst = some t → VR ρ q.v (c.tmps.getD t undef)
  vlow : ∀ q ∈ R, S q.i → VLow q.nx' q.v
  kep : ∀ t, isIn X.kept t = true → (∀ q ∈ R, S q.i → q.o.dst ≠ some t) → VR ρ (X.σ0 t) (c.tmps.getD t undef)
  blk : ∀ b k, Blocks S X.H0 R b k → ∃ r, ρ b = some r ∧ BR ρ w.heap r k
  inj : ∀ b b' k k' r r', Blocks S X.H0 R b k → Blocks S X.H0 R b' k' → k.mine = true → ρ b = some r → ρ b' = some r' → r.blk = r'.blk → b = b'
  hlow : ∀ q ∈ R, S q.i → q.hv → ∀ b k, getP q.H' (at_ b) = some k → BLow q.nx' b k
  mlow : ∀ q ∈ R, S q.i → q.mk' → q.nx < q.nx' → ∀ k, getP q.H' (at_ q.nx) = some k → BLow q.nx' q.nx k
  dfr : ∃ D, Dat S X.D0 R D ∧ DfRs ρ D c.defers
  dlow : ∀ q ∈ R, S q.i → q.hv → DLow q.nx' q.D'
  ext : Ext ρ0 ρ
  low : ∀ b, b < X.nx0 → ρ b = ρ0 b
  own : ∀ b k r, Blocks S X.H0 R b k → k.mine = true → ρ b = some r → Own ρ0 X.H0 r.blk ∨ w0.heap.size ≤ r.blk
  ro : ∀ b k, Blocks S X.H0 R b k → k.mine = false → getP X.H0 (at_ b) = some k
  frame : ∀ k, k < w0.heap.size → ¬ Own ρ0 X.H0 k → w.heap[k]? = w0.heap[k]?
  wsize : w0.heap.size ≤ w.heap.size
  os : w.os = w0.os
  tape : w.tape = w0.tape
  output : w.output = w0.output

/-- how it began -/
structure Start (X : Cx) (ρ0 : Rho) (w0 : World) : Prop where
  hr : HR ρ0 X.H0 X.nx0 w0.heap
  klow : ∀ t, isIn X.kept t = true → VLow X.nx0 (X.σ0 t)
  dlow : DLow X.nx0 X.D0
  up : UpRun X.rn
  eq : X.A.P = X.P

theorem blocks_low {R : List Rec} {ρ0 ρ : Rho} {w0 w : World} {c : Act} (hst : Start X ρ0 w0) (inv : SInv X R ρ0 w0 S ρ c w) {b : Nat} {k : Blk} {m : Nat} : ∀ {pre : List Rec}, (∀ q ∈ pre, q ∈ R) → X.nx0 ≤ m → (∀ q ∈ pre, q.nx' ≤ m) → Blocks S X.H0 pre b k → BLow m b k := by
  intro pre
  induction pre with
  | nil => intro _ h0 _ h; exact (hst.hr.blow h).mono h0
  | cons q pre ih =>
    intro hR h0 hm h
    rcases h with ⟨h1, h2, h3⟩ | ⟨h1, h2, h3, h4, h5⟩ | ⟨_, h⟩
    · exact (inv.hlow q (hR q List.mem_cons_self) h1 h2 b k h3).mono (hm q List.mem_cons_self)
    · subst h4
      exact (inv.mlow q (hR q List.mem_cons_self) h1 h2 h3 k h5).mono (hm q List.mem_cons_self)
    · exact ih (fun p hp => hR p (List.mem_cons_of_mem _ hp)) h0 (fun p hp => hm p (List.mem_cons_of_mem _ hp)) h
end Go.Eng
/- The engine: regions whose order is drawn: what an operation reads. -/
namespace Go.Eng

theorem travL_congr {α β : Type} {c c' : α → Option β} : ∀ {l : List α}, (∀ x ∈ l, c x = c' x) → travL c l = travL c' l := by
  intro l
  induction l with
  | nil => intro _; rfl
  | cons x l ih =>
    intro h
    unfold travL
    rw [h x List.mem_cons_self, ih fun y hy => h y (List.mem_cons_of_mem _ hy)]
theorem travP_congr {α β : Type} {c c' : α → Option β} : ∀ {l : List (Nat × Nat × α)}, (∀ x ∈ l, c x.2.2 = c' x.2.2) → travP c l = travP c' l := by
  intro l
  induction l with
  | nil => intro _; rfl
  | cons x l ih =>
    obtain ⟨i, j, x⟩ := x
    intro h
    unfold travP
    have := h (i, j, x) List.mem_cons_self
    simp only at this
    rw [this, ih fun y hy => h y (List.mem_cons_of_mem _ hy)]
theorem travO_congr {α β : Type} {c c' : α → Option β} {o : Option α} (h : ∀ x ∈ o, c x = c' x) : travO c o = travO c' o := by
  cases o with
  | none => rfl
  | some x => show (c x).map some = (c' x).map some; rw [h x rfl]

theorem trav_congr {α β : Type} {c c' : α → Option β} {a : AOp α} (h : a.all fun x => c x = c' x) : a.trav c = a.trav c' := by
  cases a <;> simp only [AOp.all] at h <;> simp only [AOp.trav] <;> first
    | rfl
    | rw [h]
    | rw [h.1, h.2]
    | rw [h.1, h.2.1, h.2.2]
    | rw [travL_congr h]
    | rw [travP_congr h]
    | rw [travO_congr h]
    | rw [h.1, travL_congr h.2]
    | rw [travL_congr h.1, travL_congr h.2]
    | rw [h.1, travO_congr h.2.1, travO_congr h.2.2]
    | rw [h.1, travO_congr h.2.1, travO_congr h.2.2.1, travO_congr h.2.2.2]

theorem isIn_mem {l : List Nat} {t : Nat} : isIn l t = true ↔ t ∈ l := by
  unfold isIn
  rw [List.any_eq_true]
  constructor
  · rintro ⟨x, hx, e⟩
    have := Nat.eq_of_beq_eq_true e
    subst this
    exact hx
  · intro h
    exact ⟨t, h, Nat.beq_refl t⟩

theorem isIn_filter {l : List Nat} {p : Nat → Bool} {t : Nat} (h : p t = true) : isIn (l.filter p) t = isIn l t := by
  have : isIn (l.filter p) t = true ↔ isIn l t = true := by rw [isIn_mem, isIn_mem, List.mem_filter]; simp [h]
  cases h1 : isIn (l.filter p) t <;> cases h2 : isIn l t <;> first | rfl | (rw [h1, h2] at this; simp at this)

theorem find_filter {p : Nat → Bool} {t : Nat} (h : p t = true) : ∀ {env : Env}, find (env.filter fun x => p x.1) t = find env t := by
  intro env
  induction env with
  | nil => rfl
  | cons y env ih =>
    obtain ⟨u, x⟩ := y
    rw [List.filter_cons]
    by_cases hu : p u = true
    · simp only [hu, if_true]
      show (bif Nat.beq u t then some x else find (env.filter fun x => p x.1) t) = (bif Nat.beq u t then some x else find env t)
      rw [ih]
    · simp only [hu, Bool.false_eq_true, if_false]
      rw [ih]
      show find env t = (bif Nat.beq u t then some x else find env t)
      cases hb : Nat.beq u t with
      | false => rfl
      | true =>
        have := Nat.eq_of_beq_eq_true hb
        subst this
        exact absurd h hu

theorem hyg_at {ops : List Oper} {bef : List Nat} {j t i : Nat} {o q : Oper} (h : hygienic ops bef j o = true) (ht : t ∈ tmpsOf o) (hq : ops[i]? = some q) (hd : q.dst = some t) : bit bef j i = true ∨ bit bef i j = true := by
  unfold hygienic at h
  have h1 := List.all_eq_true.1 h t ht
  have h2 := List.all_eq_true.1 h1 (q, i) (List.mem_zipIdx_iff_getElem?.2 hq)
  simp only [hd] at h2
  simp only [Nat.beq_refl, Bool.not_true, Bool.false_or, Bool.or_eq_true] at h2
  exact h2

theorem still_at {ops : List Oper} {bef : List Nat} {done j t i : Nat} {o q : Oper} (h : readsStill ops bef done j o = true) (ht : t ∈ tmpsOf o) (hq : ops[i]? = some q) (hd : q.dst = some t) : bit bef j i = true ∨ Nat.testBit done i = false := by
  unfold readsStill at h
  have h1 := List.all_eq_true.1 h t ht
  have h2 := List.all_eq_true.1 h1 (q, i) (List.mem_zipIdx_iff_getElem?.2 hq)
  simp only [hd] at h2
  simp only [Nat.beq_refl, Bool.not_true, Bool.false_or, Bool.or_eq_true, Bool.not_eq_true'] at h2
  exact h2

theorem one_at {ops : List Oper} {i j t : Nat} {o q : Oper} (h : oneDst ops = true) (ho : ops[i]? = some o) (hq : ops[j]? = some q) (hd : o.dst = some t) (hd' : q.dst = some t) : i = j := by
  unfold oneDst at h
  have h1 := List.all_eq_true.1 h (o, i) (List.mem_zipIdx_iff_getElem?.2 ho)
  have h2 := List.all_eq_true.1 h1 (q, j) (List.mem_zipIdx_iff_getElem?.2 hq)
  simp only [hd, hd'] at h2
  simp only [Nat.beq_refl, Bool.not_true, Bool.or_false] at h2
  exact Nat.eq_of_beq_eq_true h2

variable {X : Cx} {S : Nat → Prop} {R post pre : List Rec} {r : Rec} {ρ0 ρ : Rho} {w0 w : World} {c : Act}

/-- an operation that may be done next -/
structure Next (X : Cx) (R : List Rec) (S : Nat → Prop) (post pre : List Rec) (r : Rec) : Prop where
  eq : R = post ++ r :: pre
  ch : X.Ch R
  one : oneDst X.ops = true
  not : ¬ S r.i
  cl : ∀ q ∈ R, S q.i → ∀ j, bit X.bef q.i j = true → S j
  rd : ∀ j, bit X.bef r.i j = true → S j

theorem Next.mem (h : Next X R S post pre r) : r ∈ R := by rw [h.eq]; simp
theorem Next.sub (h : Next X R S post pre r) : ∀ q ∈ pre, q ∈ R := fun q hq => by rw [h.eq]; simp [hq]
theorem Next.subp (h : Next X R S post pre r) : ∀ q ∈ post, q ∈ R := fun q hq => by rw [h.eq]; simp [hq]
theorem Next.tail (h : Next X R S post pre r) : X.Ch (r :: pre) := by
  have := h.ch
  rw [h.eq] at this
  exact chain_tail this
theorem Next.ok (h : Next X R S post pre r) : X.Ok pre r := h.tail.1
theorem Next.at (h : Next X R S post pre r) : X.At pre r.σ r.D r.H r.nx := h.tail.2.1
theorem Next.chp (h : Next X R S post pre r) : X.Ch pre := h.tail.2.2

/-- a slot that is written ahead -/
theorem reads_pre (hst : Start X ρ0 w0) (inv : SInv X R ρ0 w0 S ρ c w) (h : Next X R S post pre r) {t : Nat} {q : Rec} (hq : q ∈ pre) (hd : q.o.dst = some t) (hS : S q.i) : VR ρ (r.σ t) (c.tmps.getD t undef) ∧ VLow r.nx (r.σ t) := by
  rcases sigma_at h.chp h.at t with ⟨q', hq', e1, e2⟩ | ⟨e1, _⟩
  · have hi : q'.i = q.i := by
      obtain ⟨_, _, _, k1, _⟩ := chain_split h.chp hq
      obtain ⟨_, _, _, k2, _⟩ := chain_split h.chp hq'
      exact one_at h.one k2.op k1.op e1 hd
    have := chain_uniq h.chp q' hq' q hq hi
    subst this
    rw [e2]
    exact ⟨inv.val q' (h.sub _ hq) hS t hd, (inv.vlow q' (h.sub _ hq) hS).mono ((chain_le hst.up h.chp h.at).2 q' hq).1⟩
  · exact absurd hd (e1 q hq)

theorem reads_tmp (hst : Start X ρ0 w0) (inv : SInv X R ρ0 w0 S ρ c w) (h : Next X R S post pre r) {t : Nat} (ht : t ∈ tmpsOf r.o) (hk : (∃ q ∈ pre, q.o.dst = some t) ∨ isIn X.kept t = true) : VR ρ (r.σ t) (c.tmps.getD t undef) ∧ VLow r.nx (r.σ t) := by
  by_cases hp : ∃ q ∈ pre, q.o.dst = some t
  · obtain ⟨q, hq, hd⟩ := hp
    obtain ⟨p1, p2, e, k1, _⟩ := chain_split h.chp hq
    rcases hyg_at h.ok.hyg ht k1.op hd with hb | hb
    · exact reads_pre hst inv h hq hd (h.rd _ hb)
    · obtain ⟨p, hp, hi⟩ := k1.befs _ hb
      exact absurd hi (h.ok.new p (by rw [e]; simp [hp]))
  · have hk' : isIn X.kept t = true := hk.resolve_left hp
    rcases sigma_at h.chp h.at t with ⟨q', hq', e1, _⟩ | ⟨_, e2⟩
    · exact absurd ⟨q', hq', e1⟩ hp
    · rw [e2]
      refine ⟨inv.kep t hk' fun q hq hS hd => ?_, (hst.klow t hk').mono (chain_le hst.up h.chp h.at).1⟩
      have hq' := hq
      rw [h.eq] at hq'
      rcases List.mem_append.1 hq' with hq1 | hq1
      · have hch := h.ch
        rw [h.eq] at hch
        obtain ⟨pq, k1, k2, k3, _⟩ := chain_post hch q hq1
        rcases hyg_at h.ok.hyg ht k1.op hd with hb | hb
        · obtain ⟨p, hp1, hi⟩ := h.ok.befs _ hb
          exact absurd hi (k1.new p (k3 p hp1))
        · exact h.not (h.cl q hq hS _ hb)
      · rcases List.mem_cons.1 hq1 with rfl | hq2
        · exact h.not hS
        · exact hp ⟨q, hq2, hd⟩

/-- the operands, as the machine has them -/
theorem reads_all (hst : Start X ρ0 w0) (inv : SInv X R ρ0 w0 S ρ c w) (h : Next X R S post pre r) : r.a.all fun x => VR ρ (evS r.σ x) (c.eval x) ∧ VLow r.nx (evS r.σ x) := by
  obtain ⟨env, T, L, b, g, ht, hg, hE, hdom, hs⟩ := h.ok.step
  obtain ⟨_, h2⟩ := trav_sound (.loc 0) ht
  have h3 := comp_operands h.ok.comp
  have h4 : r.a.all fun x => (∃ y, cv X.kept X.n env x = some y) ∧ x ∈ r.o.op.operands.toList := by
    revert h2 h3
    generalize r.a = a
    intro h2 h3
    cases a <;> simp only [AOp.all] at h2 h3 ⊢ <;> grind
  refine all_mono (fun x hx => ?_) h4
  obtain ⟨⟨y, hy⟩, hm⟩ := hx
  cases x with
  | tmp t =>
    refine reads_tmp hst inv h ?_ ?_
    · exact List.mem_filterMap.2 ⟨_, hm, rfl⟩
    · simp only [cv] at hy
      have hy1 := (bif_both hy).2
      cases hf : find env t with
      | some z => exact .inl (hdom t z (find_mem hf))
      | none =>
        rw [hf] at hy1
        exact .inr (bif_both hy1).1
  | const v =>
    simp only [cv] at hy
    have hk := (bif_both hy).1
    exact ⟨.of_const hk, ⟨fun _ => none, v, .of_const hk, fun _ _ => rfl⟩⟩
  | func f => exact ⟨.func .nil .nil, ⟨fun _ => none, _, .func .nil .nil, fun _ _ => rfl⟩⟩
  | global g => cases hy
end Go.Eng
/- The engine: regions whose order is drawn: one operation more. -/
namespace Go.Eng
variable {X : Cx} {S : Nat → Prop} {R post pre : List Rec} {r : Rec} {ρ0 ρ : Rho} {w0 w : World} {c : Act}

def More (S : Nat → Prop) (r : Rec) : Nat → Prop := fun i => S i ∨ i = r.i

theorem Next.uniq (h : Next X R S post pre r) {q : Rec} (hq : q ∈ R) (e : q.i = r.i) : q = r := chain_uniq h.ch q hq r h.mem e

theorem Next.post_ok (h : Next X R S post pre r) {q : Rec} (hq : q ∈ post) : ∃ pq, X.Ok pq q ∧ r ∈ pq ∧ (∀ p ∈ pre, p ∈ pq) ∧ X.At pq q.σ q.D q.H q.nx ∧ X.Ch pq := by
  have hch := h.ch
  rw [h.eq] at hch
  exact chain_post hch q hq

theorem Next.post_ne (h : Next X R S post pre r) {q : Rec} (hq : q ∈ post) : q.i ≠ r.i := by
  obtain ⟨pq, k1, k2, _⟩ := h.post_ok hq
  exact fun e => k1.new r k2 e.symm

theorem Next.le (hu : UpRun X.rn) (h : Next X R S post pre r) : r.nx ≤ r.nx' := rec_up hu h.ok

/-- the numbers that an operation gives out are its own -/
theorem fresh_nums (hst : Start X ρ0 w0) (inv : SInv X R ρ0 w0 S ρ c w) (h : Next X R S post pre r) {b : Nat} (h1 : r.nx ≤ b) (h2 : b < r.nx') : ρ b = none := by
  cases hb : ρ b with
  | none => rfl
  | some rr =>
    exfalso
    obtain ⟨k1, k2⟩ := chain_le hst.up h.chp h.at
    rcases inv.dom b rr hb with h3 | ⟨q, hq, hS, h3, h4⟩
    · omega
    · have hq' := hq
      rw [h.eq] at hq'
      rcases List.mem_append.1 hq' with hq1 | hq1
      · obtain ⟨pq, g1, g2, _, g4, g5⟩ := h.post_ok hq1
        have := ((chain_le hst.up g5 g4).2 r g2).1
        omega
      · rcases List.mem_cons.1 hq1 with rfl | hq2
        · exact h.not hS
        · have := (k2 q hq2).1
          omega

theorem tm_step {ρ' : Rho} {c2 : Act} {u : Value} (inv : SInv X R ρ0 w0 S ρ c w) (h : Next X R S post pre r) (he : Ext ρ ρ') (hv : VR ρ' r.v u) (hl : VLow r.nx' r.v) (hc : c2.tmps = c.tmps) :
    X.n ≤ (c2.put r.o.dst u).tmps.size ∧ (∀ q ∈ R, More S r q.i → ∀ t, q.o.dst = some t → VR ρ' q.v ((c2.put r.o.dst u).tmps.getD t undef)) ∧ (∀ q ∈ R, More S r q.i → VLow q.nx' q.v) ∧
    (∀ t, isIn X.kept t = true → (∀ q ∈ R, More S r q.i → q.o.dst ≠ some t) → VR ρ' (X.σ0 t) ((c2.put r.o.dst u).tmps.getD t undef)) := by
  have hsz : X.n ≤ c2.tmps.size := by rw [hc]; exact inv.size
  have key : ∀ t, r.o.dst ≠ some t → (c2.put r.o.dst u).tmps.getD t undef = c.tmps.getD t undef := by
    intro t ht
    rw [← hc]
    cases hd : r.o.dst with
    | none => rfl
    | some d =>
      rw [put_getD (Nat.lt_of_lt_of_le (h.ok.dst d hd) hsz), if_neg (fun e => ht (by rw [hd, e]))]
  refine ⟨?_, fun q hq hS t hd => ?_, fun q hq hS => ?_, fun t ht hn => ?_⟩
  · cases hd : r.o.dst with
    | none => exact hsz
    | some d => show X.n ≤ (c2.tmps.setIfInBounds d u).size; simpa using hsz
  · by_cases e : q.i = r.i
    · have := h.uniq hq e
      subst this
      rw [hd, put_getD (Nat.lt_of_lt_of_le (h.ok.dst t hd) hsz), if_pos rfl]
      exact hv
    · rw [key t fun hd' => e ?_]
      · exact (inv.val q hq (hS.resolve_right e) t hd).mono he
      · obtain ⟨_, _, _, k1, _⟩ := chain_split h.ch hq
        exact one_at h.one k1.op h.ok.op hd hd'
  · by_cases e : q.i = r.i
    · have := h.uniq hq e
      subst this
      exact hl
    · exact inv.vlow q hq (hS.resolve_right e)
  · rw [key t (hn r h.mem (.inr rfl))]
    exact (inv.kep t ht fun q hq hS => hn q hq (.inl hS)).mono he

/-- the world is as it was, but for new blocks behind -/
structure Still (w w' : World) : Prop where
  heap : ∀ k, k < w.heap.size → w'.heap[k]? = w.heap[k]?
  size : w.heap.size ≤ w'.heap.size
  os : w'.os = w.os
  tape : w'.tape = w.tape
  output : w'.output = w.output

theorem Still.refl (w : World) : Still w w := ⟨fun _ _ => rfl, Nat.le_refl _, rfl, rfl, rfl⟩

theorem inv_quiet {w' : World} {c2 : Act} {u : Value} (inv : SInv X R ρ0 w0 S ρ c w) (h : Next X R S post pre r) (hw : Still w w') (hv : VR ρ r.v u) (hl : VLow r.nx' r.v) (hc : c2.tmps = c.tmps) (hcd : c2.defers = c.defers)
    (hB : ∀ b k, Blocks (More S r) X.H0 R b k → Blocks S X.H0 R b k) (hhl : r.hv → ∀ b k, getP r.H' (at_ b) = some k → BLow r.nx' b k) (hml : r.mk' → r.nx < r.nx' → False)
    (hdat : ∃ D, Dat (More S r) X.D0 R D ∧ DfRs ρ D c.defers) (hdl : r.hv → DLow r.nx' r.D') : SInv X R ρ0 w0 (More S r) ρ (c2.put r.o.dst u) w' := by
  obtain ⟨t1, t2, t3, t4⟩ := tm_step inv h (Ext.refl ρ) hv hl hc
  refine ⟨fun b rr hb => ?_, t1, t2, t3, t4, fun b k hb => ?_, fun b b' k k' rr rr' hb hb' => inv.inj b b' k k' rr rr' (hB _ _ hb) (hB _ _ hb'), fun q hq hS hh => ?_, fun q hq hS hm hlt => ?_, ?_, fun q hq hS hh => ?_, inv.ext, inv.low,
    fun b k rr hb => inv.own b k rr (hB _ _ hb), fun b k hb => inv.ro b k (hB _ _ hb), fun k hk hn => ?_, Nat.le_trans inv.wsize hw.size, hw.os.trans inv.os, hw.tape.trans inv.tape, hw.output.trans inv.output⟩
  · rcases inv.dom b rr hb with h1 | ⟨q, hq, hS, g⟩
    · exact .inl h1
    · exact .inr ⟨q, hq, .inl hS, g⟩
  · obtain ⟨rr, h1, h2⟩ := inv.blk b k (hB _ _ hb)
    exact ⟨rr, h1, h2.of_same (hw.heap _ h2.lt)⟩
  · by_cases e : q.i = r.i
    · have := h.uniq hq e
      subst this
      exact hhl hh
    · exact inv.hlow q hq (hS.resolve_right e) hh
  · by_cases e : q.i = r.i
    · have := h.uniq hq e
      subst this
      exact (hml hm hlt).elim
    · exact inv.mlow q hq (hS.resolve_right e) hm hlt
  · have : (c2.put r.o.dst u).defers = c.defers := by rw [← hcd]; cases r.o.dst <;> rfl
    rw [this]
    exact hdat
  · by_cases e : q.i = r.i
    · have := h.uniq hq e
      subst this
      exact hdl hh
    · exact inv.dlow q hq (hS.resolve_right e) hh
  · rw [hw.heap k (Nat.lt_of_lt_of_le hk inv.wsize)]
    exact inv.frame k hk hn

theorem inv_make {ρ' : Rho} {w' : World} {c2 : Act} {u : Value} {rr : Ref} {blk : Blk} (hst : Start X ρ0 w0) (inv : SInv X R ρ0 w0 S ρ c w) (h : Next X R S post pre r) (hw : Still w w') (hm : r.mk') (hnx : r.nx' = r.nx + 1) (hH : getP r.H' (at_ r.nx) = some blk)
    (hρ : ∀ b, b ≠ r.nx → ρ' b = ρ b) (hρn : ρ' r.nx = some rr) (hbm : blk.mine = true) (hbr : BR ρ' w'.heap rr blk) (hnew : w.heap.size ≤ rr.blk) (hbl : BLow r.nx' r.nx blk) (hv : VR ρ' r.v u) (hl : VLow r.nx' r.v) (hc : c2.tmps = c.tmps) (hcd : c2.defers = c.defers) :
    SInv X R ρ0 w0 (More S r) ρ' (c2.put r.o.dst u) w' := by
  have hnh : ¬ r.hv := by
    intro hh
    unfold Rec.hv at hh
    unfold Rec.mk' at hm
    cases hk : kdOf r.a <;> rw [hk] at hh hm <;> simp [isHeavy, isMake] at hh hm
  have hno : ρ r.nx = none := fresh_nums hst inv h (Nat.le_refl _) (by omega)
  have hext : Ext ρ ρ' := by
    intro b s hb
    rw [hρ b (fun e => by rw [e, hno] at hb; cases hb)]
    exact hb
  have hB : ∀ b k, Blocks (More S r) X.H0 R b k → (Blocks S X.H0 R b k ∧ b ≠ r.nx) ∨ (b = r.nx ∧ k = blk) := by
    intro b k hb
    rcases blocks_more hm (fun i => Iff.rfl) (fun q hq e => h.uniq hq e) hb with h1 | ⟨_, h2, h3⟩
    · refine .inl ⟨h1, fun e => ?_⟩
      obtain ⟨s, g, _⟩ := inv.blk b k h1
      rw [e, hno] at g
      cases g
    · refine .inr ⟨h2, ?_⟩
      rw [h2, hH] at h3
      exact (Option.some.inj h3).symm
  obtain ⟨t1, t2, t3, t4⟩ := tm_step inv h hext hv hl hc
  refine ⟨fun b s hb => ?_, t1, t2, t3, t4, fun b k hb => ?_, fun b b' k k' s s' hb hb' hmi hs hs' e => ?_, fun q hq hS hh => ?_, fun q hq hS hm hlt => ?_, ?_, fun q hq hS hh => ?_, inv.ext.trans hext, fun b hb => ?_,
    fun b k s hb hmi hs => ?_, fun b k hb hmi => ?_, fun k hk hn => ?_, Nat.le_trans inv.wsize hw.size, hw.os.trans inv.os, hw.tape.trans inv.tape, hw.output.trans inv.output⟩
  · by_cases e : b = r.nx
    · exact .inr ⟨r, h.mem, .inr rfl, by omega, by omega⟩
    · rw [hρ b e] at hb
      rcases inv.dom b s hb with h1 | ⟨q, hq, hS, g⟩
      · exact .inl h1
      · exact .inr ⟨q, hq, .inl hS, g⟩
  · rcases hB b k hb with ⟨h1, h2⟩ | ⟨h1, h2⟩
    · obtain ⟨s, g1, g2⟩ := inv.blk b k h1
      exact ⟨s, hext _ _ g1, (g2.mono hext).of_same (hw.heap _ g2.lt)⟩
    · rw [h1, h2]
      exact ⟨rr, hρn, hbr⟩
  · rcases hB b k hb with ⟨h1, h2⟩ | ⟨h1, h2⟩
    · rcases hB b' k' hb' with ⟨h1', h2'⟩ | ⟨h1', h2'⟩
      · rw [hρ b h2] at hs
        rw [hρ b' h2'] at hs'
        exact inv.inj b b' k k' s s' h1 h1' hmi hs hs' e
      · exfalso
        rw [hρ b h2] at hs
        rw [h1', hρn] at hs'
        cases hs'
        obtain ⟨s2, g1, g2⟩ := inv.blk b k h1
        rw [hs] at g1
        cases g1
        have := g2.lt
        omega
    · rcases hB b' k' hb' with ⟨h1', h2'⟩ | ⟨h1', h2'⟩
      · exfalso
        rw [hρ b' h2'] at hs'
        rw [h1, hρn] at hs
        cases hs
        obtain ⟨s2, g1, g2⟩ := inv.blk b' k' h1'
        rw [hs'] at g1
        cases g1
        have := g2.lt
        omega
      · rw [h1, h1']
  · by_cases e : q.i = r.i
    · have := h.uniq hq e
      subst this
      exact absurd hh hnh
    · exact inv.hlow q hq (hS.resolve_right e) hh
  · by_cases e : q.i = r.i
    · have := h.uniq hq e
      subst this
      intro k hk
      rw [hH] at hk
      cases hk
      exact hbl
    · exact inv.mlow q hq (hS.resolve_right e) hm hlt
  · have : (c2.put r.o.dst u).defers = c.defers := by rw [← hcd]; cases r.o.dst <;> rfl
    rw [this]
    obtain ⟨D, g1, g2⟩ := inv.dfr
    refine ⟨D, dat_quiet (fun q hq hh => ?_) g1, g2.mono hext⟩
    constructor
    · rintro (h1 | e)
      · exact h1
      · have := h.uniq hq e
        subst this
        exact absurd hh hnh
    · exact .inl
  · by_cases e : q.i = r.i
    · have := h.uniq hq e
      subst this
      exact absurd hh hnh
    · exact inv.dlow q hq (hS.resolve_right e) hh
  · have := (chain_le hst.up h.chp h.at).1
    rw [hρ b (by omega)]
    exact inv.low b hb
  · rcases hB b k hb with ⟨h1, h2⟩ | ⟨h1, h2⟩
    · rw [hρ b h2] at hs
      exact inv.own b k s h1 hmi hs
    · rw [h1, hρn] at hs
      cases hs
      exact .inr (Nat.le_trans inv.wsize hnew)
  · rcases hB b k hb with ⟨h1, h2⟩ | ⟨h1, h2⟩
    · exact inv.ro b k h1 hmi
    · rw [h2, hbm] at hmi; cases hmi
  · rw [hw.heap k (Nat.lt_of_lt_of_le hk inv.wsize)]
    exact inv.frame k hk hn
end Go.Eng
/- The engine: regions whose order is drawn: one heavy operation more. -/
namespace Go.Eng
variable {X : Cx} {S : Nat → Prop} {R post pre : List Rec} {r : Rec} {ρ0 ρ : Rho} {w0 w : World} {c : Act}

/-- no heavy operation behind this one has been done -/
theorem heavy_post (h : Next X R S post pre r) (hh : r.hv) : ∀ q ∈ post, ¬(S q.i ∧ q.hv) := by
  intro q hq ⟨hS, hv⟩
  obtain ⟨pq, k1, k2, _⟩ := h.post_ok hq
  exact h.not (h.cl q (h.subp q hq) hS _ (k1.heavy hv r k2 (.inl hh)))

theorem heavy_pre (h : Next X R S post pre r) (hh : r.hv) : (∀ q ∈ pre, q.hv → S q.i) ∧ (∀ q ∈ pre, q.mk' → S q.i) :=
  ⟨fun q hq hv => h.rd _ (h.ok.heavy hh q hq (.inl hv)), fun q hq hm => h.rd _ (h.ok.heavy hh q hq (.inr hm))⟩

/-- the plan's heap, ahead of a heavy operation, is there -/
theorem heavy_blocks (h : Next X R S post pre r) (hh : r.hv) {b : Nat} {k : Blk} (hb : getP r.H (at_ b) = some k) : Blocks S X.H0 pre b k ∧ Blocks S X.H0 R b k := by
  obtain ⟨h1, h2⟩ := heavy_pre h hh
  have h3 := heap_blocks h.chp h.at (b := b) (k := k) h1 (fun q hq hm _ _ => h2 q hq hm) hb
  refine ⟨h3, ?_⟩
  rw [h.eq]
  exact blocks_skip (heavy_post h hh) (.inr (.inr ⟨fun g => h.not g.1, h3⟩))

theorem heavy_hr (hst : Start X ρ0 w0) (inv : SInv X R ρ0 w0 S ρ c w) (h : Next X R S post pre r) (hh : r.hv) : HR (ρ.upto r.nx) r.H r.nx w.heap := by
  obtain ⟨l1, l2⟩ := chain_le hst.up h.chp h.at
  refine ⟨fun b k hb => ?_, fun b b' k k' s s' hb hb' hmi hs hs' e => ?_, below_upto⟩
  · obtain ⟨g1, g2⟩ := heavy_blocks h hh hb
    obtain ⟨s, g3, g4⟩ := inv.blk b k g2
    have hlow := blocks_low hst inv (m := r.nx) h.sub l1 (fun q hq => (l2 q hq).1) g1
    exact ⟨s, by rw [Rho.upto_lt hlow.lt]; exact g3, hlow.cut g4⟩
  · exact inv.inj b b' k k' s s' (heavy_blocks h hh hb).2 (heavy_blocks h hh hb').2 hmi (upto_ext _ _ hs) (upto_ext _ _ hs') e

theorem heavy_dfr (hst : Start X ρ0 w0) (inv : SInv X R ρ0 w0 S ρ c w) (h : Next X R S post pre r) (hh : r.hv) : DfRs (ρ.upto r.nx) r.D c.defers ∧ DfRs ρ r.D c.defers ∧ DLow r.nx r.D := by
  obtain ⟨l1, l2⟩ := chain_le hst.up h.chp h.at
  obtain ⟨D, g1, g2⟩ := inv.dfr
  have hd : Dat S X.D0 pre r.D := dat_at h.chp h.at (heavy_pre h hh).1
  have hd' : Dat S X.D0 R r.D := by
    rw [h.eq]
    exact (dat_skip (heavy_post h hh)).2 (.inr ⟨fun g => h.not g.1, hd⟩)
  have := dat_uniq g1 hd'
  subst this
  have hlow : ∀ {p : List Rec} {D : List Dfd}, (∀ q ∈ p, q ∈ R ∧ q.nx' ≤ r.nx) → Dat S X.D0 p D → DLow r.nx D := by
    intro p
    induction p with
    | nil => intro D _ hD; rw [show D = X.D0 from hD]; exact hst.dlow.mono l1
    | cons q p ih =>
      intro D hp hD
      rcases hD with ⟨k1, k2, rfl⟩ | ⟨_, hD⟩
      · exact (inv.dlow q (hp q List.mem_cons_self).1 k1 k2).mono (hp q List.mem_cons_self).2
      · exact ih (fun x hx => hp x (List.mem_cons_of_mem _ hx)) hD
  have hl := hlow (fun q hq => ⟨h.sub q hq, (l2 q hq).1⟩) hd
  exact ⟨hl.cut g2, g2, hl⟩

theorem inv_heavy {ρ2 : Rho} {w' : World} {c2 : Act} {u : Value} (hst : Start X ρ0 w0) (inv : SInv X R ρ0 w0 S ρ c w) (h : Next X R S post pre r) (hh : r.hv) (hv : VR ρ2 r.v u) (hw : Went (ρ.upto r.nx) r.H r.nx w ρ2 r.H' r.nx' w') (hD : DfRs ρ2 r.D' c2.defers) (hc : c2.tmps = c.tmps) :
    ∃ ρ', SInv X R ρ0 w0 (More S r) ρ' (c2.put r.o.dst u) w' := by
  have hnm : ¬ r.mk' := by
    intro hm
    unfold Rec.hv at hh
    unfold Rec.mk' at hm
    cases hk : kdOf r.a <;> rw [hk] at hh hm <;> simp [isHeavy, isMake] at hh hm
  obtain ⟨l1, l2⟩ := chain_le hst.up h.chp h.at
  have hpost := heavy_post h hh
  have hpost' : ∀ q ∈ post, ¬(More S r q.i ∧ q.hv) := fun q hq ⟨g1, g2⟩ => hpost q hq ⟨g1.resolve_right (h.post_ne hq), g2⟩
  obtain ⟨ρ', hρ'⟩ : ∃ ρ' : Rho, ∀ b, ρ' b = if r.nx ≤ b ∧ b < r.nx' then ρ2 b else ρ b := ⟨fun b => if r.nx ≤ b ∧ b < r.nx' then ρ2 b else ρ b, fun _ => rfl⟩
  have hext : Ext ρ ρ' := by
    intro b s hb
    rw [hρ', if_neg (fun g => by rw [fresh_nums hst inv h g.1 g.2] at hb; cases hb)]
    exact hb
  have hext2 : Ext ρ2 ρ' := by
    intro b s hb
    rw [hρ']
    by_cases hb1 : b < r.nx
    · rw [if_neg (by omega)]
      rw [hw.low b hb1, Rho.upto_lt hb1] at hb
      exact hb
    · by_cases hb2 : b < r.nx'
      · rw [if_pos ⟨by omega, hb2⟩]; exact hb
      · rw [hw.hr.new b (by omega)] at hb; cases hb
  -- the blocks, afterwards
  have hB : ∀ b k, Blocks (More S r) X.H0 R b k → getP r.H' (at_ b) = some k ∨ (Blocks S X.H0 R b k ∧ r.nx' ≤ b) := by
    intro b k hb
    rw [h.eq] at hb
    rcases blocks_inv hpost' hb with h1 | ⟨m, hm, g1, g2, g3, g4, g5⟩
    · rcases h1 with ⟨_, _, h1⟩ | ⟨_, h1, _⟩ | ⟨h1, _⟩
      · exact .inl h1
      · exact absurd h1 hnm
      · exact absurd ⟨.inr rfl, hh⟩ h1
    · refine .inr ⟨?_, ?_⟩
      · rw [h.eq]
        exact blocks_make hpost hm (g1.resolve_right (h.post_ne hm)) g2 g3 g4 g5
      · obtain ⟨pq, k1, k2, _, k4, k5⟩ := h.post_ok hm
        have := ((chain_le hst.up k5 k4).2 r k2).1
        omega
  have howned : ∀ j, Own (ρ.upto r.nx) r.H j → ∃ b k s, Blocks S X.H0 R b k ∧ k.mine = true ∧ ρ b = some s ∧ s.blk = j ∧ b < r.nx := by
    rintro j ⟨b, k, s, g1, gm, g2, g3⟩
    refine ⟨b, k, s, (heavy_blocks h hh g1).2, gm, upto_ext _ _ g2, g3, ?_⟩
    rcases Nat.lt_or_ge b r.nx with h1 | h1
    · exact h1
    · rw [Rho.upto_ge h1] at g2; cases g2
  -- what was there besides
  have hside : ∀ b k s, Blocks S X.H0 R b k → r.nx' ≤ b → ρ b = some s → s.blk < w.heap.size ∧ ¬ Own (ρ.upto r.nx) r.H s.blk := by
    intro b k s hb hle hs
    obtain ⟨s', g1, g2⟩ := inv.blk b k hb
    rw [hs] at g1
    cases g1
    refine ⟨g2.lt, fun ho => ?_⟩
    obtain ⟨b2, k2, s2, q1, qm, q2, q3, q4⟩ := howned _ ho
    have := inv.inj b2 b k2 k s2 s q1 hb qm q2 hs q3
    have := h.le hst.up
    omega
  have hin : ∀ b k, getP r.H' (at_ b) = some k → ∃ s, ρ2 b = some s ∧ ρ' b = some s ∧ BR ρ2 w'.heap s k := by
    intro b k hb
    obtain ⟨s, g1, g2⟩ := hw.hr.blk b k hb
    exact ⟨s, g1, hext2 _ _ g1, g2⟩
  have hmix : ∀ b b' k k' s s', getP r.H' (at_ b) = some k → Blocks S X.H0 R b' k' → r.nx' ≤ b' → (k.mine = true ∨ k'.mine = true) → ρ' b = some s → ρ' b' = some s' → s.blk = s'.blk → False := by
    intro b b' k k' s s' hb hb' hle hmi hs hs' e
    obtain ⟨s1, g1, g2, g3⟩ := hin b k hb
    rw [hs] at g2
    cases g2
    rw [hρ', if_neg (by omega)] at hs'
    obtain ⟨q1, q2⟩ := hside b' k' s' hb' hle hs'
    cases hkm : k.mine with
    | true =>
      rcases hw.stp.own s.blk ⟨b, k, s, hb, hkm, g1, rfl⟩ with ho | ho
      · exact q2 (e ▸ ho)
      · omega
    | false =>
      have hold := hw.stp.ro b k hb hkm
      have hk2 := (heavy_blocks h hh hold).2
      obtain ⟨s2, p1, p2⟩ := inv.blk b k hk2
      have hlt : b < r.nx := (blocks_low hst inv (m := r.nx) h.sub l1 (fun q hq => (l2 q hq).1) (heavy_blocks h hh hold).1).lt
      rw [hρ', if_neg (by omega), p1] at hs
      cases hs
      have := inv.inj b' b k' k s' s hb' hk2 (by rcases hmi with g | g; · rw [hkm] at g; cases g
                                                 · exact g) hs' p1 e.symm
      have := h.le hst.up
      omega
  obtain ⟨t1, t2, t3, t4⟩ := tm_step inv h hext (hv.mono hext2) (hv.low hw.hr.new) hc
  refine ⟨ρ', fun b s hb => ?_, t1, t2, t3, t4, fun b k hb => ?_, fun b b' k k' s s' hb hb' hmi hs hs' e => ?_, fun q hq hS hv => ?_, fun q hq hS hm hlt => ?_, ?_, fun q hq hS hv => ?_, inv.ext.trans hext, fun b hb => ?_,
    fun b k s hb hmi hs => ?_, fun b k hb hmi => ?_, fun k hk hn => ?_, Nat.le_trans inv.wsize hw.stp.size, hw.stp.os.trans inv.os, hw.stp.tape.trans inv.tape, hw.stp.output.trans inv.output⟩
  · by_cases hi : r.nx ≤ b ∧ b < r.nx'
    · exact .inr ⟨r, h.mem, .inr rfl, hi.1, hi.2⟩
    · rw [hρ', if_neg hi] at hb
      rcases inv.dom b s hb with h1 | ⟨q, hq, hS, g⟩
      · exact .inl h1
      · exact .inr ⟨q, hq, .inl hS, g⟩
  · rcases hB b k hb with h1 | ⟨h1, h2⟩
    · obtain ⟨s, g1, g2, g3⟩ := hin b k h1
      exact ⟨s, g2, g3.mono hext2⟩
    · obtain ⟨s, g1, g2⟩ := inv.blk b k h1
      obtain ⟨q1, q2⟩ := hside b k s h1 h2 g1
      exact ⟨s, hext _ _ g1, (g2.mono hext).of_same (hw.stp.frame _ q1 q2)⟩
  · rcases hB b k hb with h1 | ⟨h1, h2⟩
    · rcases hB b' k' hb' with h1' | ⟨h1', h2'⟩
      · obtain ⟨s1, g1, g2, _⟩ := hin b k h1
        obtain ⟨s1', g1', g2', _⟩ := hin b' k' h1'
        rw [hs] at g2
        rw [hs'] at g2'
        cases g2; cases g2'
        exact hw.hr.inj b b' k k' s s' h1 h1' hmi g1 g1' e
      · exact (hmix b b' k k' s s' h1 h1' h2' (.inl hmi) hs hs' e).elim
    · rcases hB b' k' hb' with h1' | ⟨h1', h2'⟩
      · exact (hmix b' b k' k s' s h1' h1 h2 (.inr hmi) hs' hs e.symm).elim
      · rw [hρ', if_neg (by omega)] at hs
        rw [hρ', if_neg (by omega)] at hs'
        exact inv.inj b b' k k' s s' h1 h1' hmi hs hs' e
  · by_cases e : q.i = r.i
    · have := h.uniq hq e
      subst this
      exact fun b k hb => hw.hr.blow hb
    · exact inv.hlow q hq (hS.resolve_right e) hv
  · by_cases e : q.i = r.i
    · have := h.uniq hq e
      subst this
      exact absurd hm hnm
    · exact inv.mlow q hq (hS.resolve_right e) hm hlt
  · have : (c2.put r.o.dst u).defers = c2.defers := by cases r.o.dst <;> rfl
    rw [this]
    refine ⟨r.D', ?_, hD.mono hext2⟩
    rw [h.eq]
    exact (dat_skip hpost').2 (.inl ⟨.inr rfl, hh, rfl⟩)
  · by_cases e : q.i = r.i
    · have := h.uniq hq e
      subst this
      exact ⟨ρ2, _, hD, hw.hr.new⟩
    · exact inv.dlow q hq (hS.resolve_right e) hv
  · rw [hρ', if_neg (by omega)]
    exact inv.low b hb
  · rcases hB b k hb with h1 | ⟨h1, h2⟩
    · obtain ⟨s1, g1, g2, _⟩ := hin b k h1
      rw [hs] at g2
      cases g2
      rcases hw.stp.own s.blk ⟨b, k, s, h1, hmi, g1, rfl⟩ with ho | ho
      · obtain ⟨b2, k2, s2, q1, qm, q2, q3, _⟩ := howned _ ho
        have := inv.own b2 k2 s2 q1 qm q2
        rwa [q3] at this
      · exact .inr (Nat.le_trans inv.wsize ho)
    · rw [hρ', if_neg (by omega)] at hs
      exact inv.own b k s h1 hmi hs
  · rcases hB b k hb with h1 | ⟨h1, h2⟩
    · exact inv.ro b k (heavy_blocks h hh (hw.stp.ro b k h1 hmi)).2 hmi
    · exact inv.ro b k h1 hmi
  · have hk' := Nat.lt_of_lt_of_le hk inv.wsize
    rw [hw.stp.frame k hk' fun ho => ?_]
    · exact inv.frame k hk hn
    · obtain ⟨b2, k2, s2, q1, qm, q2, q3, _⟩ := howned _ ho
      rcases inv.own b2 k2 s2 q1 qm q2 with g | g
      · rw [q3] at g; exact hn g
      · rw [q3] at g; omega
end Go.Eng
/- The engine: regions whose order is drawn: loads, and operations that leave the heap alone. -/
namespace Go.Eng

section
variable {P : Program} {ins : List Nat} {w : World} {ρ : Rho} {H : Heap} {nx : Nat} {r : Ex × St} {T : Tr Value} {L : List Value} {ρa ρc : Operand → Value} {o : Oper}

/-- a load, run: the world is as it was -/
theorem load_run {a : AOp Operand} {k : KV} (hk : kdOf a = .load) (hc : compileOp P ins o = some a) (ha : a.all fun x => VR ρ (ρa x) (ρc x)) (hH : HR ρ H nx w.heap) (h : lookT (a.map (Av ρa)) P T L H k = some r) :
    ∃ x y, k x = some r ∧ (execOp ρc o).run P w = .ok (.value y) w ∧ VR ρ x y := by
  have fin : ∀ s : Sem Value, execOp ρc o = (do pure (.value (← s))) → (∃ x y, k x = some r ∧ s.run P w = .ok y w ∧ VR ρ x y) → ∃ x y, k x = some r ∧ (execOp ρc o).run P w = .ok (.value y) w ∧ VR ρ x y := by
    rintro s hs ⟨x, y, h1, h2, h3⟩
    exact ⟨x, y, h1, by rw [hs]; simp only [Sem.run_bind, h2, Result.andThen_ok, Sem.run_pure], h3⟩
  have hfrom := compile_from hc
  cases ho : o.op with
  | load t x =>
    simp only [compileOp, ho, Option.map_eq_some_iff] at hc
    obtain ⟨g, hg, rfl⟩ := hc
    exact fin (Instr.loadAt t (ρc x)) (by simp only [execOp, ho]) (lod_sound hg hH ha h)
  | lookup t x i ok =>
    simp only [compileOp, ho] at hc
    split at hc
    · rename_i kt e hu
      simp only [Option.map_eq_some_iff] at hc
      obtain ⟨z, hz, rfl⟩ := hc
      exact fin (Instr.lookup t (ρc x) (ρc i) ok) (by simp only [execOp, ho]) (lku_sound hu hz hH ha.1 ha.2 h)
    · cases hc
  | call d =>
    cases hb : d.callee with
    | builtin b =>
      simp only [compileOp, ho, hb] at hc
      unfold compileBuiltin at hc
      split at hc
      · split at hc
        · split at hc <;> first | cases hc | (replace hc := bif_some hc; cases hc; cases hk)
        · cases hc
      · rename_i t l x hts hargs
        have hl : ∀ u : Value, Builtin.len_ d.argTypes o.type #[u] = Builtin.len_ #[t] o.type #[u] := fun u => len_ts (ts_head hts)
        split at hc
        · cases hc; cases hk
        · cases hc; cases hk
        · rename_i kt e hu
          cases hc
          refine fin (Builtin.len_ #[t] o.type #[ρc x]) ?_ (mln_sound hu hH ha (show mlnV H (ρa x) k = some r from h))
          rw [builtin_op ho hb, args_eq hargs, ← hl]
          rfl
        · cases hc
      · split at hc
        · cases hc; cases hk
        · cases hc
      · split at hc
        · split at hc
          · cases hc; cases hk
          · cases hc
        · cases hc
      · cases hc; cases hk
      · cases hc; cases hk
      · cases hc; cases hk
      · split at hc
        · split at hc
          · cases hc; cases hk
          · cases hc
        · cases hc
      · cases hc
    | value f =>
      exfalso
      cases f with
      | func g =>
        simp only [compileOp, ho, hb] at hc
        cases hg : isIn ins g with
        | true =>
          rw [hg] at hc
          simp only [cond_true] at hc
          split at hc
          · split at hc
            · split at hc
              · cases hc; cases hk
              · cases hc
            · cases hc
          · cases hc
        | false => rw [hg] at hc; cases hc; cases hk
      | _ => simp only [compileOp, ho, hb] at hc; cases hc; cases hk
    | invoke x name => simp only [compileOp, ho, hb] at hc; cases hc; cases hk
  | binOp op t x y b =>
    exfalso
    simp only [compileOp, ho] at hc
    unfold compileBin at hc
    repeat' split at hc
    all_goals first
      | (replace hc := bif_some hc; cases hc; cases hk; done)
      | (cases hc; done)
      | (cases hc; cases hk; done)
  | makeFunc f a b =>
    exfalso
    cases f <;> simp only [compileOp, ho] at hc <;> first | (cases hc; done) | (cases hc; cases hk; done)
  | _ =>
    exfalso
    simp only [compileOp, ho] at hc
    repeat' split at hc
    all_goals first
      | (cases hc; done)
      | (obtain ⟨z, _, rfl⟩ := Option.map_eq_some_iff.1 (bif_some hc); cases hk; done)
      | (replace hc := bif_some hc; cases hc; cases hk; done)
      | (obtain ⟨z, _, rfl⟩ := Option.map_eq_some_iff.1 hc; cases hk; done)
      | (cases hc; cases hk; done)

/-- what a load is, is not told by the list of 'insert's -/
theorem comp_nil {a a' : AOp Operand} (h : compileOp P ins o = some a) (h' : compileOp P [] o = some a') (hk : kdOf a = .load) : a' = a := by
  cases ho : o.op with
  | call d =>
    cases hd : d.callee with
    | value f =>
      exfalso
      cases f with
      | func g =>
        simp only [compileOp, ho, hd] at h
        cases hg : isIn ins g with
        | true =>
          rw [hg] at h
          simp only [cond_true] at h
          split at h
          · split at h
            · split at h
              · cases h; cases hk
              · cases h
            · cases h
          · cases h
        | false => rw [hg] at h; cases h; cases hk
      | _ => simp only [compileOp, ho, hd] at h; cases h; cases hk
    | _ =>
      simp only [compileOp, ho, hd] at h h'
      rw [h] at h'
      exact (Option.some.inj h').symm
  | makeFunc f a b =>
    cases f <;> simp only [compileOp, ho] at h h'
    all_goals first
      | (cases h; done)
      | (rw [h] at h'; exact (Option.some.inj h').symm)
  | _ =>
    simp only [compileOp, ho] at h h'
    rw [h] at h'
    exact (Option.some.inj h').symm
end
end Go.Eng
/- The engine: regions whose order is drawn: each kind of operation. -/
namespace Go.Eng
variable {X : Cx} {S : Nat → Prop} {R post pre : List Rec} {r : Rec} {ρ0 ρ : Rho} {w0 w : World} {c : Act}

theorem wanted_S {ops : List Oper} {o : Oper} {σ : Sig} {tm : Array Value} (h : ∀ j w q t, o.guard = some (j, w) → ops[j]? = some q → q.dst = some t → ∃ ρ, VR ρ (σ t) (tm.getD t undef)) :
    Region.wanted o (yielded ops.toArray tm) = wantS ops σ o.guard := by
  unfold Region.wanted
  cases hg : o.guard with
  | none => rfl
  | some p =>
    obtain ⟨j, want⟩ := p
    show (yielded ops.toArray tm j == some want) = wantS ops σ (some (j, want))
    cases hj : ops[j]? with
    | none => simp [yielded, wantS, hj]
    | some q =>
      cases hd : q.dst with
      | none => simp [yielded, wantS, hj, hd]
      | some t =>
        obtain ⟨ρ, hv⟩ := h j want q t hg hj hd
        have hy : yielded ops.toArray tm j = match tm.getD t undef with | .bool b => some b | _ => none := by
          unfold yielded
          simp only [List.getElem?_toArray, hj, Option.bind_some, hd, Array.getD_eq_getD_getElem?]
          cases tm[t]? with
          | none => rfl
          | some v => cases v <;> rfl
        have hs : wantS ops σ (some (j, want)) = wantB want (σ t) := by simp only [wantS, hj, Option.bind_some, hd]
        rw [hy, hs]
        generalize tm.getD t undef = u at hv
        generalize σ t = v at hv
        cases hv with
        | sc h => cases u <;> first | rfl | (rename_i b; cases b <;> cases want <;> rfl) | (simp [scalar] at h)
        | any h => cases u <;> first | rfl | (simp [anyOne] at h)
        | _ => rfl

theorem reads_guard (hst : Start X ρ0 w0) (inv : SInv X R ρ0 w0 S ρ c w) (h : Next X R S post pre r) {j : Nat} {want : Bool} {q : Oper} {t : Nat} (hg : r.o.guard = some (j, want)) (hj : X.ops[j]? = some q) (hd : q.dst = some t) :
    VR ρ (r.σ t) (c.tmps.getD t undef) ∧ VLow r.nx (r.σ t) := by
  have hb := h.ok.grd j want hg
  obtain ⟨q1, hq1, hi⟩ := h.ok.befs j hb
  obtain ⟨_, _, _, k1, _⟩ := chain_split h.chp hq1
  have ho : q1.o = q := by
    have := k1.op
    rw [hi, hj] at this
    exact (Option.some.inj this).symm
  exact reads_pre hst inv h hq1 (ho ▸ hd) (by rw [hi]; exact h.rd _ hb)

theorem draw_guard (hst : Start X ρ0 w0) (inv : SInv X R ρ0 w0 S ρ c w) (h : Next X R S post pre r) : Region.wanted r.o (yielded X.ops.toArray c.tmps) = wantS X.ops r.σ r.o.guard :=
  wanted_S fun _ _ _ _ hg hj hd => ⟨ρ, (reads_guard hst inv h hg hj hd).1⟩

/-- neither heavy nor a make -/
theorem quiet_light {w' : World} {c2 : Act} {u : Value} (inv : SInv X R ρ0 w0 S ρ c w) (h : Next X R S post pre r) (hh : ¬ r.hv) (hm : r.mk' → ¬ r.nx < r.nx') (hw : Still w w') (hv : VR ρ r.v u) (hl : VLow r.nx' r.v) (hc : c2.tmps = c.tmps) (hcd : c2.defers = c.defers) :
    SInv X R ρ0 w0 (More S r) ρ (c2.put r.o.dst u) w' := by
  refine inv_quiet inv h hw hv hl hc hcd (fun b k hb => blocks_quiet (fun q hq hk => ?_) hb) (fun g => absurd g hh) (fun g1 g2 => hm g1 g2) ?_ (fun g => absurd g hh)
  · refine ⟨fun g => g.elim id fun e => ?_, .inl⟩
    have := h.uniq hq e
    subst this
    rcases hk with hk | ⟨k1, k2⟩
    · exact absurd hk hh
    · exact absurd k2 (hm k1)
  · obtain ⟨D, g1, g2⟩ := inv.dfr
    refine ⟨D, dat_quiet (fun q hq hk => ?_) g1, g2⟩
    refine ⟨fun g => g.elim id fun e => ?_, .inl⟩
    have := h.uniq hq e
    subst this
    exact absurd hk hh

theorem hr_empty {ρ : Rho} {n : Nat} {hp : Array Obj} : HR (ρ.upto n) .e n hp :=
  ⟨(fun b k hb => by cases hb), (fun b b' k k' s s' hb => by cases hb), below_upto⟩

theorem still_of {ρ ρ' : Rho} {H' : Heap} {w w' : World} (h : Stp ρ .e w ρ' H' w') : Still w w' :=
  ⟨fun k hk => h.frame k hk (fun ⟨b, x, s, hb, _⟩ => by cases hb), h.size, h.os, h.tape, h.output⟩

theorem reads_upto (hst : Start X ρ0 w0) (inv : SInv X R ρ0 w0 S ρ c w) (h : Next X R S post pre r) {m : Nat} (hm : r.nx ≤ m) : r.a.all fun x => VR (ρ.upto m) (evS r.σ x) (c.eval x) :=
  all_mono (fun _ hx => (hx.2.mono hm).cut hx.1) (reads_all hst inv h)

theorem upon_value {P : Program} {o : Oper} {next : Act → World → Prop} {Q : Exit → Act → World → Prop} {s : Result Go.Next} {u : Value} {w' : World} (h : s = .ok (.value u) w' ∨ (s = .ok .skip w' ∧ u = undef)) (hn : next (c.put o.dst u) w') : o.upon P c next Q s := by
  rcases h with h | ⟨h, rfl⟩ <;> (rw [h]; exact hn)

/-- an operation that has nothing to do with the heap -/
theorem pure_run {next : Act → World → Prop} {Q : Exit → Act → World → Prop} {env : Env} {T : Tr Value} {L : List Value} {b : AOp Od} (hst : Start X ρ0 w0) (inv : SInv X R ρ0 w0 S ρ c w) (h : Next X R S post pre r) (ht : r.a.trav (cv X.kept X.n env) = some b) (hE : EnvS X.kept r.σ env T L)
    (hk : kdOf r.a = .pure) (hact : ∀ k, actT b X.P T L r.H r.nx k = k r.v r.H' r.nx') (hn : ∀ ρ' c' w', SInv X R ρ0 w0 (More S r) ρ' c' w' → next c' w') : r.o.upon X.P c next Q ((execOp c.eval r.o).run X.P w) := by
  have hkb : kdOf b = .pure := (kdOf_trav (.loc 0) ht).trans hk
  obtain ⟨e1, e2, h2⟩ := act_pure hkb hact
  have h3 := act_S ht hE (H := .e) (nx := r.nx) (fun k => h2 .e r.nx k) T L ka0
  have hh : ¬ r.hv := by unfold Rec.hv; rw [hk]; simp [isHeavy]
  obtain ⟨v2, H2, nx2, u, w', ρ', g1, g2, g3, g4, g5, g6, g7⟩ := act_sound (T := T) (L := L) (w := w) h.ok.comp (plain_of_kd hh) (reads_upto hst inv h (Nat.le_refl _)) hr_empty (h3.trans rfl)
  obtain ⟨rfl, rfl, rfl⟩ := ka0_inj (g1.trans rfl)
  have hex : Ext ρ' ρ := by
    intro b s hb
    rcases Nat.lt_or_ge b r.nx with h1 | h1
    · rw [g7 b h1, Rho.upto_lt h1] at hb; exact hb
    · rw [g4.new b h1] at hb; cases hb
  exact upon_value g2 (hn ρ _ w' (quiet_light inv h hh (fun _ => by omega) (still_of g5) (g3.mono hex) (by rw [e2]; exact g3.low g4.new) rfl rfl))

/-- a make -/
theorem make_run {next : Act → World → Prop} {Q : Exit → Act → World → Prop} {env : Env} {T : Tr Value} {L : List Value} {b : AOp Od} (hst : Start X ρ0 w0) (inv : SInv X R ρ0 w0 S ρ c w) (h : Next X R S post pre r) (ht : r.a.trav (cv X.kept X.n env) = some b) (hE : EnvS X.kept r.σ env T L)
    (hk : kdOf r.a = .make) (hact : ∀ k, actT b X.P T L r.H r.nx k = k r.v r.H' r.nx') (hn : ∀ ρ' c' w', SInv X R ρ0 w0 (More S r) ρ' c' w' → next c' w') : r.o.upon X.P c next Q ((execOp c.eval r.o).run X.P w) := by
  have hkb : kdOf b = .make := (kdOf_trav (.loc 0) ht).trans hk
  obtain ⟨blk, e1, e2, h2⟩ := act_make hkb hact
  have h3 := act_S ht hE (H := .e) (nx := r.nx) (fun k => h2 .e k) T L ka0
  have hh : ¬ r.hv := by unfold Rec.hv; rw [hk]; simp [isHeavy]
  obtain ⟨v2, H2, nx2, u, w', ρ', g1, g2, g3, g4, g5, g6, g7⟩ := act_sound (T := T) (L := L) (w := w) h.ok.comp (plain_of_kd hh) (reads_upto hst inv h (Nat.le_refl _)) hr_empty (h3.trans rfl)
  obtain ⟨rfl, rfl, rfl⟩ := ka0_inj (g1.trans rfl)
  have hget : getP (insP (at_ r.nx) (.e : Heap) (some blk)) (at_ r.nx) = some blk := getP_insP _ _ _
  obtain ⟨rr, q1, q2⟩ := g4.blk r.nx blk hget
  have hbm : blk.mine = true := by
    cases hm : blk.mine with
    | true => rfl
    | false => cases g5.ro _ _ hget hm
  have hnew : w.heap.size ≤ rr.blk := by
    rcases g5.own rr.blk ⟨r.nx, blk, rr, hget, hbm, q1, rfl⟩ with ⟨b, x, s, hb, _⟩ | h1
    · cases hb
    · exact h1
  have hex : Ext ρ' (fun b => if b = r.nx then ρ' b else ρ b) := by
    intro b s hb
    show (if b = r.nx then ρ' b else ρ b) = some s
    by_cases e : b = r.nx
    · rw [if_pos e]; exact hb
    · rw [if_neg e]
      rcases Nat.lt_or_ge b r.nx with h1 | h1
      · rw [g7 b h1, Rho.upto_lt h1] at hb; exact hb
      · rw [g4.new b (by omega)] at hb; cases hb
  refine upon_value g2 (hn (fun b => if b = r.nx then ρ' b else ρ b) _ w' ?_)
  exact inv_make (blk := blk) (rr := rr) hst inv h (still_of g5) (by unfold Rec.mk'; rw [hk]; rfl) e2 (by rw [e1]; exact getP_insP _ _ _) (fun b hb => if_neg hb) (by show (if r.nx = r.nx then ρ' r.nx else ρ r.nx) = some rr; rw [if_pos rfl]; exact q1) hbm (q2.mono hex) hnew
    (by rw [e2]; exact g4.blow hget) (g3.mono hex) (by rw [e2]; exact g3.low g4.new) rfl rfl
end Go.Eng
/- The engine: regions whose order is drawn: loads. -/
namespace Go.Eng
variable {X : Cx} {S : Nat → Prop} {R post pre : List Rec} {r : Rec} {ρ0 ρ : Rho} {w0 w : World} {c : Act}

theorem single_get {b b' : Nat} {x : Option Blk} {k : Blk} (h : getP (insP (at_ b) (.e : Heap) x) (at_ b') = some k) : b' = b ∧ x = some k := by
  by_cases e : at_ b' = at_ b
  · rw [e, getP_insP] at h
    exact ⟨at_inj e, h⟩
  · rw [getP_insP_ne _ _ _ _ e] at h
    cases h

theorem single_hr {ρ : Rho} {m b : Nat} {x : Option Blk} {hp : Array Obj} (h : ∀ k, x = some k → ∃ rr, ρ b = some rr ∧ BR ρ hp rr k) (hm : Below ρ m) : HR ρ (insP (at_ b) .e x) m hp := by
  refine ⟨fun b' k hb => ?_, fun b1 b2 k1 k2 s1 s2 h1 h2 _ _ _ _ => ?_, hm⟩
  · obtain ⟨rfl, e⟩ := single_get hb
    exact h k e
  · rw [(single_get h1).1, (single_get h2).1]

theorem loadArg_some {a : AOp Operand} (hk : kdOf a = .load) : ∃ x, loadArg a = some x := by
  cases a <;> first | (cases hk; done) | exact ⟨_, rfl⟩

theorem load_at {H : Heap} {m : Nat} (hst : Start X ρ0 w0) (inv : SInv X R ρ0 w0 S ρ c w) (h : Next X R S post pre r) (hk : kdOf r.a = .load) (hm : r.nx ≤ m) (hl : ∀ T L k, lookT (r.a.map (Av (evS r.σ))) X.P T L H k = k r.v)
    (hb : ∀ x b, loadArg r.a = some x → blkOf (evS r.σ x) = some b → ∀ k, getP H (at_ b) = some k → ∃ rr, ρ b = some rr ∧ BR ρ w.heap rr k ∧ BLow m b k) : ∃ u, (execOp c.eval r.o).run X.P w = .ok (.value u) w ∧ VR (ρ.upto m) r.v u := by
  obtain ⟨x, hx⟩ := loadArg_some hk
  have hs : ∃ Hs : Heap, HR (ρ.upto m) Hs m w.heap ∧ ∀ b, blkOf (evS r.σ x) = some b → getP Hs (at_ b) = getP H (at_ b) := by
    cases hbl : blkOf (evS r.σ x) with
    | none => exact ⟨.e, hr_empty, fun b hb => by cases hb⟩
    | some b =>
      refine ⟨insP (at_ b) .e (getP H (at_ b)), single_hr (fun k hg => ?_) below_upto, fun b' hb' => by cases hb'; exact getP_insP _ _ _⟩
      obtain ⟨rr, g1, g2, g3⟩ := hb x b hx hbl k hg
      exact ⟨rr, by rw [Rho.upto_lt g3.lt]; exact g1, g3.cut g2⟩
  obtain ⟨Hs, h1, h2⟩ := hs
  have h3 : lookT (r.a.map (Av (evS r.σ))) X.P .e [] Hs kv0 = kv0 r.v := by
    rw [look_load (H := H) hk fun x' b hx' hb' => ?_]
    · exact hl _ _ _
    · rw [hx] at hx'
      cases hx'
      exact h2 b hb'
  obtain ⟨v, u, g1, g2, g3⟩ := load_run hk h.ok.comp (reads_upto hst inv h hm) h1 (h3.trans rfl)
  have hv : v = r.v := by
    have e : kv0 v = kv0 r.v := g1
    unfold kv0 at e
    simp only [Option.some.injEq, Prod.mk.injEq, St.mk.injEq, Tr.n.injEq, true_and, and_true] at e
    exact e
  rw [hv] at g3
  exact ⟨u, g2, g3⟩

theorem ref_exists {ρ ρ' : Rho} {v u : Value} {b : Nat} {rr : Ref} (h : VR ρ v u) (hb : blkOf v = some b) (hr : ρ' b = some rr) : ∃ u', VR ρ' v u' := by
  cases h with
  | ptr h => cases hb; exact ⟨_, .ptr hr⟩
  | map h => cases hb; exact ⟨_, .map hr⟩
  | sc h => unfold blkOf at hb; split at hb <;> first | (simp [scalar] at h; done) | cases hb
  | _ => cases hb

theorem ref_some {ρ : Rho} {v u : Value} {b : Nat} (h : VR ρ v u) (hb : blkOf v = some b) : ∃ rr, ρ b = some rr := by
  cases h with
  | ptr h => cases hb; exact ⟨_, h⟩
  | map h => cases hb; exact ⟨_, h⟩
  | sc h => unfold blkOf at hb; split at hb <;> first | (simp [scalar] at h; done) | cases hb
  | _ => cases hb

theorem loadArg_all {a : AOp Operand} {p : Operand → Prop} {x : Operand} (h : a.all p) (hx : loadArg a = some x) : p x := by
  cases a <;> simp only [loadArg] at hx <;> first | (cases hx; done) | (cases hx; simp only [AOp.all] at h; first | exact h | exact h.1)

/-- a load's value speaks of early blocks alone -/
theorem load_low (hst : Start X ρ0 w0) (inv : SInv X R ρ0 w0 S ρ c w) (h : Next X R S post pre r) (hk : kdOf r.a = .load) (hl : ∀ T L k, lookT (r.a.map (Av (evS r.σ))) X.P T L r.H k = k r.v)
    (hb : ∀ x b, loadArg r.a = some x → blkOf (evS r.σ x) = some b → ∀ k, getP r.H (at_ b) = some k → BLow r.nx b k) : VLow r.nx r.v := by
  obtain ⟨x, hx⟩ := loadArg_some hk
  cases hbl : blkOf (evS r.σ x) with
  | none =>
    obtain ⟨u, _, g⟩ := load_at hst inv h hk (Nat.le_refl _) hl (fun x' b hx' hb' => by rw [hx] at hx'; cases hx'; rw [hbl] at hb'; cases hb')
    exact g.low below_upto
  | some b =>
    cases hg : getP r.H (at_ b) with
    | none =>
      obtain ⟨u, _, g⟩ := load_at hst inv h hk (Nat.le_refl _) hl (fun x' b' hx' hb' k hk' => by rw [hx] at hx'; cases hx'; rw [hbl] at hb'; cases hb'; rw [hg] at hk'; cases hk')
      exact g.low below_upto
    | some k =>
      obtain ⟨ρg, hpg, rg, q1, q2, q3⟩ := hb x b hx hbl k hg
      have hall : r.a.all fun y => VR ρg (evS r.σ y) (Classical.epsilon fun u => VR ρg (evS r.σ y) u) := by
        refine load_all (P := X.P) (T := .e) (L := []) (H := r.H) hk (fun k => hl _ _ k) (fun y hy => ?_) (fun y hy => Classical.epsilon_spec (p := fun u => VR ρg (evS r.σ y) u) ⟨_, .of_flat hy⟩)
        rw [hx] at hy
        cases hy
        have := loadArg_all (reads_all hst inv h) hx
        exact Classical.epsilon_spec (p := fun u => VR ρg (evS r.σ x) u) (ref_exists this.1 hbl q1)
      have h3 : lookT (r.a.map (Av (evS r.σ))) X.P .e [] (insP (at_ b) .e (some k)) kv0 = kv0 r.v := by
        rw [look_load (H := r.H) hk fun x' b' hx' hb' => ?_]
        · exact hl _ _ _
        · rw [hx] at hx'
          cases hx'
          rw [hbl] at hb'
          cases hb'
          rw [getP_insP, hg]
      obtain ⟨v, u, g1, _, g3⟩ := load_run (w := { w with heap := hpg }) (nx := r.nx) hk h.ok.comp hall (single_hr (m := r.nx) (hp := hpg) (fun k' hk' => by cases hk'; exact ⟨rg, q1, q2⟩) q3) (h3.trans rfl)
      have hv : v = r.v := by
        have e : kv0 v = kv0 r.v := g1
        unfold kv0 at e
        simp only [Option.some.injEq, Prod.mk.injEq, St.mk.injEq, Tr.n.injEq, true_and, and_true] at e
        exact e
      rw [hv] at g3
      exact g3.low q3

/-- whose number it is -/
theorem made_in (hst : Start X ρ0 w0) (inv : SInv X R ρ0 w0 S ρ c w) (hch : X.Ch R) {q : Rec} {b : Nat} {rr : Ref} (hq : q ∈ R) (h1 : q.nx ≤ b) (h2 : b < q.nx') (hb : ρ b = some rr) : S q.i := by
  obtain ⟨p, pq, e, k1, k2, k3⟩ := chain_split hch hq
  obtain ⟨l1, l2⟩ := chain_le hst.up k3 k2
  rcases inv.dom b rr hb with h3 | ⟨q2, hq2, hS, h3, h4⟩
  · omega
  · have hq2' := hq2
    rw [e] at hq2'
    rcases List.mem_append.1 hq2' with hm | hm
    · rw [e] at hch
      obtain ⟨p2, g1, g2, _, g4, g5⟩ := chain_post hch q2 hm
      have := ((chain_le hst.up g5 g4).2 q g2).1
      omega
    · rcases List.mem_cons.1 hm with rfl | hm
      · exact hS
      · have := (l2 q2 hm).1
        omega

theorem last_heavy : ∀ {post : List Rec}, (∃ q ∈ post, S q.i ∧ q.hv) → ∃ p1 q p2, post = p1 ++ q :: p2 ∧ S q.i ∧ q.hv ∧ ∀ x ∈ p1, ¬(S x.i ∧ x.hv) := by
  intro post
  induction post with
  | nil => rintro ⟨q, hq, _⟩; simp at hq
  | cons p post ih =>
    intro h
    by_cases hp : S p.i ∧ p.hv
    · exact ⟨[], p, post, rfl, hp.1, hp.2, fun x hx => by simp at hx⟩
    · obtain ⟨q, hq, hS⟩ := h
      rcases List.mem_cons.1 hq with rfl | hq
      · exact absurd hS hp
      · obtain ⟨p1, q', p2, e, g1, g2, g3⟩ := ih ⟨q, hq, hS⟩
        refine ⟨p :: p1, q', p2, by rw [e]; rfl, g1, g2, fun x hx => ?_⟩
        rcases List.mem_cons.1 hx with rfl | hx
        · exact hp
        · exact g3 x hx
end Go.Eng
/- The engine: regions whose order is drawn: one step, in any order. -/
namespace Go.Eng
variable {X : Cx} {S : Nat → Prop} {R post pre : List Rec} {r : Rec} {ρ0 ρ : Rho} {w0 w : World} {c : Act}

theorem writer_val (hone : oneDst X.ops = true) {l : List Rec} {σ : Sig} {D : List Dfd} {H : Heap} {nx : Nat} (hc : X.Ch l) (ha : X.At l σ D H nx) {p : Rec} {t : Nat} (hp : p ∈ l) (hd : p.o.dst = some t) : σ t = p.v := by
  rcases sigma_at hc ha t with ⟨q, hq, e1, e2⟩ | ⟨e1, _⟩
  · obtain ⟨_, _, _, k1, _⟩ := chain_split hc hp
    obtain ⟨_, _, _, k2, _⟩ := chain_split hc hq
    have := chain_uniq hc q hq p hp (one_at hone k2.op k1.op e1 hd)
    subst this
    exact e2
  · exact absurd hd (e1 p hp)

theorem wantS_congr {ops : List Oper} {σ σ' : Sig} {g : Option (Nat × Bool)} (h : ∀ j w q t, g = some (j, w) → ops[j]? = some q → q.dst = some t → σ' t = σ t) : wantS ops σ' g = wantS ops σ g := by
  cases g with
  | none => rfl
  | some p =>
    obtain ⟨j, want⟩ := p
    show (match (ops[j]?).bind (·.dst) with | some t => wantB want (σ' t) | none => false) = (match (ops[j]?).bind (·.dst) with | some t => wantB want (σ t) | none => false)
    cases hb : (ops[j]?).bind (·.dst) with
    | none => rfl
    | some t =>
      obtain ⟨q, hj, hd⟩ := Option.bind_eq_some_iff.1 hb
      show wantB want (σ' t) = wantB want (σ t)
      rw [h j want q t rfl hj hd]

theorem load_op (hst : Start X ρ0 w0) (inv : SInv X R ρ0 w0 S ρ c w) (h : Next X R S post pre r) (hk : kdOf r.a = .load) (hw : wantS X.ops r.σ r.o.guard = true) (hl : ∀ T L k, lookT (r.a.map (Av (evS r.σ))) X.P T L r.H k = k r.v) :
    ∃ u, (execOp c.eval r.o).run X.P w = .ok (.value u) w ∧ VR ρ r.v u ∧ VLow r.nx r.v := by
  obtain ⟨l1, l2⟩ := chain_le hst.up h.chp h.at
  have hld : isLoad (kdOf r.a) = true := by rw [hk]; rfl
  have hnh : ¬ r.hv := by unfold Rec.hv; rw [hk]; simp [isHeavy]
  have hpre : ∀ q ∈ pre, q.hv → S q.i := fun q hq hv => h.rd _ (h.ok.load hld q hq hv)
  have hpreb : ∀ x b, loadArg r.a = some x → blkOf (evS r.σ x) = some b → ∀ k, getP r.H (at_ b) = some k → Blocks S X.H0 pre b k ∧ BLow r.nx b k := by
    intro x b hx hb k hg
    obtain ⟨rr, hrr⟩ := ref_some (loadArg_all (reads_all hst inv h) hx).1 hb
    have h1 := heap_blocks h.chp h.at (b := b) (k := k) hpre (fun q hq _ hlt e => made_in hst inv h.ch (h.sub q hq) (by omega) (by omega) hrr) hg
    exact ⟨h1, blocks_low hst inv h.sub l1 (fun q hq => (l2 q hq).1) h1⟩
  have hlow : VLow r.nx r.v := load_low hst inv h hk hl fun x b hx hb k hg => (hpreb x b hx hb k hg).2
  by_cases hp : ∃ q ∈ post, S q.i ∧ q.hv
  · obtain ⟨p1, q, p2, e, hqS, hqv, hp1⟩ := last_heavy hp
    have eR : R = p1 ++ q :: (p2 ++ r :: pre) := by rw [h.eq, e]; simp
    have hqR : q ∈ R := by rw [eR]; simp
    have hch := h.ch
    rw [eR] at hch
    have hcq := chain_tail hch
    have hrm : r ∈ p2 ++ r :: pre := by simp
    have hbit : bit X.bef q.i r.i = false := by
      cases hb : bit X.bef q.i r.i with
      | false => rfl
      | true => exact absurd (h.cl q hqR hqS _ hb) h.not
    obtain ⟨done, hdone, q', a, t, e1, e2, e3, e4, e5⟩ := hcq.1.again hqv r hrm hld hbit
    rw [h.ok.op] at e1
    cases e1
    have ha := comp_nil h.ok.comp e2 hk
    subst ha
    have hat : X.At (q :: (p2 ++ r :: pre)) (q.σ.set q.o.dst q.v) q.D' q.H' q.nx' := ⟨rfl, rfl, rfl, rfl⟩
    -- the slots that it reads are as they were
    have hslot : ∀ t, t ∈ tmpsOf r.o → q.σ.set q.o.dst q.v t = r.σ t := by
      intro t ht
      rcases sigma_at hcq hat t with ⟨q1, hq1, d1, v1⟩ | ⟨n1, v1⟩
      · obtain ⟨_, _, _, k1, _⟩ := chain_split hcq hq1
        have hb : bit X.bef r.i q1.i = true := by
          rcases still_at e4 ht k1.op d1 with hb | hb
          · exact hb
          · rcases List.mem_cons.1 hq1 with rfl | hq1'
            · rcases hyg_at h.ok.hyg ht k1.op d1 with hb' | hb'
              · exact hb'
              · rw [hbit] at hb'; cases hb'
            · rw [(hdone q1.i).2 ⟨q1, hq1', rfl⟩] at hb; cases hb
        obtain ⟨p, hp, hi⟩ := h.ok.befs _ hb
        have hq1R : q1 ∈ R := by
          rw [eR]
          exact List.mem_append.2 (.inr hq1)
        have := chain_uniq h.ch p (h.sub p hp) q1 hq1R hi
        subst this
        rw [v1]
        exact (writer_val h.one h.chp h.at hp d1).symm
      · rcases sigma_at h.chp h.at t with ⟨q2, hq2, d2, _⟩ | ⟨_, v2⟩
        · exact absurd d2 (n1 q2 (by simp [hq2]))
        · rw [v1, v2]
    have hguard : wantS X.ops (q.σ.set q.o.dst q.v) r.o.guard = wantS X.ops r.σ r.o.guard := by
      refine wantS_congr fun j want qq t hg hj hd => ?_
      obtain ⟨p, hp, hi⟩ := h.ok.befs _ (h.ok.grd j want hg)
      obtain ⟨_, _, _, k1, _⟩ := chain_split h.chp hp
      have ho : p.o = qq := by
        have := k1.op
        rw [hi, hj] at this
        exact (Option.some.inj this).symm
      rw [← ho] at hd
      rw [writer_val h.one hcq hat (by simp [hp]) hd, writer_val h.one h.chp h.at hp hd]
    have hmap : r.a.map (Av (evS (q.σ.set q.o.dst q.v))) = r.a.map (Av (evS r.σ)) := by
      refine map_congr (all_mono (fun x hx => ?_) (comp_operands h.ok.comp))
      cases x with
      | tmp t =>
        show Od.cst (q.σ.set q.o.dst q.v t) = Od.cst (r.σ t)
        rw [hslot t (List.mem_filterMap.2 ⟨_, hx, rfl⟩)]
      | _ => rfl
    obtain ⟨u, hlu, hveq⟩ := e5 (hguard.trans hw)
    rw [writer_val h.one hcq hat (List.mem_cons_of_mem _ hrm) e3] at hveq
    have := veq_sound hveq
    subst this
    rw [hmap] at hlu
    have hle : r.nx ≤ q.nx' := by
      have g1 := h.le hst.up
      have g2 := ((chain_le hst.up hcq.2.2 hcq.2.1).2 r hrm).1
      have g3 := rec_up hst.up hcq.1
      omega
    obtain ⟨u, g1, g2⟩ := load_at hst inv h hk hle hlu fun x b hx hb k hg => by
      have hB : Blocks S X.H0 R b k := by
        rw [eR]
        exact blocks_skip hp1 (.inl ⟨hqS, hqv, hg⟩)
      obtain ⟨rr, q1, q2⟩ := inv.blk b k hB
      exact ⟨rr, q1, q2, inv.hlow q hqR hqS hqv b k hg⟩
    exact ⟨u, g1, g2.mono upto_ext, hlow⟩
  · have hno : ∀ q ∈ post, ¬(S q.i ∧ q.hv) := fun q hq g => hp ⟨q, hq, g⟩
    obtain ⟨u, g1, g2⟩ := load_at hst inv h hk (Nat.le_refl _) hl fun x b hx hb k hg => by
      obtain ⟨h1, h2⟩ := hpreb x b hx hb k hg
      have hB : Blocks S X.H0 R b k := by
        rw [h.eq]
        exact blocks_skip hno (.inr (.inr ⟨fun g => hnh g.2, h1⟩))
      obtain ⟨rr, q1, q2⟩ := inv.blk b k hB
      exact ⟨rr, q1, q2, h2⟩
    exact ⟨u, g1, g2.mono upto_ext, hlow⟩

/-- the slots that an operation reads -/
def readsOf (ops : List Oper) (o : Oper) : List Nat := tmpsOf o ++ (match o.guard with
  | some (j, _) => ((ops[j]?).bind (·.dst)).toList
  | none => [])

theorem env_filtered {env : Env} {T : Tr Value} {L : List Value} {b : AOp Od} {g : Option (Nat × Bool)} (hst : Start X ρ0 w0) (inv : SInv X R ρ0 w0 S ρ c w) (h : Next X R S post pre r) (ht : r.a.trav (cv X.kept X.n env) = some b) (hg : guardC X.ops env r.o.guard = some g)
    (hE : EnvS X.kept r.σ env T L) (hdom : ∀ t od, (t, od) ∈ env → ∃ q ∈ pre, q.o.dst = some t) :
    ∃ kept' env', r.a.trav (cv kept' X.n env') = some b ∧ guardC X.ops env' r.o.guard = some g ∧ EnvR (ρ.upto r.nx) kept' X.n env' T L c := by
  refine ⟨X.kept.filter (isIn (readsOf X.ops r.o)), env.filter (fun p => isIn (readsOf X.ops r.o) p.1), ?_, ?_, ?_⟩
  · rw [← ht]
    refine trav_congr (all_mono (fun x hx => ?_) (comp_operands h.ok.comp))
    cases x with
    | tmp t =>
      have hm : isIn (readsOf X.ops r.o) t = true := isIn_mem.2 (List.mem_append.2 (.inl (List.mem_filterMap.2 ⟨_, hx, rfl⟩)))
      simp only [cv]
      rw [find_filter hm, isIn_filter hm]
    | _ => rfl
  · rw [← hg]
    cases hgd : r.o.guard with
    | none => rfl
    | some p =>
      obtain ⟨j, want⟩ := p
      simp only [guardC]
      cases hj : X.ops[j]? with
      | none => rfl
      | some q =>
        simp only
        cases hd : q.dst with
        | none => rfl
        | some t =>
          have hm : isIn (readsOf X.ops r.o) t = true := isIn_mem.2 (List.mem_append.2 (.inr (by simp [hgd, hj, hd])))
          simp only
          rw [find_filter hm]
  · have key : ∀ t, isIn (readsOf X.ops r.o) t = true → ((∃ q ∈ pre, q.o.dst = some t) ∨ isIn X.kept t = true) → VR (ρ.upto r.nx) (r.σ t) (c.tmps.getD t undef) := by
      intro t hm hk
      have hv : VR ρ (r.σ t) (c.tmps.getD t undef) ∧ VLow r.nx (r.σ t) := by
        rcases List.mem_append.1 (isIn_mem.1 hm) with hm | hm
        · exact reads_tmp hst inv h hm hk
        · cases hgd : r.o.guard with
          | none => rw [hgd] at hm; simp at hm
          | some p =>
            obtain ⟨j, want⟩ := p
            rw [hgd] at hm
            simp only [Option.mem_toList] at hm
            obtain ⟨q, hj, hd⟩ := Option.bind_eq_some_iff.1 hm
            exact reads_guard hst inv h hgd hj hd
      exact hv.2.cut hv.1
    refine ⟨inv.size, fun t od hf => ?_, fun t hk => ?_⟩
    · have hm := find_mem hf
      rw [List.mem_filter] at hm
      rw [hE.env t od hm.1]
      exact key t hm.2 (.inl (hdom t od hm.1))
    · have hk' := isIn_mem.1 hk
      rw [List.mem_filter] at hk'
      rw [hE.kept t (isIn_mem.2 hk'.1)]
      exact key t hk'.2 (.inr (isIn_mem.2 hk'.1))

/-- one operation, in any order -/
theorem draw_step (hst : Start X ρ0 w0) (hcall : CallOk X.P X.rn) (hins : InsOk X.P X.ins) (inv : SInv X R ρ0 w0 S ρ c w) (h : Next X R S post pre r) {next : Act → World → Prop} {Q : Exit → Act → World → Prop}
    (hn : ∀ ρ' c' w', SInv X R ρ0 w0 (More S r) ρ' c' w' → next c' w') :
    (if Region.wanted r.o (yielded X.ops.toArray c.tmps) then r.o.wp X.P c w next Q ∨ (r.o.asks X.P c w ∧ LetsOut Q) else next (c.put r.o.dst undef) w) := by
  obtain ⟨env, T, L, b, g, ht, hg, hE, hdom, hs⟩ := h.ok.step
  by_cases hh : r.hv
  · obtain ⟨kept', env', ht', hg', hR⟩ := env_filtered hst inv h ht hg hE hdom
    refine step_run hst.eq hcall hins h.ok.comp ht' hg' hR (heavy_dfr hst inv h hh).1 (heavy_hr hst inv h hh) hs fun ρ' u w' c' hv hw hD hc => ?_
    obtain ⟨ρ2, hi⟩ := inv_heavy hst inv h hh hv hw hD hc
    exact hn ρ2 _ w' hi
  · rw [draw_guard hst inv h, ← guard_S hg hE]
    have hall := reads_all hst inv h
    have hwS := guard_S hg hE
    have hP := hst.eq
    have hu := hst.up
    generalize hv : r.v = v at hs
    generalize hDd : r.D' = D' at hs
    generalize hH : r.H' = H' at hs
    generalize hx : r.nx' = nx' at hs
    cases hs with
    | alias od hb hm hg0 =>
      rw [hb] at ht
      obtain ⟨x, hax, hcx⟩ := trav_mov ht
      have hw : wanted L g = true := by rw [hg0]; rfl
      rw [if_pos hw]
      refine .inl ?_
      unfold Oper.wp
      rw [move_run hm h.ok.comp hax]
      rw [hax] at hall
      have hvx : r.v = evS r.σ x := hv.trans (cv_S hE hcx)
      refine hn ρ _ w (quiet_light inv h hh (fun _ => by omega) (.refl w) ?_ ?_ rfl rfl)
      · rw [hvx]; exact hall.1
      · rw [hvx, hx]; exact hall.2
    | over hw =>
      rw [hw, if_neg (by simp)]
      exact hn ρ _ w (quiet_light inv h hh (fun _ => by omega) (.refl w) (by rw [hv]; exact VR.undef) (by rw [hv]; exact VLow.none) rfl rfl)
    | did hw _ _ _ _ hd hdd =>
      rw [hw, if_pos rfl]
      refine .inl ?_
      unfold Oper.wp
      have hkb : kdOf b = kdOf r.a := kdOf_trav (.loc 0) ht
      have hact := did_act (plain_of_kd (by rw [hkb]; exact hh)) hd
      rw [hP] at hact
      cases hk : kdOf r.a with
      | pure => exact pure_run hst inv h ht hE hk (by rw [hv, hH, hx]; exact hact) hn
      | make => exact make_run hst inv h ht hE hk (by rw [hv, hH, hx]; exact hact) hn
      | heavy => exact absurd (show r.hv by unfold Rec.hv; rw [hk]; rfl) hh
      | load =>
        obtain ⟨e1, e2, e3, _⟩ := act_load (hkb.trans hk) hact
        obtain ⟨u, g1, g2, g3⟩ := load_op hst inv h hk (hwS.symm.trans hw) (by rw [hv]; exact look_S ht hE e3)
        rw [g1]
        refine hn ρ _ w (quiet_light inv h hh (fun hm => ?_) (.refl w) g2 ?_ rfl rfl)
        · omega
        · rw [hx, e2]; exact g3
end Go.Eng
/- The engine: regions whose order is drawn, as a whole. -/
namespace Go.Eng
variable {X : Cx} {S : Nat → Prop} {R post pre : List Rec} {r : Rec} {ρ0 ρ : Rho} {w0 w : World} {c : Act}

/-! ### what each operation is behind -/
theorem fold_bit {acc : List Nat} {j : Nat} : ∀ (l : List Edge) (s : Nat), Nat.testBit (l.foldl (fun s e => bif Region.binds .any e then s ||| 2 ^ e.on ||| acc.getD e.on 0 else s) s) j = true ↔
    Nat.testBit s j = true ∨ ∃ e ∈ l, Region.binds .any e = true ∧ (j = e.on ∨ Nat.testBit (acc.getD e.on 0) j = true) := by
  intro l
  induction l with
  | nil => intro s; simp
  | cons e l ih =>
    intro s
    rw [List.foldl_cons, ih]
    cases hb : Region.binds .any e with
    | false =>
      simp only [cond_false, List.mem_cons, exists_eq_or_imp, hb, Bool.false_eq_true, false_and, false_or]
    | true =>
      simp only [cond_true, List.mem_cons, exists_eq_or_imp, hb, true_and]
      rw [Nat.testBit_or, Bool.or_eq_true, bit_or]
      constructor
      · rintro ((h | h) | h)
        · rcases h with h | h
          · exact .inl h
          · exact .inr (.inl (.inl h))
        · exact .inr (.inl (.inr h))
        · exact .inr (.inr h)
      · rintro (h | h)
        · exact .inl (.inl (.inl h))
        · rcases h with (h | h) | h
          · exact .inl (.inl (.inr h))
          · exact .inl (.inr h)
          · exact .inr h

def before1 (acc : List Nat) (o : Oper) : Nat := o.after.toList.foldl (fun s e => bif Region.binds .any e then s ||| 2 ^ e.on ||| acc.getD e.on 0 else s) 0

theorem befores_from : ∀ (ops : List Oper) (acc : List Nat), ∃ l, ops.foldl (fun acc o => acc ++ [before1 acc o]) acc = acc ++ l ∧ l.length = ops.length ∧
    ∀ i o, ops[i]? = some o → l[i]? = some (before1 (acc ++ l.take i) o) := by
  intro ops
  induction ops with
  | nil => intro acc; exact ⟨[], by simp, rfl, fun i o h => by simp at h⟩
  | cons o ops ih =>
    intro acc
    obtain ⟨l, h1, h2, h3⟩ := ih (acc ++ [before1 acc o])
    refine ⟨before1 acc o :: l, by rw [List.foldl_cons, h1]; simp, by simp [h2], fun i q h => ?_⟩
    cases i with
    | zero =>
      simp at h
      subst h
      simp
    | succ i =>
      simp only [List.getElem?_cons_succ] at h ⊢
      rw [h3 i q h]
      simp

theorem bef_bit {ops : List Oper} {i j : Nat} {o : Oper} (ho : ops[i]? = some o) : bit (befores ops) i j = true ↔ ∃ e ∈ o.after.toList, Region.binds .any e = true ∧ (j = e.on ∨ (e.on < i ∧ bit (befores ops) e.on j = true)) := by
  obtain ⟨l, h1, h2, h3⟩ := befores_from ops []
  have hb : befores ops = l := by
    have : befores ops = ops.foldl (fun acc o => acc ++ [before1 acc o]) [] := rfl
    rw [this, h1]
    simp
  have hi := h3 i o ho
  unfold bit
  rw [hb]
  have hg : l.getD i 0 = before1 (l.take i) o := by
    rw [List.getD_eq_getElem?_getD, hi]
    simp
  rw [hg]
  unfold before1
  rw [fold_bit]
  have ht : ∀ k, (l.take i).getD k 0 = if k < i then l.getD k 0 else 0 := by
    intro k
    rw [List.getD_eq_getElem?_getD, List.getD_eq_getElem?_getD, List.getElem?_take]
    split <;> simp
  constructor
  · rintro (h | ⟨e, he, hbd, h⟩)
    · simp at h
    · refine ⟨e, he, hbd, h.imp id fun h => ?_⟩
      rw [ht] at h
      split at h
      · exact ⟨by assumption, h⟩
      · simp at h
  · rintro ⟨e, he, hbd, h⟩
    refine .inr ⟨e, he, hbd, h.imp id fun h => ?_⟩
    rw [ht, if_pos h.1]
    exact h.2

/-- what all of these are behind, is among them -/
theorem bef_closed {ops : List Oper} {S : Nat → Prop} (h : ∀ i o, S i → ops[i]? = some o → ∀ e ∈ o.after.toList, Region.binds .any e = true → S e.on) (hin : ∀ i, S i → ∃ o, ops[i]? = some o) :
    ∀ i o, ops[i]? = some o → (∀ e ∈ o.after.toList, Region.binds .any e = true → S e.on) → ∀ j, bit (befores ops) i j = true → S j := by
  intro i
  induction i using Nat.strongRecOn with
  | _ i ih =>
    intro o ho ha j hj
    obtain ⟨e, he, hbd, h1⟩ := (bef_bit ho).1 hj
    rcases h1 with rfl | ⟨hlt, h1⟩
    · exact ha e he hbd
    · have hS := ha e he hbd
      obtain ⟨o', ho'⟩ := hin _ hS
      exact ih e.on hlt o' ho' (fun e' he' hb' => h _ _ hS ho' e' he' hb') j h1

/-- all has been done -/
theorem draw_done {T' : Tr Value} {σ' : Sig} {D' : List Dfd} {H' : Heap} {nx' : Nat} (hst : Start X ρ0 w0) (inv : SInv X R ρ0 w0 S ρ c w) (hch : X.Ch R) (hat : X.At R σ' D' H' nx') (hT : ∀ t, isIn X.kept t = true → (getP T' (slotPath t)).getD undef = σ' t) (hall : ∀ q ∈ R, S q.i) :
    OutR ρ0 X.H0 X.nx0 w0 X.kept X.n (.normal, ⟨T', D', H', nx'⟩) .normal c w := by
  obtain ⟨l1, l2⟩ := chain_le hst.up hch hat
  have hB : ∀ b k, getP H' (at_ b) = some k → Blocks S X.H0 R b k := fun b k hb => heap_blocks hch hat (fun q hq _ => hall q hq) (fun q hq _ _ _ => hall q hq) hb
  refine ⟨ρ, ⟨⟨fun b k hb => inv.blk b k (hB b k hb), fun b b' k k' s s' hb hb' hm hs hs' e => inv.inj b b' k k' s s' (hB _ _ hb) (hB _ _ hb') hm hs hs' e, fun b hb => ?_⟩,
    ⟨inv.ext, ?_, fun b k hb hm => inv.ro b k (hB b k hb) hm, inv.frame, inv.wsize, inv.os, inv.tape, inv.output⟩, l1, inv.low⟩, ⟨⟨inv.size, fun t od h => by simp [find] at h, fun t ht => ?_⟩, ?_⟩, trivial⟩
  · cases hr : ρ b with
    | none => rfl
    | some s =>
      exfalso
      have hb' : nx' ≤ b := hb
      rcases inv.dom b s hr with h1 | ⟨q, hq, _, _, h1⟩
      · omega
      · have := (l2 q hq).1
        omega
  · rintro k ⟨b, x, s, hb, hm, hs, rfl⟩
    exact inv.own b x s (hB b x hb) hm hs
  · show VR ρ ((getP T' (slotPath t)).getD undef) _
    rw [hT t ht]
    rcases sigma_at hch hat t with ⟨q, hq, d, v⟩ | ⟨n, v⟩
    · rw [v]; exact inv.val q hq (hall q hq) t d
    · rw [v]; exact inv.kep t ht fun q hq _ => n q hq
  · obtain ⟨D, g1, g2⟩ := inv.dfr
    have := dat_uniq g1 (dat_at hch hat fun q hq _ => hall q hq)
    rw [this] at g2
    exact g2

theorem SInv.congr {S' : Nat → Prop} (h : ∀ i, S' i ↔ S i) (inv : SInv X R ρ0 w0 S ρ c w) : SInv X R ρ0 w0 S' ρ c w := by
  have : S' = S := funext fun i => propext (h i)
  rw [this]
  exact inv

/-- all orders -/
theorem draw_any {Q : Exit → Act → World → Prop} (hst : Start X ρ0 w0) (hcall : CallOk X.P X.rn) (hins : InsOk X.P X.ins) (hch : X.Ch R) (hone : oneDst X.ops = true) (hbef : X.bef = befores X.ops) (hR : ∀ i o, X.ops[i]? = some o → ∃ q ∈ R, q.i = i)
    (hfin : ∀ S ρ c w, SInv X R ρ0 w0 S ρ c w → (∀ q ∈ R, S q.i) → Q .normal c w) : ∀ (fuel : Nat) (rest : List Nat) (listed : Array Bool) (ρ : Rho) (c : Act) (w : World), rest.Nodup → rest.length = fuel → listed.size = X.ops.length →
      (∀ i, i < X.ops.length → (listed.getD i true = false ↔ i ∈ rest)) → (∀ i ∈ rest, i < X.ops.length) → (∀ i o, listed.getD i false = true → X.ops[i]? = some o → ∀ e ∈ o.after.toList, Region.binds .any e = true → listed.getD e.on false = true) →
      SInv X R ρ0 w0 (fun i => listed.getD i false = true) ρ c w → wpAny X.P .any X.ops.toArray Q fuel listed c w := by
  -- where nothing is ready, all has been done
  have hready : ∀ (listed : Array Bool), listed.size = X.ops.length → Region.ready .any X.ops.toArray listed = [] → ∀ q ∈ R, listed.getD q.i false = true := by
    intro listed hsz hno
    have key : ∀ l : List Rec, X.Ch l → (∀ q ∈ l, q ∈ R) → ∀ q ∈ l, listed.getD q.i false = true := by
      intro l
      induction l with
      | nil => intro _ _ q hq; simp at hq
      | cons p l ih =>
        intro hc hl q hq
        rcases List.mem_cons.1 hq with rfl | hq
        · cases hb : listed.getD q.i false with
          | true => rfl
          | false =>
            exfalso
            have hlt : q.i < X.ops.length := (List.getElem?_eq_some_iff.1 hc.1.op).1
            have hm : q.i ∈ Region.ready .any X.ops.toArray listed := by
              refine mem_ready.2 ⟨?_, q.o, by simpa using hc.1.op, fun e he hbd => ?_⟩
              · have hlt' : q.i < listed.size := by omega
                simp only [Array.getD_eq_getD_getElem?, Array.getElem?_eq_getElem hlt', Option.getD_some] at hb ⊢
                exact hb
              · have hbit : bit X.bef q.i e.on = true := by
                  rw [hbef]
                  exact (bef_bit hc.1.op).2 ⟨e, Array.mem_def.1 he, hbd, .inl rfl⟩
                obtain ⟨p, hp, hi⟩ := hc.1.befs _ hbit
                rw [← hi]
                exact ih hc.2.2 (fun x hx => hl x (List.mem_cons_of_mem _ hx)) p hp
            rw [hno] at hm
            simp at hm
        · exact ih hc.2.2 (fun x hx => hl x (List.mem_cons_of_mem _ hx)) q hq
    exact key R hch fun q hq => hq
  intro fuel
  induction fuel with
  | zero =>
    intro rest listed ρ c w hnd hlen hsz hin hlt hcl inv
    have hr0 : rest = [] := List.eq_nil_of_length_eq_zero hlen
    subst hr0
    have hno : Region.ready .any X.ops.toArray listed = [] := by
      cases hrd : Region.ready .any X.ops.toArray listed with
      | nil => rfl
      | cons j l =>
        exfalso
        have hj : j ∈ Region.ready .any X.ops.toArray listed := by rw [hrd]; exact List.mem_cons_self
        obtain ⟨h1, o, h2, _⟩ := mem_ready.1 hj
        have hjl : j < X.ops.length := by
          have := (Array.getElem?_eq_some_iff.1 h2).1
          simpa using this
        have := (hin j hjl).1 h1
        simp at this
    exact ⟨hno, hfin _ ρ c w inv (hready listed hsz hno)⟩
  | succ fuel ih =>
    intro rest listed ρ c w hnd hlen hsz hin hlt hcl inv
    refine ⟨fun hno => hfin _ ρ c w inv (hready listed hsz hno), fun i hi => ?_⟩
    obtain ⟨h1, o, h2, h3⟩ := mem_ready.1 hi
    have ho : X.ops[i]? = some o := by simpa using h2
    have hil : i < X.ops.length := (List.getElem?_eq_some_iff.1 ho).1
    obtain ⟨r, hr, rfl⟩ := hR i o ho
    obtain ⟨post, pre, e, k1, k2, k3⟩ := chain_split hch hr
    have hro : r.o = o := by
      have := k1.op
      rw [ho] at this
      exact (Option.some.inj this).symm
    have hnl : ¬ listed.getD r.i false = true := by
      have hlt' : r.i < listed.size := by omega
      simp only [Array.getD_eq_getD_getElem?, Array.getElem?_eq_getElem hlt', Option.getD_some] at h1 ⊢
      simp [h1]
    have hexists : ∀ j, listed.getD j false = true → ∃ o, X.ops[j]? = some o := by
      intro j hj
      have hjs : j < listed.size := by
        rcases Nat.lt_or_ge j listed.size with h | h
        · exact h
        · rw [Array.getD_eq_getD_getElem?, Array.getElem?_eq_none h] at hj; simp at hj
      exact ⟨X.ops[j]'(by omega), List.getElem?_eq_getElem (by omega)⟩
    have hnx : Next X R (fun i => listed.getD i false = true) post pre r := by
      refine ⟨e, hch, hone, hnl, fun q hq hS j hj => ?_, fun j hj => ?_⟩
      · obtain ⟨_, _, _, g1, _⟩ := chain_split hch hq
        rw [hbef] at hj
        exact bef_closed hcl hexists q.i q.o g1.op (hcl q.i q.o hS g1.op) j hj
      · rw [hbef] at hj
        exact bef_closed hcl hexists r.i o ho (fun e he hbd => h3 e (Array.mem_def.2 he) hbd) j hj
    have hop : X.ops.toArray[r.i]? = some r.o := by rw [hro]; exact h2
    unfold wpOp
    rw [hop]
    refine draw_step hst hcall hins inv hnx fun ρ' c' w' inv' => ?_
    have hset : ∀ j, (listed.setIfInBounds r.i true).getD j false = true ↔ More (fun i => listed.getD i false = true) r j := by
      intro j
      by_cases hj : r.i = j
      · subst hj
        have hlt' : r.i < listed.size := by omega
        constructor
        · intro _; exact .inr rfl
        · intro _
          simp [hlt']
      · rw [getD_set_ne false hj]
        constructor
        · intro h; exact .inl h
        · rintro (h | h)
          · exact h
          · exact absurd h.symm hj
    have hri : r.i ∈ rest := (hin r.i hil).1 h1
    refine ih (rest.erase r.i) _ ρ' c' w' (hnd.erase _) (by rw [List.length_erase_of_mem hri]; omega) (by simpa using hsz) (fun j hj => ?_) (fun j hj => hlt j (List.mem_of_mem_erase hj)) (fun j q hj hq e he hbd => ?_) (inv'.congr hset)
    · rw [hnd.mem_erase_iff]
      by_cases hjr : r.i = j
      · subst hjr
        have hlt' : r.i < listed.size := by omega
        simp [hlt']
      · rw [getD_set_ne true hjr, hin j hj]
        exact ⟨fun h => ⟨fun e => hjr e.symm, h⟩, fun h => h.2⟩
    · rw [hset] at hj
      rw [hset]
      rcases hj with hj | rfl
      · exact .inl (hcl j q hj hq e he hbd)
      · rw [ho] at hq
        cases hq
        exact .inl (h3 e (Array.mem_def.2 he) hbd)

theorem blocks_none {H0 : Heap} {b : Nat} {k : Blk} : ∀ {R : List Rec}, Blocks (fun _ => False) H0 R b k → getP H0 (at_ b) = some k := by
  intro R
  induction R with
  | nil => intro h; exact h
  | cons q R ih =>
    rintro (⟨h, _⟩ | ⟨h, _⟩ | ⟨_, h⟩)
    · exact h.elim
    · exact h.elim
    · exact ih h
theorem dat_none {D0 : List Dfd} : ∀ {R : List Rec}, Dat (fun _ => False) D0 R D0 := by
  intro R
  induction R with
  | nil => rfl
  | cons q R ih => exact .inr ⟨fun g => g.1, ih⟩

theorem draw_ok {P : Program} {ins kept : List Nat} {n : Nat} {A : AProg} {rn : Run} {id : Nat} {ops : Array Oper} {l : List (AO × List Again)} (hA : A.P = P) (hcall : CallOk P rn) (hins : InsOk P ins) (hup : UpRun rn) (hm : P.follows .mixedOrders = true) (h : compileOps P ins kept n true ops.toList = some l) :
    CodeOk P ins kept n (cDraw A rn l) (.region id ops true) := by
  intro T D H nx o hr ρ a w hH ha
  unfold compileOps at h
  simp only [cond_true, Option.map_eq_some_iff] at h
  obtain ⟨s', hs, rfl⟩ := h
  obtain ⟨hone, hs⟩ := bif_both hs
  obtain ⟨s, hs1, hs2⟩ := Option.bind_eq_some_iff.1 hs
  obtain ⟨hall, hs2⟩ := bif_both hs2
  cases hs2
  obtain ⟨o1, hr1, hr2⟩ := bd_eq (show bd (runOps A rn s'.out.reverse T [] D H nx) drawK = some o from hr)
  obtain ⟨rfl, hnorm⟩ := drawK_eq hr2
  obtain ⟨new, hout, htr⟩ := lay_trace (A := A) (rn := rn) (σ0 := fun t => (getP T (slotPath t)).getD undef) (D0 := D) (H0 := H) (nx0 := nx) hA _ _ _ hs1
  have hn : s'.out.reverse = new := by rw [hout]; simp [laid0]
  rw [hn] at hr1
  obtain ⟨R, T', σ', D', H', nx', q1, q2, q3, q4, q5⟩ := htr [] T [] D H nx _ (fun t => (getP T (slotPath t)).getD undef) hr1 ⟨fun t od h => by simp [laid0] at h, fun t _ => rfl⟩
    ⟨fun j => by simp [laid0], fun q hq => by simp at hq, fun q hq => by simp at hq, fun q hq => by simp at hq, fun j hj => by simp [laid0] at hj, fun t od h => by simp [laid0] at h⟩ trivial ⟨rfl, rfl, rfl, rfl⟩ (fun ch e => by rw [hnorm] at e; cases e)
  let X : Cx := ⟨P, A, rn, ins, kept, n, ops.toList, befores ops.toList, fun t => (getP T (slotPath t)).getD undef, D, H, nx⟩
  let w1 : World := { w with drawn := w.drawn + 1 }
  have hst : Start X ρ w1 := ⟨hH, fun t ht => ⟨ρ, _, ha.env.kept t ht, hH.new⟩, ⟨ρ, _, ha.dfr, hH.new⟩, hup, hA⟩
  have hinit : SInv X R ρ w1 (fun _ => False) ρ a w1 := by
    refine ⟨fun b r hb => ?_, ha.env.size, fun q hq h => h.elim, fun q hq h => h.elim, fun t ht _ => ha.env.kept t ht, fun b k hb => hH.blk b k (blocks_none hb), fun b b' k k' s s' hb hb' hm hs hs' e => hH.inj b b' k k' s s' (blocks_none hb) (blocks_none hb') hm hs hs' e,
      fun q hq h => h.elim, fun q hq h => h.elim, ⟨D, dat_none, ha.dfr⟩, fun q hq h => h.elim, .refl ρ, fun _ _ => rfl, fun b k s hb hm hs => .inl ⟨b, k, s, blocks_none hb, hm, hs, rfl⟩, fun b k hb _ => blocks_none hb, fun _ _ _ => rfl, Nat.le_refl _, rfl, rfl, rfl⟩
    rcases Nat.lt_or_ge b nx with h1 | h1
    · exact .inl h1
    · rw [hH.new b h1] at hb; cases hb
  refine wp_region_any hm ?_
  have hsz : ops.size = ops.toList.length := by simp
  have hrep : ∀ i, (Array.replicate ops.size false).getD i false = false := by
    intro i
    rw [Array.getD_eq_getD_getElem?, Array.getElem?_replicate]
    split <;> rfl
  have := draw_any (X := X) (R := R) (ρ0 := ρ) (w0 := w1) (Q := OutR ρ H nx w kept n o1) hst hcall hins q2 hone rfl (fun i q hq => ?_) (fun S ρ' c w' inv hS => ?_) ops.size (List.range ops.size) (Array.replicate ops.size false) ρ a w1 List.nodup_range (by simp) (by simp [X]) (fun i hi => ?_) (fun i hi => ?_) (fun i q hi => ?_) (hinit.congr fun i => by rw [hrep]; simp)
  · have e : X.ops.toArray = ops := by simp [X]
    rw [e] at this
    exact this
  · have hi : i < ops.toList.length := (List.getElem?_eq_some_iff.1 hq).1
    have := List.all_eq_true.1 hall i (List.mem_range.2 hi)
    exact (q1.done i).1 this
  · have hd := draw_done hst inv q2 q3 q4 hS
    rw [q5]
    exact OutR.trans (w1 := w1) ⟨hH, .drew ρ H w (w.drawn + 1), Nat.le_refl _, fun _ _ => rfl⟩ hd
  · have hi' : i < ops.size := by simpa [X] using hi
    rw [List.mem_range]
    refine ⟨fun _ => hi', fun _ => ?_⟩
    rw [Array.getD_eq_getD_getElem?, Array.getElem?_replicate, if_pos hi']
    rfl
  · rw [List.mem_range] at hi
    simpa [X] using hi
  · rw [hrep] at hi
    cases hi
end Go.Eng
/- The engine: what a function gives back. -/
namespace Go.Eng

theorem Sem.bind_pure' {α : Type} (x : Sem α) : Sem.bind x Sem.pure = x := by
  induction x with
  | pure a => rfl
  | halt h => rfl
  | load m a k ih => exact congrArg (Sem.load m a) (funext ih)
  | store m a v k ih => exact congrArg (Sem.store m a v) ih
  | new o k ih => exact congrArg (Sem.new o) (funext ih)
  | shape r k ih => exact congrArg (Sem.shape r) (funext ih)
  | freeze a n k ih => exact congrArg (Sem.freeze a n) ih
  | frozen a k ih => exact congrArg (Sem.frozen a) (funext ih)
  | getObj r k ih => exact congrArg (Sem.getObj r) (funext ih)
  | setObj r o k ih => exact congrArg (Sem.setObj r o) ih
  | choose q k ih => exact congrArg (Sem.choose q) (funext ih)
  | sys c k ih => exact congrArg (Sem.sys c) (funext ih)
  | program k ih => exact congrArg Sem.program (funext ih)
  | mark m k ih => exact congrArg (Sem.mark m) ih

theorem Sem.bind_assoc' {α β γ : Type} (x : Sem α) (f : α → Sem β) (g : β → Sem γ) : Sem.bind (Sem.bind x f) g = Sem.bind x fun a => Sem.bind (f a) g := by
  induction x with
  | pure a => rfl
  | halt h => rfl
  | load m a k ih => exact congrArg (Sem.load m a) (funext ih)
  | store m a v k ih => exact congrArg (Sem.store m a v) ih
  | new o k ih => exact congrArg (Sem.new o) (funext ih)
  | shape r k ih => exact congrArg (Sem.shape r) (funext ih)
  | freeze a n k ih => exact congrArg (Sem.freeze a n) ih
  | frozen a k ih => exact congrArg (Sem.frozen a) (funext ih)
  | getObj r k ih => exact congrArg (Sem.getObj r) (funext ih)
  | setObj r o k ih => exact congrArg (Sem.setObj r o) ih
  | choose q k ih => exact congrArg (Sem.choose q) (funext ih)
  | sys c k ih => exact congrArg (Sem.sys c) (funext ih)
  | program k ih => exact congrArg Sem.program (funext ih)
  | mark m k ih => exact congrArg (Sem.mark m) ih

theorem Sem.lawful : LawfulMonad Sem := LawfulMonad.mk' Sem (fun x => Sem.bind_pure' x) (fun _ _ => rfl) (fun x f g => Sem.bind_assoc' x f g)

variable {P : Program} {w : World}

theorem run_mapML {α β : Type} {f : α → Sem β} : ∀ {l : List α} {r : List β}, l.length = r.length → (∀ (i : Nat) (x : α) (y : β), l[i]? = some x → r[i]? = some y → (f x).run P w = .ok y w) → (l.mapM f).run P w = .ok r w := by
  haveI := Sem.lawful
  intro l
  induction l with
  | nil =>
    intro r hl _
    cases r with
    | nil => rfl
    | cons => simp at hl
  | cons x l ih =>
    intro r hl h
    cases r with
    | nil => simp at hl
    | cons y r =>
      have h0 := h 0 x y rfl rfl
      have h1 := ih (by simpa using hl) fun i x y hx hy => h (i + 1) x y (by simpa using hx) (by simpa using hy)
      rw [List.mapM_cons]
      simp only [Sem.run_bind, h0, Result.andThen_ok, h1, Sem.run_pure]

theorem run_mapMA {α β : Type} {f : α → Sem β} {l : Array α} {r : List β} (hl : l.toList.length = r.length) (h : ∀ (i : Nat) (x : α) (y : β), l.toList[i]? = some x → r[i]? = some y → (f x).run P w = .ok y w) : (l.mapM f).run P w = .ok ⟨r⟩ w := by
  haveI := Sem.lawful
  rw [Array.mapM_eq_mapM_toList]
  have := run_mapML hl h
  show (Sem.bind (l.toList.mapM f) fun a => Sem.pure a.toArray).run P w = _
  rw [show (Sem.bind (l.toList.mapM f) fun a => Sem.pure a.toArray) = (do let a ← l.toList.mapM f; pure a.toArray) from rfl]
  simp only [Sem.run_bind, this, Result.andThen_ok, Sem.run_pure]

variable {ρ : Rho} {T : Tr Value} {H : Heap} {nx : Nat} {kept : List Nat} {n : Nat} {a : Act}

/-- a result's variable, read -/
def resSem (tmps : Array Value) : ResultVar → Sem Value
  | .tmp t => pure (tmps.getD t undef)
  | .cell b t => do loadVar t (← asAddr (tmps.getD b undef))

/-- one result -/
theorem res_ok {x : ResultVar} {y : Od × Option (Option Nat)} {k : Value → Option CRet} {c : CRet} (hH : HR ρ H nx w.heap) (he : EnvR ρ kept n [] T [] a) (hc : compileResult P kept n x = some y) (h : resK T H y k = some c) :
    ∃ v u, k v = some c ∧ VR ρ v u ∧ (resSem a.tmps x).run P w = .ok u w := by
  cases x with
  | tmp t =>
    simp only [compileResult] at hc
    obtain ⟨hc1, hc2⟩ := bif_both hc
    cases hc2
    simp only [Bool.and_eq_true] at hc1
    have h' : bd (getP T (slotPath t)) k = some c := h
    obtain ⟨v, hv, h1⟩ := bd_eq h'
    have := he.kept t hc1.2
    rw [hv] at this
    exact ⟨v, _, h1, this, rfl⟩
  | cell b t =>
    simp only [compileResult] at hc
    obtain ⟨hc1, hc2⟩ := bif_both hc
    simp only [Bool.and_eq_true] at hc1
    obtain ⟨g, hg, rfl⟩ := Option.map_eq_some_iff.1 hc2
    have hk := he.kept b hc1.2
    have h' : (match getP T (slotPath b) with
      | some (.pointer (some ⟨b, o, none⟩)) => match getP H (at_ b) with
        | some (.cells cs) => bd (partOf cs o g) k
        | _ => none
      | _ => none) = some c := h
    split at h'
    · rename_i b' o hb
      rw [hb] at hk
      split at h'
      · rename_i cs hcs
        obtain ⟨v, hv, h1⟩ := bd_eq h'
        have hk' : VR ρ (.pointer (some ⟨b', o, none⟩)) (a.tmps.getD b undef) := hk
        generalize hu : a.tmps.getD b undef = u at hk'
        have hl : (onPtr (Value.pointer (some ⟨b', o, none⟩)) fun b o => cellsR H b fun cs => bd (partOf cs o g) kv0) = kv0 v := by
          show onRead (getP H (at_ b')) (fun cs => bd (partOf cs o g) kv0) = kv0 v
          rw [hcs]
          show bd (partOf cs o g) kv0 = kv0 v
          rw [hv]
          rfl
        obtain ⟨x, y, g1, g2, g3⟩ := lod_sound (P := P) (w := w) hg hH hk' (hl.trans rfl)
        have hx : x = v := by
          have e : kv0 x = kv0 v := g1
          unfold kv0 at e
          simp only [Option.some.injEq, Prod.mk.injEq, St.mk.injEq, Tr.n.injEq, true_and, and_true] at e
          exact e
        rw [hx] at g3
        refine ⟨v, y, h1, g3, ?_⟩
        rw [← g2]
        show (do loadVar t (← asAddr (a.tmps.getD b undef)) : Sem Value).run P w = _
        rw [hu]
        cases hk' with
        | sc h => simp [scalar] at h
        | ptr hr => rfl
      · cases h'
    · cases h'
end Go.Eng
/- The engine: whole functions. -/
namespace Go.Eng
variable {P : Program} {ins : List Nat} {A : AProg} {rn : Run} {kept : List Nat} {n : Nat}

/-- a word on a call that holds -/
def SaysOk (P : Program) (g : FuncId) (vs : List Value) (H : Heap) (nx : Nat) (c : CRet) : Prop := Entered P g ∧ nx ≤ c.count ∧ ∀ ρ us w, VRs ρ vs us → HR ρ H nx w.heap → Calls P g ⟨us⟩ w (RetR ρ H nx w c)

/-- the engine's program is the model's -/
structure AOk (P : Program) (ins : List Nat) (A : AProg) : Prop where
  eq : A.P = P
  insert : InsOk P ins
  mix : P.follows .mixedOrders = true
  hook : ∀ g vs H nx c, A.hook g vs H nx = some c → SaysOk P g vs H nx c
  func : ∀ g af, A.funcs g = some af → ∃ fn kept, P.funcs[g]? = some fn ∧ fn.body.isNone = false ∧ (fn.name == "runtime.NumGoroutine") = false ∧ compileFunc P ins kept fn = some af

def LoopOk (P : Program) (ins : List Nat) (r : Run) : Prop := ∀ kept n x ac, compileCode P ins kept n x = some ac → ∃ m, RoundsOk P kept n (r.code (.loop ac)) m x

/-- a region is compiled as one that recovers, or as it is -/
theorem compileReg_cases {draw : Bool} {ops : List Oper} {ac : ACode} (h : compileReg P ins kept n draw ops = some ac) :
    (∃ p, rcvOf kept n ops = some p ∧ draw = false ∧ ac = .reg false [(⟨some p, none, .rcv⟩, [])]) ∨ (∃ l, compileOps P ins kept n draw ops = some l ∧ ac = .reg draw l ∧ l.any (fun x => isRcv x.1.op) = false) := by
  unfold compileReg at h
  split at h
  · rename_i p hp
    cases h
    exact .inl ⟨p, hp, rfl, rfl⟩
  · split at h
    · rename_i l hl
      cases hb : l.any fun x => isRcv x.1.op with
      | true => rw [hb] at h; cases h
      | false => rw [hb] at h; cases h; exact .inr ⟨l, hl, rfl, hb⟩
    · cases h

theorem codeT_ok (hA : AOk P ins A) (hcall : CallOk P rn) (hup : UpRun rn) (hloop : LoopOk P ins rn) : ∀ (x : Code) (ac : ACode), compileCode P ins kept n x = some ac → CodeOk P ins kept n (codeT ac A rn) x := by
  intro x
  induction x with
  | skip => intro ac h; cases h; exact skip_ok
  | label l =>
    intro ac h
    cases h
    intro T D H nx o h ρ a w hH ha
    have h' : cSkip T D H nx = some o := h
    cases h'
    exact wp_label ⟨ρ, .refl hH, ha, trivial⟩
  | region id ops draw =>
    intro ac h
    rcases compileReg_cases (show compileReg P ins kept n draw ops.toList = some ac from h) with ⟨p, _, rfl, rfl⟩ | ⟨l, hl, rfl, _⟩
    · intro T D H nx o h
      have h' : (none : R0) = some o := h
      cases h'
    · cases draw with
      | false => exact reg_ok hA.eq hcall hA.insert hl
      | true => exact draw_ok hA.eq hcall hA.insert hup hA.mix hl
  | seq a b iha ihb =>
    intro ac h
    simp only [compileCode] at h
    split at h
    · rename_i ca cb ha hb
      cases h
      exact seq_ok (iha ca ha) (ihb cb hb)
    · cases h
  | cond c a b iha ihb =>
    intro ac h
    simp only [compileCode] at h
    split at h
    · rename_i cc ca cb hc ha hb
      cases h
      exact cond_ok hc (iha ca ha) (ihb cb hb)
    · cases h
  | block id a iha =>
    intro ac h
    obtain ⟨ca, ha, rfl⟩ := Option.map_eq_some_iff.1 (show (compileCode P ins kept n a).map (.block id) = some ac from h)
    exact block_ok (iha ca ha)
  | loop a iha =>
    intro ac h
    obtain ⟨ca, ha, rfl⟩ := Option.map_eq_some_iff.1 (show (compileCode P ins kept n a).map .loop = some ac from h)
    obtain ⟨m, hm⟩ := hloop kept n a ca ha
    exact loop_ok (loop_rounds (iha ca ha) hm)
  | exit id => intro ac h; cases h; exact exit_ok
  | ret => intro ac h; cases h; exact ret_ok
  | _ => intro ac h; cases h

/-! ### results -/
theorem results_ok {ρ : Rho} {T : Tr Value} {H : Heap} {nx : Nat} {a : Act} {w : World} (hH : HR ρ H nx w.heap) (he : EnvR ρ kept n [] T [] a) : ∀ {xs : List ResultVar} {ys : List (Od × Option (Option Nat))} {k : List Value → Option CRet} {c : CRet},
    compileResults P kept n xs = some ys → resultsK T H ys k = some c → ∃ vs us, k vs = some c ∧ VRs ρ vs us ∧ xs.length = us.length ∧
      ∀ (i : Nat) (x : ResultVar) (y : Value), xs[i]? = some x → us[i]? = some y → (resSem a.tmps x).run P w = .ok y w := by
  intro xs
  induction xs with
  | nil =>
    intro ys k c hc h
    cases hc
    exact ⟨[], [], h, .nil, rfl, fun i x y hx => by simp at hx⟩
  | cons x xs ih =>
    intro ys k c hc h
    simp only [compileResults] at hc
    split at hc
    · rename_i y ys' hy hys
      cases hc
      have h' : resK T H y (fun v => resultsK T H ys' fun vs => k (v :: vs)) = some c := h
      obtain ⟨v, u, h1, h2, h3⟩ := res_ok hH he hy h'
      obtain ⟨vs, us, g1, g2, g3, g4⟩ := ih hys h1
      refine ⟨v :: vs, u :: us, g1, .cons h2 g2, by simp [g3], fun i x' y' hx hy => ?_⟩
      cases i with
      | zero =>
        simp at hx hy
        subst hx; subst hy
        exact h3
      | succ i => exact g4 i x' y' (by simpa using hx) (by simpa using hy)
    · cases hc

theorem results_run {fn : Func} {tmps : Array Value} {w : World} {us : List Value} (hl : fn.results.toList.length = us.length)
    (h : ∀ (i : Nat) (x : ResultVar) (y : Value), fn.results.toList[i]? = some x → us[i]? = some y → (resSem tmps x).run P w = .ok y w) :
    (results fn tmps).run P w = .ok (oneOf us) w := by
  have e : results fn tmps = (do let vs ← fn.results.mapM (resSem tmps); pure (if h : vs.size = 1 then vs[0] else .tuple vs)) := by
    unfold results
    congr 2
  rw [e]
  have := run_mapMA (P := P) (w := w) (f := resSem tmps) hl h
  simp only [Sem.run_bind]
  refine Eq.trans (congrArg (fun r => Result.andThen r _) this) ?_
  simp only [Result.andThen_ok, Sem.run_pure]
  congr 1
  match us with
  | [] => simp [oneOf]
  | [u] => simp [oneOf]
  | u :: v :: l => simp [oneOf]

theorem VRs.single {ρ : Rho} {vs us : List Value} (h : VRs ρ vs us) : VR ρ (oneOf vs) (oneOf us) := by
  cases h with
  | nil => exact .tuple .nil
  | cons h hs =>
    cases hs with
    | nil => exact h
    | cons h1 h2 => exact .tuple (.cons h (.cons h1 h2))

/-! ### modes -/
inductive ModeR (ρ : Rho) : FrameMode → FrameMode → Prop
  | returning : ModeR ρ .returning .returning
  | panicking {ch ch' : List PanicEntry} (h : ChRs ρ ch ch') : ModeR ρ (.panicking ch) (.panicking ch')

theorem ModeR.mono {ρ ρ' : Rho} (e : Ext ρ ρ') {u u' : FrameMode} (h : ModeR ρ u u') : ModeR ρ' u u' := by
  cases h with
  | returning => exact .returning
  | panicking h => exact .panicking (h.mono e)

theorem ModeR.ne {ρ : Rho} {u u' : FrameMode} (h : ModeR ρ u u') : u' ≠ .run := by
  cases h <;> simp

theorem ChRs.append {ρ : Rho} {a a' b b' : List PanicEntry} (h : ChRs ρ a a') (h' : ChRs ρ b b') : ChRs ρ (a ++ b) (a' ++ b') := by
  induction h with
  | nil => exact h'
  | cons hv hr hg _ ih => exact .cons hv hr hg ih

theorem ChRs.drop {ρ : Rho} {a a' : List PanicEntry} (h : ChRs ρ a a') : ChRs ρ (a.dropWhile (!·.goexit)) (a'.dropWhile (!·.goexit)) := by
  induction h with
  | nil => exact .nil
  | @cons e e' l l' hv hr hg h ih =>
    rw [List.dropWhile_cons, List.dropWhile_cons, hg]
    cases e.goexit with
    | true => exact .cons hv hr hg h
    | false => exact ih

theorem settle_ok {ρ : Rho} {u u' : FrameMode} (h : ModeR ρ u u') : ModeR ρ (settle u) (settle u') := by
  cases h with
  | returning => exact .returning
  | panicking h =>
    cases h with
    | nil => exact .panicking .nil
    | @cons e e' l l' hv hr hg h =>
      obtain ⟨v, rec, ge⟩ := e
      obtain ⟨v', rec', ge'⟩ := e'
      simp only at hr hg
      subst hr; subst hg
      cases rec' with
      | false => exact .panicking (.cons hv rfl rfl h)
      | true =>
        have hd := h.drop
        show ModeR ρ (match l.dropWhile (!·.goexit) with | [] => .returning | rest => .panicking rest) (match l'.dropWhile (!·.goexit) with | [] => .returning | rest => .panicking rest)
        generalize l.dropWhile (!·.goexit) = m at hd
        generalize l'.dropWhile (!·.goexit) = m' at hd
        cases hd with
        | nil => exact .returning
        | cons hv hr hg h => exact .panicking (.cons hv hr hg h)

theorem raised_ok {ρ : Rho} {u u' : FrameMode} {ch ch' : List PanicEntry} (h : ModeR ρ u u') (hc : ChRs ρ ch ch') : ModeR ρ (raised u ch) (raised u' ch') := by
  cases h with
  | returning => exact .panicking hc
  | panicking h => exact .panicking (hc.append h)

theorem recovered_ok {ρ : Rho} {u u' : FrameMode} (h : ModeR ρ u u') : VR ρ (recovered u).1 (recovered u').1 ∧ ModeR ρ (recovered u).2 (recovered u').2 := by
  cases h with
  | returning => exact ⟨.nilI, .returning⟩
  | panicking h =>
    cases h with
    | nil => exact ⟨.nilI, .panicking .nil⟩
    | @cons e e' l l' hv hr hg h =>
      obtain ⟨v, rec, ge⟩ := e
      obtain ⟨v', rec', ge'⟩ := e'
      simp only at hr hg
      subst hr; subst hg
      cases rec' <;> cases ge' <;> first | exact ⟨hv, .panicking (.cons hv rfl rfl h)⟩ | exact ⟨.nilI, .panicking (.cons hv rfl rfl h)⟩

theorem recoverD_eq (c : Frame) (cs : List Frame) : (match recoverD (c :: cs) with | some (v, cs') => (v, cs') | none => (.nilIface, c :: cs)) = ((recovered c.mode).1, { c with mode := (recovered c.mode).2 } :: cs) := by
  have hc : ∀ m, c.mode = m → ({ c with mode := m } : Frame) = c := fun m h => by subst h; rfl
  cases hm : c.mode with
  | run => simp [recoverD, recovered, hm, hc]
  | returning => simp [recoverD, recovered, hm, hc]
  | panicking ch =>
    cases ch with
    | nil => simp [recoverD, recovered, hm, hc]
    | cons e l =>
      obtain ⟨v, rec, ge⟩ := e
      cases rec <;> cases ge <;> simp [recoverD, recovered, hm, hc]
end Go.Eng
/- The engine: calls, deferred calls, recover. -/
namespace Go.Eng
variable {P : Program} {ins : List Nat} {A : AProg} {rn : Run} {kept : List Nat} {n : Nat}

theorem startP_get : ∀ (l : List Value) (i : Nat) (T : Tr Value) (t : Nat), getP (startP l i T) (at_ t) = if i ≤ t ∧ t < i + l.length then l[t - i]? else getP T (at_ t) := by
  intro l
  induction l with
  | nil => intro i T t; rw [if_neg (by simp)]; rfl
  | cons v l ih =>
    intro i T t
    show getP (startP l (i + 1) (insP (at_ i) T (some v))) (at_ t) = _
    rw [ih]
    by_cases h1 : i + 1 ≤ t ∧ t < i + 1 + l.length
    · rw [if_pos h1, if_pos (by simp; omega)]
      have : t - i = (t - (i + 1)) + 1 := by omega
      rw [this, List.getElem?_cons_succ]
    · rw [if_neg h1]
      by_cases h2 : t = i
      · subst h2
        rw [getP_insP, if_pos (by simp)]
        simp
      · rw [getP_insP_ne _ _ _ _ (fun e => h2 (at_inj e)), if_neg (by simp; omega)]

theorem start_ok {ρ : Rho} {vs us : List Value} (h : VRs ρ vs us) : ActR ρ kept n (startP vs 0 .e) [] { tmps := ⟨us⟩ ++ Array.replicate (n - us.length) undef, defers := [] } := by
  refine ⟨⟨by simp; omega, fun t od hf => by simp [find] at hf, fun t _ => ?_⟩, .nil⟩
  rw [slotPath_eq, startP_get]
  have hl := h.length
  have hg : (⟨us⟩ ++ Array.replicate (n - us.length) undef : Array Value).getD t undef = us.getD t undef := by
    rw [Array.getD_eq_getD_getElem?, List.getD_eq_getElem?_getD, Array.getElem?_append]
    by_cases ht : t < us.length
    · rw [if_pos (by simpa using ht)]
      simp
    · rw [if_neg (by simpa using ht), Array.getElem?_replicate, List.getElem?_eq_none (by omega)]
      split <;> rfl
  show VR ρ _ ((⟨us⟩ ++ Array.replicate (n - us.length) undef : Array Value).getD t undef)
  rw [hg, List.getD_eq_getElem?_getD]
  by_cases ht : t < vs.length
  · rw [if_pos (by omega)]
    have hv : vs[t]? = some vs[t] := List.getElem?_eq_getElem ht
    obtain ⟨u, hu, hr⟩ := h.get hv
    rw [Nat.sub_zero, hv, hu]
    exact hr
  · rw [if_neg (by omega), List.getElem?_eq_none (by omega)]
    exact VR.undef

theorem recover_run {o : Oper} {d : Call} {a : Act} {w : World} (ho : o.op = .call d) (hd : d.callee = .builtin .recover) (hargs : d.args.toList = []) : (execOp a.eval o).run P w = .ok .recover w := by
  rw [builtin_op ho hd]
  rfl

theorem rcv_ok (hA : AOk P ins A) (hcall : CallOk P rn) (hup : UpRun rn) (hloop : LoopOk P ins rn) {v vm : Value} {cs cs' : List Frame} (hcs : (match recoverD cs with | some (v, cs') => (v, cs') | none => (.nilIface, cs)) = (vm, cs')) :
    ∀ (x : Code) (ac ac' : ACode) (p : List Bool), compileCode P ins kept n x = some ac → splitRcv ac = some (p, ac') → ∀ T D H nx o, codeT ac' A rn (insP p T (some v)) D H nx = some o → ∀ ρ a w, HR ρ H nx w.heap → ActR ρ kept n T D a → VR ρ v vm →
      ∀ Q : Exit → Act → List Frame → World → Prop, (∀ e a' w', OutR ρ H nx w kept n o e a' w' → Q e a' cs' w') → x.wpS P Q a cs w := by
  intro x
  induction x with
  | seq a b iha ihb =>
    intro ac ac' p hc hs T D H nx o h ρ c w hH ha hv Q hQ
    simp only [compileCode] at hc
    split at hc
    · rename_i ca cb hca hcb
      cases hc
      simp only [splitRcv] at hs
      split at hs
      · rename_i p0 ca' hsp
        cases hs
        obtain ⟨o1, h1, h2⟩ := bd_eq (show bd (codeT ca' A rn (insP p T (some v)) D H nx) (seqK (codeT cb A rn)) = some o from h)
        refine wpS_seq (iha ca ca' p hca hsp T D H nx o1 h1 ρ c w hH ha hv _ fun e a1 w1 hq => ?_)
        have := seq_after (Q := OutR ρ H nx w kept n o) (N := fun a w => b.wpS P Q a cs' w) h2 (fun st hst ρ1 a1 w1 g1 g2 => wpS_of_wp (wp_mono (codeT_ok hA hcall hup hloop b cb hcb _ _ _ _ o hst ρ1 a1 w1 g1.hr g2) fun e a2 w2 hq => hQ e a2 w2 (.trans g1 hq))) hq
        cases e <;> first | exact this | exact hQ _ _ _ this
      · cases hs
    · cases hc
  | region id ops draw =>
    intro ac ac' p hc hs T D H nx o h ρ c w hH ha hv Q hQ
    rcases compileReg_cases (show compileReg P ins kept n draw ops.toList = some ac from hc) with ⟨p0, hp0, rfl, rfl⟩ | ⟨l, _, rfl, hl⟩
    · simp only [splitRcv, Option.some.injEq, Prod.mk.injEq] at hs
      obtain ⟨rfl, rfl⟩ := hs
      have h' : some (Ex.normal, (⟨insP p0 T (some v), D, H, nx⟩ : St)) = some o := h
      cases h'
      unfold rcvOf at hp0
      split at hp0
      · rename_i op hops
        split at hp0
        · rename_i d t ho hg hd
          split at hp0
          · rename_i hcal
            obtain ⟨hb, hp⟩ := bif_both hp0
            cases hp
            simp only [Bool.and_eq_true, List.isEmpty_iff] at hb
            obtain ⟨⟨hargs, hlt⟩, hk⟩ := hb
            have hlt' : t < n := by rwa [Nat.blt_eq] at hlt
            have hops' : ops = #[op] := by apply Array.ext'; rw [hops]
            subst hops'
            refine wpS_region ?_
            show wpOpsS P #[op] Q [0] c cs w
            have hwanted : Region.wanted op (yielded #[op] c.tmps) = true := by unfold Region.wanted; rw [hg]
            have hrun := recover_run (P := P) (a := c) (w := w) ho hcal hargs
            have hput : EnvR ρ kept n [] (insP (slotPath t) T (some v)) [] (c.put (some t) vm) := by
              have := ha.env.put (keep := some (slotPath t)) (T' := insP (slotPath t) T (some v)) hv hlt' (.inr ⟨_, rfl, rfl, rfl, rfl⟩)
              exact ⟨this.size, fun t od hf => by simp [find] at hf, this.kept⟩
            have hfin : Q .normal (c.put (some t) vm) cs' w := hQ _ _ _ ⟨ρ, .refl hH, ⟨hput, ha.dfr⟩, trivial⟩
            simp only [wpOpsS]
            rw [show (#[op] : Array Oper)[0]? = some op from rfl]
            simp only [hwanted, if_true, hrun, hd]
            cases hr : recoverD cs with
            | none =>
              rw [hr] at hcs
              cases hcs
              exact hfin
            | some y =>
              rw [hr] at hcs
              obtain ⟨y1, y2⟩ := y
              cases hcs
              exact hfin
          · cases hp0
        · cases hp0
      · cases hp0
    · exfalso
      unfold splitRcv at hs
      split at hs
      · rename_i he
        cases he
      · rename_i he
        cases he
        simp [isRcv] at hl
      · cases hs
  | skip => intro ac ac' p hc hs; cases hc; cases hs
  | label l => intro ac ac' p hc hs; cases hc; cases hs
  | exit id => intro ac ac' p hc hs; cases hc; cases hs
  | ret => intro ac ac' p hc hs; cases hc; cases hs
  | block id a _ =>
    intro ac ac' p hc hs
    obtain ⟨ca, _, rfl⟩ := Option.map_eq_some_iff.1 (show (compileCode P ins kept n a).map (.block id) = some ac from hc)
    cases hs
  | loop a _ =>
    intro ac ac' p hc hs
    obtain ⟨ca, _, rfl⟩ := Option.map_eq_some_iff.1 (show (compileCode P ins kept n a).map .loop = some ac from hc)
    cases hs
  | cond c a b _ _ =>
    intro ac ac' p hc hs
    simp only [compileCode] at hc
    split at hc
    · cases hc; cases hs
    · cases hc
  | _ => intro ac ac' p hc hs; cases hc

/-- the code and the results of a compiled function -/
theorem compileFunc_some {fn : Func} {af : AFunc} (h : compileFunc P ins kept fn = some af) : ∃ x, fn.body = some x ∧ compileCode P ins kept fn.ntmps x = some af.body ∧ compileResults P kept fn.ntmps fn.results.toList = some af.results := by
  unfold compileFunc at h
  split at h
  · rename_i x hx
    split at h
    · rename_i b r hb hr
      cases h
      exact ⟨x, hx, hb, hr⟩
    · cases h
  · cases h

theorem results_nil {fn : Func} {tmps : Array Value} {w : World} (h : compileResults P kept n fn.results.toList = some []) : (results fn tmps).run P w = .ok (.tuple #[]) w := by
  have : fn.results.toList = [] := by
    cases hl : fn.results.toList with
    | nil => rfl
    | cons x l =>
      rw [hl] at h
      simp only [compileResults] at h
      split at h
      · cases h
      · cases h
  exact results_none (by apply Array.ext'; rw [this]) tmps P w

/-- how a deferred call ends -/
def EndsD (ρ : Rho) (H : Heap) (nx : Nat) (w : World) (u1 : FrameMode) (H1 : Heap) (nx1 : Nat) (e : Ending) (u2 : FrameMode) (w' : World) : Prop :=
  ∃ ρ', Went ρ H nx w ρ' H1 nx1 w' ∧ match e with
    | .returned _ => ModeR ρ' u1 (settle u2)
    | .panicked ch => ModeR ρ' u1 (raised u2 ch)
    | .outgrown => False

theorem endD_ok {ρ : Rho} {H : Heap} {nx : Nat} {w w' : World} {o : Ex × St} {u u2 u1 : FrameMode} {H1 : Heap} {nx1 : Nat} {fn : Func} {c₀ : Frame} {cs : List Frame} {e : Exit} {a' : Act} (h : endD o u = some (u1, H1, nx1)) (ho : OutR ρ H nx w kept n o e a' w')
    (hm : ∀ ρ', Ext ρ ρ' → ModeR ρ' u u2) (hres : ∀ tmps, (results fn tmps).run P w' = .ok (.tuple #[]) w') : bodyPostS P fn c₀ cs (EndsD ρ H nx w u1 H1 nx1) e a' ({ c₀ with mode := u2 } :: cs) w' := by
  obtain ⟨ρ', g1, g2, g3⟩ := ho
  have hm' := hm ρ' g1.stp.ext
  have hdf := g2.dfr
  unfold endD at h
  split at h
  · cases h
    cases e with
    | normal =>
      generalize hd : a'.defers = ds at hdf
      cases hdf
      exact ⟨hd, u2, rfl, _, hres _, ρ', g1, settle_ok hm'⟩
    | _ => exact g3.elim
  · cases h
    cases e with
    | ret =>
      generalize hd : a'.defers = ds at hdf
      cases hdf
      exact ⟨hd, u2, rfl, _, hres _, ρ', g1, settle_ok hm'⟩
    | _ => exact g3.elim
  · cases h
    cases e with
    | panic ch' =>
      generalize hd : a'.defers = ds at hdf
      cases hdf
      exact ⟨hd, u2, rfl, ρ', g1, raised_ok hm' g3⟩
    | _ => exact g3.elim
  · cases h

theorem deferred_ok (hA : AOk P ins A) (hcall : CallOk P rn) (hup : UpRun rn) (hloop : LoopOk P ins rn) {ρ : Rho} {f : Value} {args : List Value} {d : Deferred} {u u' u1 : FrameMode} {H H1 : Heap} {nx nx1 : Nat} {w : World}
    (h : deferredK A rn f args u H nx = some (u1, H1, nx1)) (hd : DfR ρ (f, args) d) (hm : ModeR ρ u u') (hH : HR ρ H nx w.heap) :
    ∃ fv cap g as, d.target = .fn fv cap ∧ (invoke d.target d.args).run P w = .ok (.enter g as) w ∧ CallsD P g as u' w (EndsD ρ H nx w u1 H1 nx1) := by
  obtain ⟨g0, x1, x1', q, q', vs, e1, rfl, e3, e4, e5⟩ := hd
  simp only at e1 e5
  subst e1
  unfold deferredK at h
  split at h
  · rename_i g first captured hg
    simp only [Value.func.injEq, Fn.func.injEq] at hg
    obtain ⟨rfl, rfl, rfl⟩ := hg
    split at h
    · rename_i c hfn
      obtain ⟨fn, kept, p1, p2, p3, p4⟩ := hA.func _ _ hfn
      obtain ⟨x, b1, b2, b3⟩ := compileFunc_some p4
      have hent : Entered P g0 := ⟨fn, p1, p2, p3⟩
      have hvs : VRs ρ (x1 ++ args ++ q) (x1' ++ vs ++ q') := (e3.append e5).append e4
      have hst := start_ok (kept := kept) (n := fn.ntmps) hvs
      have hlen : (⟨x1' ++ vs ++ q'⟩ : Array Value).size = (x1' ++ vs ++ q').length := rfl
      refine ⟨_, _, g0, ⟨x1' ++ vs ++ q'⟩, rfl, ?_, ?_⟩
      · have : invoke (.fn (.func g0) ⟨q'⟩) ⟨x1' ++ vs⟩ = callFunc g0 ⟨x1' ++ vs ++ q'⟩ := by
          simp only [invoke]
          congr 1
          apply Array.ext'
          simp
        rw [this]
        exact hent.run
      · split at h
        · rename_i p c' hsp
          obtain ⟨o, h1, h2⟩ := bd_eq h
          rw [startT_eq, setP_eq] at h1
          obtain ⟨hrv, hrm⟩ := recovered_ok hm
          refine callsD_of_wpS p1 b1 fun c₀ cs hc₀ => ?_
          have hcs := recoverD_eq c₀ cs
          rw [hc₀] at hcs
          rw [hlen]
          refine rcv_ok hA hcall hup hloop hcs x c c' p b2 hsp _ [] H nx o h1 ρ _ w hH hst hrv _ fun e a' w' ho => ?_
          exact endD_ok h2 ho (fun ρ' he => hrm.mono he) fun tmps => results_nil b3
        · obtain ⟨o, h1, h2⟩ := bd_eq h
          rw [startT_eq] at h1
          refine callsD_of_wpS p1 b1 fun c₀ cs hc₀ => ?_
          rw [hlen]
          have hc₀' : ({ c₀ with mode := u' } : Frame) = c₀ := by subst hc₀; rfl
          refine wpS_of_wp (wp_mono (codeT_ok hA hcall hup hloop x c b2 _ [] H nx o h1 ρ _ w hH hst) fun e a' w' ho => ?_)
          have := endD_ok (P := P) (fn := fn) (c₀ := c₀) (cs := cs) h2 ho (fun ρ' he => hm.mono he) fun tmps => results_nil b3
          rwa [hc₀'] at this
    · cases h
  · rename_i hno
    exact absurd rfl (hno _ _ _)
end Go.Eng
/- The engine: whatever it says of a call, holds. -/
namespace Go.Eng
variable {P : Program} {ins : List Nat} {A : AProg} {rn : Run} {kept : List Nat} {n : Nat}

theorem RetR.trans {ρ ρ1 : Rho} {H H1 : Heap} {nx nx1 : Nat} {w w1 : World} {c : CRet} {e : Ending} {w' : World} (h : Went ρ H nx w ρ1 H1 nx1 w1) (h' : RetR ρ1 H1 nx1 w1 c e w') : RetR ρ H nx w c e w' := by
  cases c with
  | ok v H' nx' =>
    obtain ⟨u, ρ', g1, g2, g3⟩ := h'
    exact ⟨u, ρ', g1, g2, h.trans g3⟩
  | pan ch H' nx' =>
    obtain ⟨u, ρ', g1, g2, g3⟩ := h'
    exact ⟨u, ρ', g1, g2, h.trans g3⟩

theorem leaves_ok (hA : AOk P ins A) (hcall : CallOk P rn) (hup : UpRun rn) (hloop : LoopOk P ins rn) {fn : Func} {af : AFunc} {T : Tr Value} {tmps : Array Value} {c : CRet} (hres : compileResults P kept n fn.results.toList = some af.results) :
    ∀ (D : List Dfd) (u : FrameMode) (H : Heap) (nx : Nat) (y : FrameMode × Heap × Nat), unwindD A rn D u H nx = some y → leaveM af T y = some c → ∀ ρ ds u' w, DfRs ρ D ds → ModeR ρ u u' → HR ρ H nx w.heap → EnvR ρ kept n [] T [] ⟨tmps, []⟩ →
      ∀ R : Ending → World → Prop, (∀ e w', RetR ρ H nx w c e w' → R e w') → Leaves P fn tmps R ds u' w := by
  intro D
  induction D with
  | nil =>
    intro u H nx y hy hl ρ ds u' w hd hm hH he R hR
    cases hy
    cases hd
    unfold leaveM at hl
    cases hm with
    | returning =>
      obtain ⟨vs, us, g1, g2, g3, g4⟩ := results_ok hH he hres (show resultsK T H af.results (fun vs => some (.ok (oneOf vs) H nx)) = some c from hl)
      cases g1
      exact ⟨oneOf us, results_run g3 g4, hR _ _ ⟨_, ρ, rfl, g2.single, .refl hH⟩⟩
    | panicking h =>
      have hl' : some (CRet.pan _ H nx) = some c := hl
      cases hl'
      exact hR _ _ ⟨_, ρ, rfl, h, .refl hH⟩
  | cons d D ih =>
    obtain ⟨f, args⟩ := d
    intro u H nx y hy hl ρ ds u' w hd hm hH he R hR
    unfold unwindD at hy
    split at hy
    · rename_i u1 H1 nx1 h1
      generalize hdd : (f, args) :: D = DD at hd
      cases hd with
      | nil => cases hdd
      | cons hx hrest =>
        cases hdd
        obtain ⟨fv, cap, g, as, k1, k2, k3⟩ := deferred_ok hA hcall hup hloop h1 hx hm hH
        refine ⟨hm.ne, fv, cap, g, as, k1, k2, k3.mono fun e u2 w' hE => ?_⟩
        obtain ⟨ρ', q1, q2⟩ := hE
        cases e with
        | returned v => exact ih _ _ _ _ hy hl ρ' _ _ _ (hrest.mono q1.stp.ext) q2 q1.hr (he.mono q1.stp.ext) R fun e w'' hr => hR e w'' (.trans q1 hr)
        | panicked ch => exact ih _ _ _ _ hy hl ρ' _ _ _ (hrest.mono q1.stp.ext) q2 q1.hr (he.mono q1.stp.ext) R fun e w'' hr => hR e w'' (.trans q1 hr)
        | outgrown => exact q2.elim
    · cases hy

theorem callF_ok (hA : AOk P ins A) (hcall : CallOk P rn) (hup : UpRun rn) (hloop : LoopOk P ins rn) {g : FuncId} {vs : List Value} {H : Heap} {nx : Nat} {c : CRet} (h : callF A rn g vs H nx = some c) :
    Entered P g ∧ ∀ ρ us w, VRs ρ vs us → HR ρ H nx w.heap → Calls P g ⟨us⟩ w (RetR ρ H nx w c) := by
  have h' : (Option.rec (bd (A.funcs g) (callF1 A rn vs H nx)) some (A.hook g vs H nx) : Option CRet) = some c := h
  cases hh : A.hook g vs H nx with
  | some c' =>
    rw [hh] at h'
    cases h'
    obtain ⟨q1, _, q2⟩ := hA.hook _ _ _ _ _ hh
    exact ⟨q1, q2⟩
  | none =>
  rw [hh] at h'
  obtain ⟨af, h1, h2⟩ := bd_eq (show bd (A.funcs g) (callF1 A rn vs H nx) = some c from h')
  obtain ⟨fn, kept, p1, p2, p3, p4⟩ := hA.func _ _ h1
  obtain ⟨x, b1, b2, b3⟩ := compileFunc_some p4
  refine ⟨⟨fn, p1, p2, p3⟩, fun ρ us w hvs hH => ?_⟩
  obtain ⟨o, h3, h4⟩ := bd_eq (show bd (startT vs .e fun T => codeT af.body A rn T [] H nx) (endF A rn af) = some c from h2)
  rw [startT_eq] at h3
  refine calls_of_wp_defers p1 b1 ?_
  have hst := start_ok (kept := kept) (n := fn.ntmps) hvs
  have hlen : (⟨us⟩ : Array Value).size = us.length := rfl
  rw [hlen]
  refine wp_mono (codeT_ok hA hcall hup hloop x af.body b2 _ [] H nx o h3 ρ _ w hH hst) fun e a' w' ho => ?_
  obtain ⟨ex, T, D, H', nx'⟩ := o
  obtain ⟨ρ', g1, g2, g3⟩ := ho
  have fin : ∀ u u', leaveF A rn af u ⟨T, D, H', nx'⟩ = some c → ModeR ρ' u u' → Leaves P fn a'.tmps (RetR ρ H nx w c) a'.defers u' w' := by
    intro u u' hl hm
    obtain ⟨y, k1, k2⟩ := bd_eq (show bd (unwindD A rn D u H' nx') (leaveM af T) = some c from hl)
    exact leaves_ok hA hcall hup hloop b3 D u H' nx' y k1 k2 ρ' _ u' w' g2.dfr hm g1.hr ⟨g2.env.size, g2.env.env, g2.env.kept⟩ _ fun e w'' hr => .trans g1 hr
  cases ex with
  | normal =>
    cases e with
    | normal => exact fin _ _ h4 .returning
    | _ => exact g3.elim
  | exit i => cases h4
  | ret =>
    cases e with
    | ret => exact fin _ _ h4 .returning
    | _ => exact g3.elim
  | panic ch =>
    cases e with
    | panic ch' => exact fin _ _ h4 (.panicking g3)
    | _ => exact g3.elim

theorem AOk.up (hA : AOk P ins A) (m : Nat) : UpRun (run A m) := run_up (fun g vs H nx c h => (hA.hook g vs H nx c h).2.1) m

theorem run_ok (hA : AOk P ins A) : ∀ m, CallOk P (run A m) ∧ LoopOk P ins (run A m) := by
  intro m
  induction m with
  | zero => exact ⟨(fun g vs H nx c h => by cases h), (fun kept n x ac _ => ⟨0, (fun T D H nx o h => by cases h)⟩)⟩
  | succ m ih =>
    refine ⟨fun g vs H nx c h => callF_ok hA ih.1 (hA.up m) ih.2 h, fun kept n x ac hc => ?_⟩
    obtain ⟨k, hk⟩ := ih.2 kept n x ac hc
    exact ⟨k + 1, loop_rounds (codeT_ok hA ih.1 (hA.up m) ih.2 x ac hc) hk⟩

/-- the engine's word on a closed call, from an empty heap: in every world -/
theorem closed_call (hA : AOk P ins A) {m : Nat} {g : FuncId} {vs us : List Value} {v : Value} {H : Heap} {nx : Nat} (h : (run A m).call g vs .e 0 = some (.ok v H nx)) (hv : VRs (fun _ => none) vs us) (w : World) :
    Calls P g ⟨us⟩ w fun e w' => ∃ ρ u, e = .returned u ∧ VR ρ v u ∧ Stp (fun _ => none) .e w ρ H w' := by
  have h0 : HR (fun _ => none) .e 0 w.heap := ⟨(fun b k hb => by cases hb), (fun b b' k k' s s' hb => by cases hb), fun _ _ => rfl⟩
  refine (((run_ok hA m).1 g vs .e 0 _ h).2 _ us w hv h0).mono fun e w' hr => ?_
  obtain ⟨u, ρ', g1, g2, g3⟩ := hr
  exact ⟨ρ', u, g1, g2, g3.stp⟩
end Go.Eng
